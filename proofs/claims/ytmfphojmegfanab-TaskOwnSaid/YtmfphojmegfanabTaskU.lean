/- what a task uses; ceilings. -/
import Derived.Test.YtmfphojmegfanabTask
namespace Go.Proofs.Ytmfphojmegfanab
open Go.RowKit
set_option linter.unusedVariables false
def usesB (t : TaskV) (s : Int) : Bool := decide (0 ≤ s) && decide (0 < t.sec.xs.getD s.toNat 0)
theorem uses_neg {t : TaskV} {s : Int} (h : s < 0) : false = usesB t s := by
  unfold usesB; rw [decide_eq_false (by omega : ¬ 0 ≤ s)]; rfl
theorem uses_out {t : TaskV} {s : Int} (h : (t.sec.xs.length : Int) ≤ s) : false = usesB t s := by
  unfold usesB; rw [List.getD_eq_getElem?_getD, List.getElem?_eq_none (by omega)]; simp
theorem uses_at {t : TaskV} {n : Nat} (h : n < t.sec.xs.length) : usesB t (n : Int) = decide (0 < t.sec.xs[n]) := by
  unfold usesB
  rw [Int.toNat_natCast, List.getD_eq_getElem?_getD, List.getElem?_eq_getElem h, decide_eq_true (by omega : 0 ≤ (n : Int))]
  simp
set_option maxHeartbeats 1000000 in
theorem uses_any (t : TaskV) (s : Int) (w : World) (ht : t.Ok w) : Calls Try.prog 8 #[t.val, .int .i64 s] w fun e w' => e = .returned (.bool (usesB t s)) ∧ Ext w w' := by
  have hl : t.sec.xs.length ≤ 4611686018427387904 := by have := ht.sec.fit; omega
  have hr := ht.sec.row
  clear ht
  obtain ⟨period, cycles, ⟨SA, Sc, ss⟩, dv⟩ := t
  unfold TaskV.val
  dsimp only at hl hr ⊢
  by_cases h1 : s < 0
  · have d1 : decide (0 ≤ s) = false := decide_eq_false (by omega)
    go_enter Try.func8, Try.ntmps8
    go_wp2
    go_ret
    exact ⟨ret_bool (uses_neg h1), (by repeat (first | exact Ext.refl _ | assumption | refine Ext.alloc ?_ _ | refine Ext.drew ?_ | refine Ext.drewN ?_ _ | refine Ext.trans ?_ (by assumption)))⟩
  by_cases h2 : (ss.length : Int) ≤ s
  · have d1 : decide (0 ≤ s) = true := decide_eq_true (by omega)
    have d2 : decide (s < (ss.length : Int)) = false := decide_eq_false (by omega)
    go_enter Try.func8, Try.ntmps8
    go_wp2
    go_ret
    exact ⟨ret_bool (uses_out h2), (by repeat (first | exact Ext.refl _ | assumption | refine Ext.alloc ?_ _ | refine Ext.drew ?_ | refine Ext.drewN ?_ _ | refine Ext.trans ?_ (by assumption)))⟩
  obtain ⟨n, rfl⟩ := Int.eq_ofNat_of_zero_le (show 0 ≤ s by omega)
  have hn : n < ss.length := by omega
  obtain ⟨b, o, rfl, hbl, hc⟩ := ints_at hr n hn
  have hu := uses_at (t := ⟨period, cycles, ⟨some ⟨b, o, none⟩, Sc, ss⟩, dv⟩) hn
  have HU := Lib.hid hu; clear hu
  by_cases h3 : 0 < ss[n]
  · have d3 : decide (0 < ss[n]) = true := decide_eq_true h3
    go_enter Try.func8, Try.ntmps8
    go_wp2
    go_ret
    exact ⟨ret_bool (by rw [HU.out]; exact d3.symm), (by repeat (first | exact Ext.refl _ | assumption | refine Ext.alloc ?_ _ | refine Ext.drew ?_ | refine Ext.drewN ?_ _ | refine Ext.trans ?_ (by assumption)))⟩
  · have d3 : decide (0 < ss[n]) = false := decide_eq_false h3
    go_enter Try.func8, Try.ntmps8
    go_wp2
    go_ret
    exact ⟨ret_bool (by rw [HU.out]; exact d3.symm), (by repeat (first | exact Ext.refl _ | assumption | refine Ext.alloc ?_ _ | refine Ext.drew ?_ | refine Ext.drewN ?_ _ | refine Ext.trans ?_ (by assumption)))⟩
set_option maxHeartbeats 1000000 in
theorem ruses_any (t : TaskV) (s : Int) (w : World) (ht : t.Ok w) : Calls Try.prog 9 #[t.val, .int .i64 s] w fun e w' => e = .returned (.bool (usesB t s)) ∧ Ext w w' := by
  have hl : t.sec.xs.length ≤ 4611686018427387904 := by have := ht.sec.fit; omega
  have hr := ht.sec.row
  clear ht
  obtain ⟨period, cycles, ⟨SA, Sc, ss⟩, dv⟩ := t
  unfold TaskV.val
  dsimp only at hl hr ⊢
  by_cases h1 : s < 0
  · have d1 : decide (0 ≤ s) = false := decide_eq_false (by omega)
    go_enter Try.func9, Try.ntmps9
    go_wp2
    go_ret
    exact ⟨ret_bool (uses_neg h1), (by repeat (first | exact Ext.refl _ | assumption | refine Ext.alloc ?_ _ | refine Ext.drew ?_ | refine Ext.drewN ?_ _ | refine Ext.trans ?_ (by assumption)))⟩
  by_cases h2 : (ss.length : Int) ≤ s
  · have d1 : decide (0 ≤ s) = true := decide_eq_true (by omega)
    have d2 : decide (s < (ss.length : Int)) = false := decide_eq_false (by omega)
    go_enter Try.func9, Try.ntmps9
    go_wp2
    go_ret
    exact ⟨ret_bool (uses_out h2), (by repeat (first | exact Ext.refl _ | assumption | refine Ext.alloc ?_ _ | refine Ext.drew ?_ | refine Ext.drewN ?_ _ | refine Ext.trans ?_ (by assumption)))⟩
  obtain ⟨n, rfl⟩ := Int.eq_ofNat_of_zero_le (show 0 ≤ s by omega)
  have hn : n < ss.length := by omega
  obtain ⟨b, o, rfl, hbl, hc⟩ := ints_at hr n hn
  have hu := uses_at (t := ⟨period, cycles, ⟨some ⟨b, o, none⟩, Sc, ss⟩, dv⟩) hn
  have HU := Lib.hid hu; clear hu
  by_cases h3 : 0 < ss[n]
  · have d3 : decide (0 < ss[n]) = true := decide_eq_true h3
    go_enter Try.func9, Try.ntmps9
    go_wp2
    go_ret
    exact ⟨ret_bool (by rw [HU.out]; exact d3.symm), (by repeat (first | exact Ext.refl _ | assumption | refine Ext.alloc ?_ _ | refine Ext.drew ?_ | refine Ext.drewN ?_ _ | refine Ext.trans ?_ (by assumption)))⟩
  · have d3 : decide (0 < ss[n]) = false := decide_eq_false h3
    go_enter Try.func9, Try.ntmps9
    go_wp2
    go_ret
    exact ⟨ret_bool (by rw [HU.out]; exact d3.symm), (by repeat (first | exact Ext.refl _ | assumption | refine Ext.alloc ?_ _ | refine Ext.drew ?_ | refine Ext.drewN ?_ _ | refine Ext.trans ?_ (by assumption)))⟩
def ceilS (s : Int) (m : Int) (t : TaskV) : Int := if usesB t s = true then min m t.period else m
def ceilF (ts : List TaskV) (s : Int) : Int := ts.foldl (ceilS s) 1099511627776
theorem ceil_snoc (s b : Int) (xs : List TaskV) (k : Nat) (hk : k < xs.length) : (xs.take (k + 1)).foldl (ceilS s) b = ceilS s ((xs.take k).foldl (ceilS s) b) xs[k] := by
  rw [List.take_succ_eq_append_getElem hk, List.foldl_append]; rfl
set_option maxHeartbeats 1000000 in
theorem ceiling_row (A : Option Addr) (c : Nat) (ts : List TaskV) (s : Int) (w : World) (hrow : Row w A (ts.flatMap TaskV.enc)) (heach : ∀ x ∈ ts, x.Ok w) (hl : ts.length ≤ 4611686018427387904) :
    Calls Try.prog 14 #[.slice A ts.length c, .int .i64 s] w fun e w' => e = .returned (.int .i64 (ceilF ts s)) ∧ Ext w w' := by
  have HE := Lib.hid heach; clear heach
  go_enter Try.func14, Try.ntmps14
  go_wp2
  go_loopw [5, 7, 10] (fun u _ i wr => ∃ (k : Nat) (x : Int), k ≤ ts.length ∧ i = .int .i64 k ∧ u = .int .i64 x ∧ Hid (x = (ts.take k).foldl (ceilS s) 1099511627776) ∧ Ext w wr) (fun _ _ i _ => ts.length - (intOf i).toNat)
  case atStart => exact ⟨0, _, by omega, rfl, rfl, rfl, Ext.refl _⟩
  case round =>
    obtain ⟨k, x, hk, rfl, rfl, hx, hb⟩ := hrel
    by_cases hlt : k < ts.length
    · obtain ⟨b, o, rfl, ub, u0, u1, u2, u3⟩ := TaskV.row (hrow.ext hb) k hlt
      have hto : ts[k].Ok w := HE.out _ (List.getElem_mem hlt)
      have HTO := Lib.hid hto; clear hto
      have hsn := ceil_snoc s 1099511627776 ts k hlt
      rw [← hx.out] at hsn
      have HS := Lib.hid hsn; clear hsn
      go_wp2_with fail
      refine (uses_any ts[k] s _ (HTO.out.ext (by repeat (first | exact Ext.refl _ | assumption | refine Ext.alloc ?_ _ | refine Ext.drew ?_ | refine Ext.drewN ?_ _ | refine Ext.trans ?_ (by assumption))))).mono ?_
      rintro e w1 ⟨rfl, hb1⟩
      obtain ⟨hc1, hf1, _⟩ := hb1.rules
      have hs1 := hb1.lt
      cases hm : usesB ts[k] s
      · have HM := Lib.hid hm; clear hm
        go_wp2
        go_roundw
        case rel => exact ⟨k + 1, x, by omega, by go_num, rfl, (by rw [HS.out, ceilS, if_neg (by rw [HM.out]; simp)] : x = _), (by repeat (first | exact Ext.refl _ | assumption | refine Ext.alloc ?_ _ | refine Ext.drew ?_ | refine Ext.drewN ?_ _ | refine Ext.trans ?_ (by assumption)))⟩
        case measure => simp [intOf]; omega
      · have HM := Lib.hid hm; clear hm
        by_cases c2 : x < ts[k].period
        all_goals
          go_wp2
          go_roundw
          case rel => exact ⟨k + 1, min x ts[k].period, by omega, by go_num, congrArg (Value.int .i64) (by omega), (by rw [HS.out, ceilS, if_pos HM.out] : min x ts[k].period = _), (by repeat (first | exact Ext.refl _ | assumption | refine Ext.alloc ?_ _ | refine Ext.drew ?_ | refine Ext.drewN ?_ _ | refine Ext.trans ?_ (by assumption)))⟩
          case measure => simp [intOf]; omega
    · have hks : k = ts.length := by omega
      subst hks
      have hx2 : x = ceilF ts s := by have := hx.out; rw [List.take_length] at this; exact this
      have HX := Lib.hid hx2; clear hx2 hx
      go_wp2
      go_ret
      exact ⟨ret_int HX.out, (by repeat (first | exact Ext.refl _ | assumption | refine Ext.alloc ?_ _ | refine Ext.drew ?_ | refine Ext.drewN ?_ _ | refine Ext.trans ?_ (by assumption)))⟩
theorem ceiling_any (A : Option Addr) (c : Nat) (ts : List TaskV) (s : Int) (w : World) (h : TasksOk w ⟨A, c, ts⟩) :
    Calls Try.prog 14 #[.slice A ts.length c, .int .i64 s] w fun e w' => e = .returned (.int .i64 (ceilF ts s)) ∧ Ext w w' :=
  ceiling_row A c ts s w h.row h.each (by have := h.fit; dsimp only at this; omega)
set_option maxHeartbeats 1000000 in
theorem rceiling_any (A : Option Addr) (c : Nat) (ts : List TaskV) (s : Int) (w : World) (h : TasksOk w ⟨A, c, ts⟩) :
    Calls Try.prog 15 #[.slice A ts.length c, .int .i64 s] w fun e w' => e = .returned (.int .i64 (ceilF ts s)) ∧ Ext w w' := by
  have hrow := h.row
  have hfit := h.fit
  have heach := h.each
  dsimp only at hrow hfit heach
  have HE := Lib.hid heach; clear heach h
  have hl : ts.length ≤ 4611686018427387904 := by omega
  clear hfit
  go_enter Try.func15, Try.ntmps15
  go_wp2
  go_loopw [5, 6] (fun u i wr => ∃ (k : Nat) (x : Int), k ≤ ts.length ∧ i = .int .i64 k ∧ u = .int .i64 x ∧ Hid (x = (ts.take k).foldl (ceilS s) 1099511627776) ∧ Ext w wr) (fun _ i _ => ts.length - (intOf i).toNat)
  case atStart => exact ⟨0, _, by omega, rfl, rfl, rfl, Ext.refl _⟩
  case round =>
    obtain ⟨k, x, hk, rfl, rfl, hx, hb⟩ := hrel
    by_cases hlt : k < ts.length
    · obtain ⟨b, o, rfl, ub, u0, u1, u2, u3⟩ := TaskV.row (hrow.ext hb) k hlt
      have hto : ts[k].Ok w := HE.out _ (List.getElem_mem hlt)
      have HTO := Lib.hid hto; clear hto
      have hsn := ceil_snoc s 1099511627776 ts k hlt
      rw [← hx.out] at hsn
      have HS := Lib.hid hsn; clear hsn
      cases hm : usesB ts[k] s
      · have HM := Lib.hid hm; clear hm
        go_wp2_with (go_at_call 9; refine (ruses_any ts[k] s _ (HTO.out.ext (by repeat (first | exact Ext.refl _ | assumption | refine Ext.alloc ?_ _ | refine Ext.drew ?_ | refine Ext.drewN ?_ _ | refine Ext.trans ?_ (by assumption))))).mono ?_; rw [HM.out]; rintro e w1 ⟨rfl, hb1⟩)
        go_roundw
        case rel => exact ⟨k + 1, x, by omega, by go_num, rfl, (by rw [HS.out, ceilS, if_neg (by rw [HM.out]; simp)] : x = _), (by repeat (first | exact Ext.refl _ | assumption | refine Ext.alloc ?_ _ | refine Ext.drew ?_ | refine Ext.drewN ?_ _ | refine Ext.trans ?_ (by assumption)))⟩
        case measure => simp [intOf]; omega
      · have HM := Lib.hid hm; clear hm
        by_cases c2 : ts[k].period < x
        · have c3 : decide (ts[k].period < x) = true := decide_eq_true c2
          have hmn : min x ts[k].period = ts[k].period := by omega
          clear c2
          go_wp2_with (go_at_call 9; refine (ruses_any ts[k] s _ (HTO.out.ext (by repeat (first | exact Ext.refl _ | assumption | refine Ext.alloc ?_ _ | refine Ext.drew ?_ | refine Ext.drewN ?_ _ | refine Ext.trans ?_ (by assumption))))).mono ?_; rw [HM.out]; rintro e w1 ⟨rfl, hb1⟩; obtain ⟨hc1, hf1, hs1⟩ := hb1.rules)
          go_roundw
          case rel => exact ⟨k + 1, ts[k].period, by omega, by go_num, rfl, (by rw [HS.out, ceilS, if_pos HM.out, hmn] : ts[k].period = _), (by repeat (first | exact Ext.refl _ | assumption | refine Ext.alloc ?_ _ | refine Ext.drew ?_ | refine Ext.drewN ?_ _ | refine Ext.trans ?_ (by assumption)))⟩
          case measure => simp [intOf]; omega
        · have c3 : decide (ts[k].period < x) = false := decide_eq_false c2
          have hmn : min x ts[k].period = x := by omega
          clear c2
          go_wp2_with (go_at_call 9; refine (ruses_any ts[k] s _ (HTO.out.ext (by repeat (first | exact Ext.refl _ | assumption | refine Ext.alloc ?_ _ | refine Ext.drew ?_ | refine Ext.drewN ?_ _ | refine Ext.trans ?_ (by assumption))))).mono ?_; rw [HM.out]; rintro e w1 ⟨rfl, hb1⟩; obtain ⟨hc1, hf1, hs1⟩ := hb1.rules)
          go_roundw
          case rel => exact ⟨k + 1, x, by omega, by go_num, rfl, (by rw [HS.out, ceilS, if_pos HM.out, hmn] : x = _), (by repeat (first | exact Ext.refl _ | assumption | refine Ext.alloc ?_ _ | refine Ext.drew ?_ | refine Ext.drewN ?_ _ | refine Ext.trans ?_ (by assumption)))⟩
          case measure => simp [intOf]; omega
    · have hks : k = ts.length := by omega
      subst hks
      have hx2 : x = ceilF ts s := by have := hx.out; rw [List.take_length] at this; exact this
      have HX := Lib.hid hx2; clear hx2 hx
      go_wp2
      go_ret
      exact ⟨ret_int HX.out, (by repeat (first | exact Ext.refl _ | assumption | refine Ext.alloc ?_ _ | refine Ext.drew ?_ | refine Ext.drewN ?_ _ | refine Ext.trans ?_ (by assumption)))⟩
end Go.Proofs.Ytmfphojmegfanab
