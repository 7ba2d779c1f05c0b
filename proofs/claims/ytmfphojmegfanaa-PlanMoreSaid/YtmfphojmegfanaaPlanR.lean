/- the reference's Until. -/
import Derived.Test.YtmfphojmegfanaaPlan
namespace Go.Proofs.Ytmfphojmegfanaa
open Go.RowKit
set_option linter.unusedVariables false
set_option maxHeartbeats 4000000 in
theorem runtil_any (A1 A2 A3 : Option Addr) (c1 c2 c3 : Nat) (ts : List TaskV) (next : List Int) (js : List JobV) (d now : Int) (w : World) (h1 : TasksOk w ⟨A1, c1, ts⟩) (hl : next.length = ts.length) (h2 : Row w A2 (next.flatMap encI))
    (h3 : Row w A3 (js.flatMap JobV.enc)) (hl3 : js.length ≤ 4611686018427387904) (hj : JobsIn ts js) :
    Calls Try.prog 18 #[.slice A1 ts.length c1, .slice A2 next.length c2, .slice A3 js.length c3, .int .i64 d, .int .i64 now] w fun e w' => e = .returned (.int .i64 (untilF ts next js d now)) ∧ Ext w w' := by
  have hrow := h1.row
  have hfit := h1.fit
  have heach := h1.each
  dsimp only at hrow hfit heach
  have HE := Lib.hid heach; clear heach h1
  have HJ := Lib.hid hj; clear hj
  have HL := Lib.hid hl
  have hlt1 : ts.length ≤ 4611686018427387904 := by omega
  have hln : next.length ≤ 4611686018427387904 := by omega
  clear hfit hl
  go_enter Try.func18, Try.ntmps18
  go_wp2
  go_loopw [11, 12] (fun u i wr => ∃ (k : Nat) (x : Int), k ≤ ts.length ∧ i = .int .i64 k ∧ u = .int .i64 x ∧ Hid (x = ((ts.zip next).take k).foldl (stepT d now) 1099511627776) ∧ Ext w wr) (fun _ i _ => ts.length - (intOf i).toNat)
  case atStart => exact ⟨0, _, by omega, rfl, rfl, rfl, Ext.refl _⟩
  case round =>
    obtain ⟨k, x, hk, rfl, rfl, hx, hb⟩ := hrel
    by_cases hlt : k < ts.length
    · obtain ⟨b, o, rfl, ub, u0, u1, u2, u3⟩ := TaskV.row (hrow.ext hb) k hlt
      have hkn : k < next.length := by rw [HL.out]; exact hlt
      have hto : ts[k].Ok w := HE.out _ (List.getElem_mem hlt)
      have HTO := Lib.hid hto; clear hto
      have hsn := fold_snoc (stepT d now) 1099511627776 (ts.zip next) k (by rw [List.length_zip, HL.out]; omega)
      rw [zip_at ts next HL.out k hlt, ← hx.out] at hsn
      have HS := Lib.hid hsn; clear hsn
      by_cases hp : 0 < ts[k].period
      · have hpd : decide (0 < ts[k].period) = true := decide_eq_true hp
        have HP := Lib.hid hp; clear hp
        go_wp2_with fail
        refine (rneeds_any ts[k] d _ (HTO.out.ext (by repeat (first | exact Ext.refl _ | assumption | refine Ext.alloc ?_ _ | refine Ext.drew ?_ | refine Ext.drewN ?_ _ | refine Ext.trans ?_ (by assumption))))).mono ?_
        rintro e w1 ⟨rfl, hb1⟩
        cases hm : memB d ts[k].devs.xs
        · have HM := Lib.hid hm; clear hm
          go_wp2
          go_roundw
          case rel => exact ⟨k + 1, _, by omega, by go_num, rfl, (by rw [HS.out, stepT, if_neg (by rw [HM.out]; simp)] : x = _), (by repeat (first | exact Ext.refl _ | assumption | refine Ext.alloc ?_ _ | refine Ext.drew ?_ | refine Ext.drewN ?_ _ | refine Ext.trans ?_ (by assumption)))⟩
          case measure => simp [intOf]; omega
        · have HM := Lib.hid hm; clear hm
          have e2 : stepT d now x (ts[k], next[k]) = min x (max next[k] now) := by rw [stepT, if_pos ⟨HP.out, HM.out⟩]
          have E2 := Lib.hid e2; clear e2
          go_wp2_with fail
          refine (rfrom_any _ _ next k now _ (h2.ext (by repeat (first | exact Ext.refl _ | assumption | refine Ext.alloc ?_ _ | refine Ext.drew ?_ | refine Ext.drewN ?_ _ | refine Ext.trans ?_ (by assumption)))) hln hkn).mono ?_
          rintro e w2 ⟨rfl, rfl⟩
          go_wp2_with fail
          refine (rmin_any _ _ _).mono ?_
          rintro e w2 ⟨rfl, rfl⟩
          go_wp2
          go_roundw
          case rel => exact ⟨k + 1, min x (max next[k] now), by omega, by go_num, rfl, (by rw [HS.out, E2.out] : min x (max next[k] now) = _), (by repeat (first | exact Ext.refl _ | assumption | refine Ext.alloc ?_ _ | refine Ext.drew ?_ | refine Ext.drewN ?_ _ | refine Ext.trans ?_ (by assumption)))⟩
          case measure => simp [intOf]; omega
      · have hpd : decide (0 < ts[k].period) = false := decide_eq_false hp
        have HP := Lib.hid hp; clear hp
        go_wp2
        go_roundw
        case rel => exact ⟨k + 1, _, by omega, by go_num, rfl, (by rw [HS.out, stepT, if_neg (fun h => HP.out h.1)] : x = _), (by repeat (first | exact Ext.refl _ | assumption | refine Ext.alloc ?_ _ | refine Ext.drew ?_ | refine Ext.drewN ?_ _ | refine Ext.trans ?_ (by assumption)))⟩
        case measure => simp [intOf]; omega
    · have hks : k = ts.length := by omega
      subst hks
      have hx2 : x = untilT ts next d now := by have := hx.out; rw [List.take_of_length_le (by rw [List.length_zip]; omega)] at this; exact this
      have HX := Lib.hid hx2; clear hx2 hx
      go_wp2
      go_loopw [11, 13] (fun u i w2 => ∃ (k : Nat) (y : Int), k ≤ js.length ∧ i = .int .i64 k ∧ u = .int .i64 y ∧ Hid (y = if (js.take k).any (needAt ts d) then now else x) ∧ Ext w w2) (fun _ i _ => js.length - (intOf i).toNat)
      case atStart => exact ⟨0, x, by omega, rfl, rfl, rfl, hb⟩
      case round =>
        obtain ⟨k, y, hk, rfl, rfl, HN, hr⟩ := hrel
        by_cases hlt : k < js.length
        · obtain ⟨b, o, rfl, ub, u0, u1, u2, u3, u4, u5⟩ := JobV.row (h3.ext hr) k hlt
          have t1 := HJ.out.lo _ (List.getElem_mem hlt)
          have t2 := HJ.out.hi _ (List.getElem_mem hlt)
          obtain ⟨n, hn⟩ := Int.eq_ofNat_of_zero_le t1
          have hnl : n < ts.length := by omega
          obtain ⟨b2, o2, hA2, ub2, v0, v1, v2, v3⟩ := TaskV.row (hrow.ext hr) n hnl
          subst hA2
          rw [hn] at u0
          have hto : ts[n].Ok w := HE.out _ (List.getElem_mem hnl)
          have HTO := Lib.hid hto; clear hto
          have hne : needAt ts d js[k] = memB d ts[n].devs.xs := by unfold needAt; rw [hn, Int.toNat_natCast, List.getElem?_eq_getElem hnl]; rfl
          have hsn := any_snoc (needAt ts d) js k hlt
          rw [hne] at hsn
          have HS := Lib.hid hsn; clear hsn
          clear hne hn t1 t2
          go_wp2_with fail
          refine (rneeds_any ts[n] d _ (HTO.out.ext (by repeat (first | exact Ext.refl _ | assumption | refine Ext.alloc ?_ _ | refine Ext.drew ?_ | refine Ext.drewN ?_ _ | refine Ext.trans ?_ (by assumption))))).mono ?_
          rintro e w1 ⟨rfl, hb1⟩
          cases hm : memB d ts[n].devs.xs
          · have HM := Lib.hid hm; clear hm
            go_wp2
            go_roundw
            case rel => exact ⟨k + 1, y, by omega, by go_num, rfl, (by rw [HS.out, HM.out, Bool.or_false]; exact HN.out : y = if (js.take (k + 1)).any (needAt ts d) then now else x), (by repeat (first | exact Ext.refl _ | assumption | refine Ext.alloc ?_ _ | refine Ext.drew ?_ | refine Ext.drewN ?_ _ | refine Ext.trans ?_ (by assumption)))⟩
            case measure => simp [intOf]; omega
          · have HM := Lib.hid hm; clear hm
            go_wp2
            go_roundw
            case rel => exact ⟨k + 1, now, by omega, by go_num, rfl, (by rw [HS.out, HM.out, Bool.or_true]; rfl : now = if (js.take (k + 1)).any (needAt ts d) then now else x), (by repeat (first | exact Ext.refl _ | assumption | refine Ext.alloc ?_ _ | refine Ext.drew ?_ | refine Ext.drewN ?_ _ | refine Ext.trans ?_ (by assumption)))⟩
            case measure => simp [intOf]; omega
        · have hks : k = js.length := by omega
          subst hks
          have hn2 : y = untilF ts next js d now := by have := HN.out; rw [List.take_length, HX.out] at this; exact this
          have HN2 := Lib.hid hn2; clear hn2 HN
          go_wp2
          go_ret
          exact ⟨ret_int HN2.out, (by repeat (first | exact Ext.refl _ | assumption | refine Ext.alloc ?_ _ | refine Ext.drew ?_ | refine Ext.drewN ?_ _ | refine Ext.trans ?_ (by assumption)))⟩
end Go.Proofs.Ytmfphojmegfanaa
