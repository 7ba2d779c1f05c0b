/- plan.Until, and the reference's Until. -/
import Derived.Test.YtmfphojmegfanaaTask
import Derived.BigQuiet
import Derived.Deep.QuietTactic
import Derived.StillTailTactics
namespace Go.Proofs.Ytmfphojmegfanaa
open Go.RowKit
set_option linter.unusedVariables false

theorem rmax_any (a b : Int) (w : World) : Calls Try.prog 21 #[.int .i64 a, .int .i64 b] w fun e w' => e = .returned (.int .i64 (max a b)) ∧ w = w' := by
  by_cases h : b < a
  · have hd : decide (b < a) = true := decide_eq_true h
    go_enter Try.func21, Try.ntmps21
    go_wp2
    go_ret
    exact ⟨ret_int (by omega), rfl⟩
  · have hd : decide (b < a) = false := decide_eq_false h
    go_enter Try.func21, Try.ntmps21
    go_wp2
    go_ret
    exact ⟨ret_int (by omega), rfl⟩
theorem rmin_any (a b : Int) (w : World) : Calls Try.prog 39 #[.int .i64 a, .int .i64 b] w fun e w' => e = .returned (.int .i64 (min a b)) ∧ w = w' := by
  by_cases h : a < b
  · have hd : decide (a < b) = true := decide_eq_true h
    go_enter Try.func39, Try.ntmps39
    go_wp2
    go_ret
    exact ⟨ret_int (by omega), rfl⟩
  · have hd : decide (a < b) = false := decide_eq_false h
    go_enter Try.func39, Try.ntmps39
    go_wp2
    go_ret
    exact ⟨ret_int (by omega), rfl⟩
theorem rfrom_any (A : Option Addr) (c : Nat) (next : List Int) (n : Nat) (now : Int) (w : World) (hr : Row w A (next.flatMap encI)) (hl : next.length ≤ 4611686018427387904) (hn : n < next.length) :
    Calls Try.prog 40 #[.slice A next.length c, .int .i64 n, .int .i64 now] w fun e w' => e = .returned (.int .i64 (max next[n] now)) ∧ w = w' := by
  obtain ⟨b, o, rfl, hbl, hc⟩ := ints_at hr n hn
  go_enter Try.func40, Try.ntmps40
  go_wp2_with (go_at_call 21; refine (rmax_any _ _ _).mono ?_; rintro e w' ⟨rfl, rfl⟩)
  go_ret
  exact ⟨rfl, rfl⟩

/-- is a task of this number in need of the device? -/
def needAt (ts : List TaskV) (d : Int) (j : JobV) : Bool := (ts[j.task.toNat]?.map fun t => memB d t.devs.xs).getD false
def stepT (d now : Int) (u : Int) (x : TaskV × Int) : Int := if 0 < x.1.period ∧ memB d x.1.devs.xs = true then min u (max x.2 now) else u
def untilT (ts : List TaskV) (next : List Int) (d now : Int) : Int := (ts.zip next).foldl (stepT d now) 1099511627776
def untilF (ts : List TaskV) (next : List Int) (js : List JobV) (d now : Int) : Int := if js.any (needAt ts d) then now else untilT ts next d now
theorem fold_snoc {α β : Type} (f : β → α → β) (b : β) (xs : List α) (k : Nat) (hk : k < xs.length) : (xs.take (k + 1)).foldl f b = f ((xs.take k).foldl f b) xs[k] := by
  rw [List.take_succ_eq_append_getElem hk, List.foldl_append]; rfl
theorem any_snoc {α : Type} (f : α → Bool) (xs : List α) (k : Nat) (hk : k < xs.length) : (xs.take (k + 1)).any f = ((xs.take k).any f || f xs[k]) := by
  rw [List.take_succ_eq_append_getElem hk, List.any_append, List.any_cons, List.any_nil, Bool.or_false]
theorem zip_at (ts : List TaskV) (next : List Int) (hl : next.length = ts.length) (k : Nat) (hk : k < ts.length) : (ts.zip next)[k]'(by rw [List.length_zip]; omega) = (ts[k], next[k]) := List.getElem_zip
structure JobsIn (ts : List TaskV) (js : List JobV) : Prop where
  lo : ∀ j ∈ js, 0 ≤ j.task
  hi : ∀ j ∈ js, j.task < ts.length

set_option maxHeartbeats 4000000 in
theorem until_any (A1 A2 A3 : Option Addr) (c1 c2 c3 : Nat) (ts : List TaskV) (next : List Int) (js : List JobV) (d now : Int) (w : World) (h1 : TasksOk w ⟨A1, c1, ts⟩) (hl : next.length = ts.length) (h2 : Row w A2 (next.flatMap encI))
    (h3 : Row w A3 (js.flatMap JobV.enc)) (hl3 : js.length ≤ 4611686018427387904) (hj : JobsIn ts js) :
    Calls Try.prog 17 #[.slice A1 ts.length c1, .slice A2 next.length c2, .slice A3 js.length c3, .int .i64 d, .int .i64 now] w fun e w' => e = .returned (.int .i64 (untilF ts next js d now)) ∧ Ext w w' := by
  have hrow := h1.row
  have hfit := h1.fit
  have heach := h1.each
  dsimp only at hrow hfit heach
  have HE := Lib.hid heach; clear heach h1
  have HJ := Lib.hid hj; clear hj
  rw [hl]
  have HL := Lib.hid hl; clear hl
  have hlt1 : ts.length ≤ 4611686018427387904 := by omega
  clear hfit
  go_enter Try.func17, Try.ntmps17
  go_wp2
  go_loopw [11, 12, 13, 18] (fun u _ _ i wr => ∃ (k : Nat) (x : Int), k ≤ ts.length ∧ i = .int .i64 k ∧ u = .int .i64 x ∧ Hid (x = ((ts.zip next).take k).foldl (stepT d now) 1099511627776) ∧ Ext w wr) (fun _ _ _ i _ => ts.length - (intOf i).toNat)
  case atStart => exact ⟨0, _, by omega, rfl, rfl, rfl, Ext.refl _⟩
  case round =>
    obtain ⟨k, x, hk, rfl, rfl, hx, hb⟩ := hrel
    by_cases hlt : k < ts.length
    · obtain ⟨b, o, rfl, ub, u0, u1, u2, u3⟩ := TaskV.row (hrow.ext hb) k hlt
      have hkn : k < next.length := by rw [HL.out]; exact hlt
      obtain ⟨b2, o2, hA2, ub2, v0⟩ := ints_at (h2.ext hb) k hkn
      subst hA2
      have hto : ts[k].Ok w := HE.out _ (List.getElem_mem hlt)
      have HTO := Lib.hid hto; clear hto
      have hsn := fold_snoc (stepT d now) 1099511627776 (ts.zip next) k (by rw [List.length_zip, HL.out]; omega)
      rw [zip_at ts next HL.out k hlt, ← hx.out] at hsn
      have HS := Lib.hid hsn; clear hsn
      by_cases hp : 0 < ts[k].period
      · have hpd : decide (0 < ts[k].period) = true := decide_eq_true hp
        have HP := Lib.hid hp; clear hp
        go_wp2_with fail
        refine (needs_any ts[k] d _ (HTO.out.ext (by repeat (first | exact Ext.refl _ | assumption | refine Ext.alloc ?_ _ | refine Ext.drew ?_ | refine Ext.drewN ?_ _ | refine Ext.trans ?_ (by assumption))))).mono ?_
        rintro e w1 ⟨rfl, hb1⟩
        obtain ⟨hc1, hf1, _⟩ := hb1.rules
        have hs1 := hb1.lt
        cases hm : memB d ts[k].devs.xs
        · have HM := Lib.hid hm; clear hm
          go_wp2
          go_roundw
          case rel => exact ⟨k + 1, _, by omega, by go_num, rfl, (by rw [HS.out, stepT, if_neg (by rw [HM.out]; simp)] : x = _), (by repeat (first | exact Ext.refl _ | assumption | refine Ext.alloc ?_ _ | refine Ext.drew ?_ | refine Ext.drewN ?_ _ | refine Ext.trans ?_ (by assumption)))⟩
          case measure => simp [intOf]; omega
        · have HM := Lib.hid hm; clear hm
          have e2 : stepT d now x (ts[k], next[k]) = min x (max now next[k]) := by rw [stepT, if_pos ⟨HP.out, HM.out⟩, Int.max_comm]
          have E2 := Lib.hid e2; clear e2
          by_cases c1 : now < next[k]
          all_goals
            by_cases c2 : x < max now next[k]
            all_goals
              go_wp2
              all_goals
                go_roundw
                case rel => exact ⟨k + 1, min x (max now next[k]), by omega, by go_num, congrArg (Value.int .i64) (by omega), (by rw [HS.out, E2.out] : min x (max now next[k]) = _), (by repeat (first | exact Ext.refl _ | assumption | refine Ext.alloc ?_ _ | refine Ext.drew ?_ | refine Ext.drewN ?_ _ | refine Ext.trans ?_ (by assumption)))⟩
                case measure => simp [intOf]; omega
      · have hpd : decide (0 < ts[k].period) = false := decide_eq_false hp
        have HP := Lib.hid hp; clear hp
        go_wp2
        go_roundw
        case rel => exact ⟨k + 1, _, by omega, by go_num, rfl, (by rw [HS.out, stepT, if_neg (fun h => HP.out h.1)] : x = _), (by repeat (first | exact Ext.refl _ | assumption | refine Ext.alloc ?_ _ | refine Ext.drew ?_ | refine Ext.drewN ?_ _ | refine Ext.trans ?_ (by assumption)))⟩
        case measure => simp [intOf]; omega
    · have hks : k = ts.length := by omega
      subst hks
      have hx2 : x = untilT ts next d now := by have := hx.out; rw [List.take_of_length_le (by rw [List.length_zip]; omega)] at this; exact this
      have HX := Lib.hid hx2; clear hx2 hx
      go_wp2
      go_loopw [10, 15, 42] (fun _ _ i w2 => ∃ k : Nat, k ≤ js.length ∧ i = .int .i64 k ∧ Hid ((js.take k).any (needAt ts d) = false) ∧ Ext w w2) (fun _ _ i _ => js.length - (intOf i).toNat)
      case atStart => exact ⟨0, by omega, rfl, rfl, hb⟩
      case round =>
        obtain ⟨k, hk, rfl, HN, hr⟩ := hrel
        by_cases hlt : k < js.length
        · obtain ⟨b, o, rfl, ub, u0, u1, u2, u3, u4, u5⟩ := JobV.row (h3.ext hr) k hlt
          have t1 := HJ.out.lo _ (List.getElem_mem hlt)
          have t2 := HJ.out.hi _ (List.getElem_mem hlt)
          obtain ⟨n, hn⟩ := Int.eq_ofNat_of_zero_le t1
          have hnl : n < ts.length := by omega
          obtain ⟨b2, o2, hA2, ub2, v0, v1, v2, v3⟩ := TaskV.row (hrow.ext hr) n hnl
          subst hA2
          rw [hn] at u0
          have hto : ts[n].Ok w := HE.out _ (List.getElem_mem hnl)
          have HTO := Lib.hid hto; clear hto
          have hne : needAt ts d js[k] = memB d ts[n].devs.xs := by unfold needAt; rw [hn, Int.toNat_natCast, List.getElem?_eq_getElem hnl]; rfl
          have hsn := any_snoc (needAt ts d) js k hlt
          rw [HN.out, Bool.false_or, hne] at hsn
          have HS := Lib.hid hsn; clear hsn
          have HNE := Lib.hid hne; clear hne hn t1 t2
          go_wp2_with fail
          refine (needs_any ts[n] d _ (HTO.out.ext (by repeat (first | exact Ext.refl _ | assumption | refine Ext.alloc ?_ _ | refine Ext.drew ?_ | refine Ext.drewN ?_ _ | refine Ext.trans ?_ (by assumption))))).mono ?_
          rintro e w1 ⟨rfl, hb1⟩
          cases hm : memB d ts[n].devs.xs
          · have HM := Lib.hid hm; clear hm
            go_wp2
            go_roundw
            case rel => exact ⟨k + 1, by omega, by go_num, (by rw [HS.out, HM.out] : (js.take (k + 1)).any (needAt ts d) = false), (by repeat (first | exact Ext.refl _ | assumption | refine Ext.alloc ?_ _ | refine Ext.drew ?_ | refine Ext.drewN ?_ _ | refine Ext.trans ?_ (by assumption)))⟩
            case measure => simp [intOf]; omega
          · have HM := Lib.hid hm; clear hm
            go_wp2
            go_ret
            exact ⟨ret_int (by unfold untilF; rw [if_pos (List.any_eq_true.2 ⟨_, List.getElem_mem hlt, by rw [HNE.out, HM.out]⟩)]), (by repeat (first | exact Ext.refl _ | assumption | refine Ext.alloc ?_ _ | refine Ext.drew ?_ | refine Ext.drewN ?_ _ | refine Ext.trans ?_ (by assumption)))⟩
        · have hks : k = js.length := by omega
          subst hks
          have hn2 : js.any (needAt ts d) = false := by have := HN.out; rwa [List.take_length] at this
          have HN2 := Lib.hid hn2; clear hn2 HN
          go_wp2
          go_ret
          exact ⟨ret_int (by unfold untilF; rw [if_neg (by rw [HN2.out]; simp), HX.out]), (by repeat (first | exact Ext.refl _ | assumption | refine Ext.alloc ?_ _ | refine Ext.drew ?_ | refine Ext.drewN ?_ _ | refine Ext.trans ?_ (by assumption)))⟩
end Go.Proofs.Ytmfphojmegfanaa
