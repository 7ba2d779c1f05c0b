/- the law PlanSafe, walked. -/
import Derived.Test.YtmfphojmegfanaaWalkPlanUntil
import Derived.Test.YtmfphojmegfanaaPlanP
namespace Go.Proofs.Ytmfphojmegfanaa
open Go.RowKit
set_option linter.unusedVariables false
theorem GoodP.live {v : ViewV} (h : GoodP v) {t : TaskV} (ht : t ∈ v.tasks.xs) {d : Int} (hm : memB d t.devs.xs = true) : 0 < t.period := by
  rcases h.task t ht with hn | hp
  · have := memB_iff.1 hm
    rw [List.eq_nil_of_length_eq_zero hn.2.2.2] at this
    simp at this
  · have := hp.1.1; omega
def need (v : ViewV) (d : Int) (k : Nat) : Prop := ∃ t, v.tasks.xs[k]? = some t ∧ memB d t.devs.xs = true
structure SafeP (v : ViewV) (d u : Int) : Prop where
  ge : v.now ≤ u
  le : ∀ (k : Nat) (hk : k < v.tasks.xs.length) (hn : k < v.next.xs.length), memB d v.tasks.xs[k].devs.xs = true → u ≤ max v.next.xs[k] v.now
  job : ∀ (k : Nat) (hk : k < v.tasks.xs.length) j, memB d v.tasks.xs[k].devs.xs = true → jobOf v.jobs.xs k = some j → u = v.now
  just : u = 1099511627776 ∨ u = v.now ∨ ∃ (k : Nat) (hk : k < v.tasks.xs.length) (hn : k < v.next.xs.length), memB d v.tasks.xs[k].devs.xs = true ∧ max v.next.xs[k] v.now = u
theorem safe_of (v : ViewV) (d : Int) (h : GoodP v) : SafeP v d (untilF v.tasks.xs v.next.xs v.jobs.xs d v.now) := by
  have hnow : v.now ≤ 1099511627776 := by have := h.now.2; omega
  have hle := fold_le d v.now (v.tasks.xs.zip v.next.xs) 1099511627776
  have hge := fold_ge d v.now (v.tasks.xs.zip v.next.xs) 1099511627776 hnow
  have hcs := fold_cases d v.now (v.tasks.xs.zip v.next.xs) 1099511627776
  unfold untilF untilT
  cases hj : v.jobs.xs.any (needAt v.tasks.xs d)
  · simp only [Bool.false_eq_true, if_false]
    refine ⟨hge, fun k hk hn hm => hle.2 _ (zip_in h.nn k hk) ⟨h.live (List.getElem_mem hk) hm, hm⟩, fun k hk j hm hjo => ?_, ?_⟩
    · obtain ⟨hmem, hjt⟩ := jobOf_mem hjo
      have := List.any_eq_false.1 hj j hmem
      unfold needAt at this
      rw [hjt, Int.toNat_natCast, List.getElem?_eq_getElem hk] at this
      exact absurd hm this
    · rcases hcs with e | ⟨x, hx, hc, e⟩
      · exact .inl e
      · obtain ⟨k, hk, rfl⟩ := zip_mem h.nn hx
        exact .inr (.inr ⟨k, hk, by rw [h.nn]; exact hk, hc.2, e.symm⟩)
  · simp only [if_true]
    exact ⟨Int.le_refl _, fun k hk hn hm => by omega, fun _ _ _ _ _ => rfl, .inr (.inl rfl)⟩
theorem quietL {P : Program} {f : FuncId} {args : Array Value} {w : World} {n : Nat} {v : Value} (h : Calls P f args (w.drewN n) fun e w' => e = .returned v ∧ w.drewN n = w') :
    Calls P f args (w.drewN n) fun e w'' => e = .returned v ∧ ∃ m, w'' = w.drewN m := h.mono fun _ _ ⟨he, hm⟩ => ⟨he, n, hm.symm⟩
set_option maxHeartbeats 8000000 in
set_option maxRecDepth 100000 in
theorem walk_PlanSafe (v : ViewV) (d : Int) (w : World) (hv : v.Arg w) (hd : I64 d) : Calls Try.prog 4 #[v.val, .int .i64 d] w fun e w' => e = .returned (.bool true) ∧ Ext w w' := by
  have hk := hv.ok
  clear hv hd
  have HK := Lib.hid hk; clear hk
  have hq := fun w1 => ViewV.q (w := w) (w1 := w1) v 32
  have HQ := Lib.hid hq; clear hq
  unfold ViewV.val
  go_enter Try.func4, Try.ntmps4
  go_wp2_with fail
  refine (good_any v _ (HK.out.ext (by repeat (first | exact Ext.refl _ | assumption | refine Ext.alloc ?_ _ | refine Ext.drew ?_ | refine Ext.drewN ?_ _ | refine Ext.trans ?_ (by assumption))))).mono ?_
  rintro e w1 ⟨b, rfl, hg, hb1⟩
  have HG := Lib.hid hg; clear hg
  cases b
  · go_wp2_with fail
    refine (answers18 _).mono ?_
    rintro e w2 ⟨rfl, hb2⟩
    go_wp2
    go_ret
    exact ⟨rfl, (by repeat (first | exact Ext.refl _ | assumption | refine Ext.alloc ?_ _ | refine Ext.drew ?_ | refine Ext.drewN ?_ _ | refine Ext.trans ?_ (by assumption)))⟩
  · have hg := HG.out rfl
    have hsf := safe_of v d hg
    have hji := hg.jobsIn
    have HJI := Lib.hid hji
    have hnn := hg.nn
    have HNN := Lib.hid hnn
    have hlj : v.jobs.xs.length ≤ 4611686018427387904 := by have := HK.out.jobs.fit; omega
    have hlt0 : v.tasks.xs.length ≤ 4611686018427387904 := by have := HK.out.tasks.fit; omega
    have hln : v.next.xs.length ≤ 4611686018427387904 := by have := HK.out.next.fit; omega
    clear hg hji hnn HG
    obtain ⟨q9, q10, q11, q13⟩ := HQ.out w1 hb1
    have hw1 : Ext w w1 := ((Ext.refl w).alloc _).trans hb1
    have hlt := hb1.lt
    clear hb1
    generalize hu : untilF v.tasks.xs v.next.xs v.jobs.xs d v.now = u at hsf
    have HU := Lib.hid hu; clear hu
    have HSF := Lib.hid hsf; clear hsf
    go_wp2_with fail
    refine (until_any _ _ _ _ _ _ v.tasks.xs v.next.xs v.jobs.xs d v.now _ (HK.out.tasks.ext (by repeat (first | exact Ext.refl _ | assumption | refine Ext.alloc ?_ _ | refine Ext.drew ?_ | refine Ext.drewN ?_ _ | refine Ext.trans ?_ (by assumption))) (fun _ q => q.ext (by repeat (first | exact Ext.refl _ | assumption | refine Ext.alloc ?_ _ | refine Ext.drew ?_ | refine Ext.drewN ?_ _ | refine Ext.trans ?_ (by assumption))))) HNN.out (HK.out.next.row.ext (by repeat (first | exact Ext.refl _ | assumption | refine Ext.alloc ?_ _ | refine Ext.drew ?_ | refine Ext.drewN ?_ _ | refine Ext.trans ?_ (by assumption)))) (HK.out.jobs.row.ext (by repeat (first | exact Ext.refl _ | assumption | refine Ext.alloc ?_ _ | refine Ext.drew ?_ | refine Ext.drewN ?_ _ | refine Ext.trans ?_ (by assumption)))) hlj HJI.out).mono ?_
    rw [HU.out]
    rintro e w2 ⟨rfl, hb2⟩
    have hge := HSF.out.ge
    have q9 := hb2.cell q9
    have q10 := hb2.cell q10
    have q11 := hb2.cell q11
    have q13 := hb2.cell q13
    have hlt2 : w.heap.size < w2.heap.size := by have := hb2.size; omega
    have hw2 : Ext w w2 := hw1.trans hb2
    clear hb2
    go_upto_region 4 with fail
    go_cut [6] (fun r wc => ∃ jb : Bool, r = .bool jb ∧ Hid ((u = 1099511627776 ∨ u = v.now) → jb = true) ∧ wc = w2)
    case first =>
      by_cases c1 : u = 1099511627776
      · have e1 : (u == 1099511627776) = true := by simp [c1]
        clear c1
        go_wp2
        go_meet
        case rel => exact ⟨true, rfl, (fun _ => rfl : (u = 1099511627776 ∨ u = v.now) → true = true), rfl⟩
      · have e1 : (u == 1099511627776) = false := by simpa using c1
        have C1 := Lib.hid c1; clear c1
        by_cases c2 : u = v.now
        · have e2 : (u == v.now) = true := by simp [c2]
          clear c2
          go_wp2
          go_meet
          case rel => exact ⟨true, rfl, (fun _ => rfl : (u = 1099511627776 ∨ u = v.now) → true = true), rfl⟩
        · have e2 : (u == v.now) = false := by simpa using c2
          have C2 := Lib.hid c2; clear c2
          go_wp2
          go_meet
          case rel => exact ⟨false, rfl, (fun h => (h.elim C1.out C2.out).elim : (u = 1099511627776 ∨ u = v.now) → false = true), rfl⟩
    case rest =>
      obtain ⟨jb, rfl, HJB, rfl⟩ := hcut
      go_wp2
      go_loopw [4, 6, 7, 8, 9, 10] (fun r j i _ _ _ wr => ∃ (k : Nat) (jb : Bool), k ≤ v.tasks.xs.length ∧ i = .int .i64 k ∧ r = .bool false ∧ j = .bool jb ∧ Hid ((u = 1099511627776 ∨ u = v.now ∨ ∃ (m : Nat) (hk : m < v.tasks.xs.length) (hn : m < v.next.xs.length), m < k ∧ memB d v.tasks.xs[m].devs.xs = true ∧ max v.next.xs[m] v.now = u) → jb = true) ∧ Ext wc wr) (fun _ _ i _ _ _ _ => v.tasks.xs.length - (intOf i).toNat)
      case atStart => exact ⟨0, jb, by omega, rfl, rfl, rfl, fun h => HJB.out (by rcases h with h | h | ⟨m, _, _, hm, _⟩; exact .inl h; exact .inr h; omega), Ext.refl _⟩
      case round =>
        obtain ⟨k, jb, hk, rfl, rfl, rfl, HJ, hr⟩ := hrel
        have q9 := hr.cell q9
        have q10 := hr.cell q10
        have q11 := hr.cell q11
        have q13 := hr.cell q13
        have hw3 := hw2.trans hr
        have hlt3 : w.heap.size < wr.heap.size := by have := hr.size; omega
        by_cases hlt : k < v.tasks.xs.length
        · have hkn : k < v.next.xs.length := by rw [HNN.out]; exact hlt
          obtain ⟨b, o, hA, ub, u0, u1, u2, u3⟩ := TaskV.row (HK.out.tasks.row.ext hw3) k hlt
          rw [hA] at q9
          have HA := Lib.hid hA; clear hA
          have hto : v.tasks.xs[k].Ok w := HK.out.tasks.each _ (List.getElem_mem hlt)
          have HTO := Lib.hid hto; clear hto
          cases hm : memB d v.tasks.xs[k].devs.xs
          · go_wp2_with fail
            refine (rneeds_any v.tasks.xs[k] d _ (HTO.out.ext (by repeat (first | exact Ext.refl _ | assumption | refine Ext.alloc ?_ _ | refine Ext.drew ?_ | refine Ext.drewN ?_ _ | refine Ext.trans ?_ (by assumption))))).mono ?_
            rw [hm]
            rintro e w4 ⟨rfl, hb4⟩
            go_wp2
            go_roundw
            case rel => exact ⟨k + 1, jb, by omega, by go_num, rfl, rfl, (fun h => HJ.out (by rcases h with h | h | ⟨m, h1, h2, h3, h4, h5⟩; exact .inl h; exact .inr (.inl h); (exact .inr (.inr ⟨m, h1, h2, by (rcases Nat.lt_succ_iff_lt_or_eq.1 h3 with h6 | h6; exact h6; (subst h6; rw [hm] at h4; cases h4)), h4, h5⟩))) : (u = 1099511627776 ∨ u = v.now ∨ ∃ (m : Nat) (hk : m < v.tasks.xs.length) (hn : m < v.next.xs.length), m < k + 1 ∧ memB d v.tasks.xs[m].devs.xs = true ∧ max v.next.xs[m] v.now = u) → jb = true), (by repeat (first | exact Ext.refl _ | assumption | refine Ext.alloc ?_ _ | refine Ext.drew ?_ | refine Ext.drewN ?_ _ | refine Ext.trans ?_ (by assumption)))⟩
            case measure => simp [intOf]; omega
          · have hle := HSF.out.le k hlt hkn hm
            have hjo := HSF.out.job k hlt
            have HJO := Lib.hid hjo; clear hjo
            have HM := Lib.hid hm; clear hm
            go_wp2_with fail
            refine (rneeds_any v.tasks.xs[k] d _ (HTO.out.ext (by repeat (first | exact Ext.refl _ | assumption | refine Ext.alloc ?_ _ | refine Ext.drew ?_ | refine Ext.drewN ?_ _ | refine Ext.trans ?_ (by assumption))))).mono ?_
            rw [HM.out]
            rintro e w4 ⟨rfl, hb4⟩
            have q11 := hb4.cell q11
            go_wp2_with fail
            refine (jobof_any _ _ v.jobs.xs (k : Int) _ (HK.out.jobs.row.ext (by repeat (first | exact Ext.refl _ | assumption | refine Ext.alloc ?_ _ | refine Ext.drew ?_ | refine Ext.drewN ?_ _ | refine Ext.trans ?_ (by assumption)))) hlj).mono ?_
            rintro e w5 ⟨rfl, hb5⟩
            have q10 := hb5.cell (hb4.cell q10)
            have q13 := hb5.cell (hb4.cell q13)
            have hw5 : Ext w w5 := (hw3.trans hb4).trans hb5
            have hwc5 : Ext wc w5 := (hr.trans hb4).trans hb5
            have hlt5 : w.heap.size < w5.heap.size := by have := hb4.size; have := hb5.size; omega
            obtain ⟨b2, o2, hA2, ub2, v0⟩ := ints_at (HK.out.next.row.ext hw5) k hkn
            rw [hA2] at q10
            have HA2 := Lib.hid hA2; clear hA2
            have e1 : decide (max v.next.xs[k] v.now < u) = false := decide_eq_false (by omega)
            have hstep : ∀ b : Bool, (jb = true → b = true) → (max v.next.xs[k] v.now = u → b = true) → ((u = 1099511627776 ∨ u = v.now ∨ ∃ (m : Nat) (hk : m < v.tasks.xs.length) (hn : m < v.next.xs.length), m < k + 1 ∧ memB d v.tasks.xs[m].devs.xs = true ∧ max v.next.xs[m] v.now = u) → b = true) := by
              intro b h1 h2 h
              rcases h with h | h | ⟨m, a1, a2, a3, a4, a5⟩
              · exact h1 (HJ.out (.inl h))
              · exact h1 (HJ.out (.inr (.inl h)))
              · rcases Nat.lt_succ_iff_lt_or_eq.1 a3 with h6 | h6
                · exact h1 (HJ.out (.inr (.inr ⟨m, a1, a2, h6, a4, a5⟩)))
                · subst h6; exact h2 a5
            have HST := Lib.hid hstep; clear hstep HJ
            cases hj : jobOf v.jobs.xs (k : Int) with
            | none =>
              simp only [Option.getD, Option.isSome]
              unfold jobZ JobV.val
              have HJ2 := Lib.hid hj; clear hj HJO
              by_cases c1 : max v.next.xs[k] v.now = u
              · have e2 : (max v.next.xs[k] v.now == u) = true := by simp [c1]
                have C1 := Lib.hid c1; clear c1
                go_wp2
                go_quiet ((go_at_call 21; exact quietL (rmax_any _ _ _)))
                cases jb
                all_goals
                  go_wp2
                  go_roundw
                  case rel => exact ⟨k + 1, true, by omega, by go_num, rfl, rfl, HST.out true (fun _ => rfl) (fun _ => rfl), (by repeat (first | exact Ext.refl _ | assumption | refine Ext.alloc ?_ _ | refine Ext.drew ?_ | refine Ext.drewN ?_ _ | refine Ext.trans ?_ (by assumption)))⟩
                  case measure => simp [intOf]; omega
              · have e2 : (max v.next.xs[k] v.now == u) = false := by simpa using c1
                have C1 := Lib.hid c1; clear c1
                go_wp2
                go_quiet ((go_at_call 21; exact quietL (rmax_any _ _ _)))
                cases jb
                · go_wp2
                  go_roundw
                  case rel => exact ⟨k + 1, false, by omega, by go_num, rfl, rfl, HST.out false (fun h => h) (fun h => (C1.out h).elim), (by repeat (first | exact Ext.refl _ | assumption | refine Ext.alloc ?_ _ | refine Ext.drew ?_ | refine Ext.drewN ?_ _ | refine Ext.trans ?_ (by assumption)))⟩
                  case measure => simp [intOf]; omega
                · go_wp2
                  go_roundw
                  case rel => exact ⟨k + 1, true, by omega, by go_num, rfl, rfl, HST.out true (fun h => rfl) (fun h => rfl), (by repeat (first | exact Ext.refl _ | assumption | refine Ext.alloc ?_ _ | refine Ext.drew ?_ | refine Ext.drewN ?_ _ | refine Ext.trans ?_ (by assumption)))⟩
                  case measure => simp [intOf]; omega
            | some j =>
              have hun := HJO.out j HM.out hj
              have e3 : (u != v.now) = false := by rw [bne_eq_false_iff_eq]; exact hun
              have e4 : (u == v.now) = true := by rw [beq_iff_eq]; exact hun
              have HJ2 := Lib.hid hj; have HUN := Lib.hid hun; clear hj HJO hun
              simp only [Option.getD, Option.isSome]
              unfold JobV.val
              by_cases c1 : max v.next.xs[k] v.now = u
              · have e2 : (max v.next.xs[k] v.now == u) = true := by simp [c1]
                have C1 := Lib.hid c1; clear c1
                go_wp2
                go_quiet ((go_at_call 21; exact quietL (rmax_any _ _ _)))
                cases jb
                all_goals
                  go_wp2
                  go_roundw
                  case rel => exact ⟨k + 1, true, by omega, by go_num, rfl, rfl, HST.out true (fun _ => rfl) (fun _ => rfl), (by repeat (first | exact Ext.refl _ | assumption | refine Ext.alloc ?_ _ | refine Ext.drew ?_ | refine Ext.drewN ?_ _ | refine Ext.trans ?_ (by assumption)))⟩
                  case measure => simp [intOf]; omega
              · have e2 : (max v.next.xs[k] v.now == u) = false := by simpa using c1
                have C1 := Lib.hid c1; clear c1
                go_wp2
                go_quiet ((go_at_call 21; exact quietL (rmax_any _ _ _)))
                cases jb
                · go_wp2
                  go_roundw
                  case rel => exact ⟨k + 1, false, by omega, by go_num, rfl, rfl, HST.out false (fun h => h) (fun h => (C1.out h).elim), (by repeat (first | exact Ext.refl _ | assumption | refine Ext.alloc ?_ _ | refine Ext.drew ?_ | refine Ext.drewN ?_ _ | refine Ext.trans ?_ (by assumption)))⟩
                  case measure => simp [intOf]; omega
                · go_wp2
                  go_roundw
                  case rel => exact ⟨k + 1, true, by omega, by go_num, rfl, rfl, HST.out true (fun h => rfl) (fun h => rfl), (by repeat (first | exact Ext.refl _ | assumption | refine Ext.alloc ?_ _ | refine Ext.drew ?_ | refine Ext.drewN ?_ _ | refine Ext.trans ?_ (by assumption)))⟩
                  case measure => simp [intOf]; omega
        · have hks : k = v.tasks.xs.length := by omega
          subst hks
          have hjt : jb = true := HJ.out (by
            rcases HSF.out.just with h | h | ⟨m, h1, h2, h3, h4⟩
            · exact .inl h
            · exact .inr (.inl h)
            · exact .inr (.inr ⟨m, h1, h2, h1, h3, h4⟩))
          subst hjt
          have e1 : decide (v.now ≤ u) = true := decide_eq_true hge
          go_wp2_with fail
          refine (answers18 _).mono ?_
          rintro e w4 ⟨rfl, hb4⟩
          have q13 := hb4.cell q13
          go_wp2
          go_ret
          exact ⟨rfl, (by repeat (first | exact Ext.refl _ | assumption | refine Ext.alloc ?_ _ | refine Ext.drew ?_ | refine Ext.drewN ?_ _ | refine Ext.trans ?_ (by assumption)))⟩
end Go.Proofs.Ytmfphojmegfanaa
