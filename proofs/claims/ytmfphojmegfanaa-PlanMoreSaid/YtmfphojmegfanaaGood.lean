/- of which views chapter 15 speaks: what Good's yes says. -/
import Derived.Test.YtmfphojmegfanaaTaskR
import Derived.Test.YtmfphojmegfanaaTableS
import Derived.Test.YtmfphojmegfanaaJobOf
namespace Go.Proofs.Ytmfphojmegfanaa
open Go.RowKit
set_option linter.unusedVariables false
def noneP (t : TaskV) : Prop := t.period = 0 ∧ t.cycles = 0 ∧ t.sec.xs.length = 0 ∧ t.devs.xs.length = 0
def Mom (n : Int) : Prop := 0 ≤ n ∧ n ≤ 2097152
structure JobP (ts : List TaskV) (js : List JobV) (k : Nat) (j : JobV) : Prop where
  lo : 0 ≤ j.task
  hi : j.task < ts.length
  per : ∀ t, ts[j.task.toNat]? = some t → ¬ t.period = 0
  dead : Mom j.deadline
  rel : Mom j.release
  left : 0 ≤ j.left ∧ j.left ≤ 4096
  apart : ∀ i ∈ js.take k, ¬ i.task = j.task
structure HeldP (js : List JobV) (h : HeldV) : Prop where
  job : ∃ j, jobOf js h.task = some j
  left : -4096 ≤ h.left ∧ h.left ≤ 4096
structure GoodP (v : ViewV) : Prop where
  tab : tabP v.p
  nt : v.tasks.xs.length ≤ 64
  nn : v.next.xs.length = v.tasks.xs.length
  now : Mom v.now
  mom : Mom v.mom
  task : ∀ t ∈ v.tasks.xs, noneP t ∨ taskP v.p t
  next : ∀ n ∈ v.next.xs, Mom n
  job : ∀ k j, v.jobs.xs[k]? = some j → JobP v.tasks.xs v.jobs.xs k j
  held : ∀ h ∈ v.held.xs, HeldP v.jobs.xs h
def GoodPost (v : ViewV) (w : World) (e : Ending) (w' : World) : Prop := ∃ b : Bool, e = .returned (.bool b) ∧ (b = true → GoodP v) ∧ Ext w w'
theorem GoodPost.no {v : ViewV} {w w' : World} (h : Ext w w') : GoodPost v w (.returned (.bool false)) w' := ⟨false, rfl, by simp, h⟩
theorem GoodPost.yes {v : ViewV} {w w' : World} (hg : GoodP v) (h : Ext w w') : GoodPost v w (.returned (.bool true)) w' := ⟨true, rfl, fun _ => hg, h⟩
/-- the tasks and their next moments up to k are right -/
def tasksTo (p : PlatV) (ts : List TaskV) (next : List Int) (k : Nat) : Prop := (∀ t ∈ ts.take k, noneP t ∨ taskP p t) ∧ ∀ n ∈ next.take k, Mom n
theorem mem_take_succ {α : Type} {xs : List α} {k : Nat} (hk : k < xs.length) {P : α → Prop} (h : ∀ x ∈ xs.take k, P x) (hp : P xs[k]) : ∀ x ∈ xs.take (k + 1), P x := by
  intro x hx
  rw [List.take_succ_eq_append_getElem hk] at hx
  rcases List.mem_append.1 hx with h1 | h1
  · exact h x h1
  · rw [List.mem_singleton.1 h1]; exact hp
set_option maxHeartbeats 16000000 in
set_option maxRecDepth 100000 in
theorem good_any (v : ViewV) (w : World) (hv : v.Ok w) : Calls Try.prog 15 #[v.val] w (GoodPost v w) := by
  have hrt := hv.tasks.row
  have hrn := hv.next.row
  have hrj := hv.jobs.row
  have hrh := hv.held.row
  have het := hv.tasks.each
  have hlt1 : v.tasks.xs.length ≤ 4611686018427387904 := by have := hv.tasks.fit; omega
  have hlt2 : v.next.xs.length ≤ 4611686018427387904 := by have := hv.next.fit; omega
  have hlt3 : v.jobs.xs.length ≤ 4611686018427387904 := by have := hv.jobs.fit; omega
  have hlt4 : v.held.xs.length ≤ 4611686018427387904 := by have := hv.held.fit; omega
  have hpo := hv.p
  obtain ⟨p, ⟨TA, Tc, ts⟩, ⟨NA, Nc, next⟩, ⟨JA, Jc, js⟩, ⟨HA, Hc, hs⟩, now, mom⟩ := v
  clear hv
  unfold ViewV.val
  dsimp only at hrt hrn hrj hrh het hlt1 hlt2 hlt3 hlt4 hpo ⊢
  have HET := Lib.hid het; have HPO := Lib.hid hpo; clear het hpo
  cases c0 : tabB p
  · (go_enter Try.func15, Try.ntmps15; go_wp2_with fail; refine (rtable_any p _ (HPO.out.ext (by repeat (first | exact Ext.refl _ | assumption | refine Ext.alloc ?_ _ | refine Ext.drew ?_ | refine Ext.drewN ?_ _ | refine Ext.trans ?_ (by assumption))))).mono ?_; rintro e w1 ⟨rfl, hb1⟩; rw [c0]; obtain ⟨hc1, hf1, _⟩ := hb1.rules; have hs1 := hb1.lt)
    go_wp2
    go_ret
    exact GoodPost.no (by repeat (first | exact Ext.refl _ | assumption | refine Ext.alloc ?_ _ | refine Ext.drew ?_ | refine Ext.drewN ?_ _ | refine Ext.trans ?_ (by assumption)))
  by_cases c1 : 64 < (ts.length : Int)
  · have d1 : decide (64 < (ts.length : Int)) = true := decide_eq_true c1
    (go_enter Try.func15, Try.ntmps15; go_wp2_with fail; refine (rtable_any p _ (HPO.out.ext (by repeat (first | exact Ext.refl _ | assumption | refine Ext.alloc ?_ _ | refine Ext.drew ?_ | refine Ext.drewN ?_ _ | refine Ext.trans ?_ (by assumption))))).mono ?_; rintro e w1 ⟨rfl, hb1⟩; rw [c0]; obtain ⟨hc1, hf1, _⟩ := hb1.rules; have hs1 := hb1.lt)
    go_wp2
    go_ret
    exact GoodPost.no (by repeat (first | exact Ext.refl _ | assumption | refine Ext.alloc ?_ _ | refine Ext.drew ?_ | refine Ext.drewN ?_ _ | refine Ext.trans ?_ (by assumption)))
  have d1 : decide (64 < (ts.length : Int)) = false := decide_eq_false c1
  by_cases c2 : next.length = ts.length
  rotate_left
  · have d2 : ((next.length : Int) == (ts.length : Int)) = false := by rw [beq_eq_false_iff_ne]; omega
    have d3 : ((next.length : Int) != (ts.length : Int)) = true := by rw [bne_iff_ne]; omega
    clear c2
    (go_enter Try.func15, Try.ntmps15; go_wp2_with fail; refine (rtable_any p _ (HPO.out.ext (by repeat (first | exact Ext.refl _ | assumption | refine Ext.alloc ?_ _ | refine Ext.drew ?_ | refine Ext.drewN ?_ _ | refine Ext.trans ?_ (by assumption))))).mono ?_; rintro e w1 ⟨rfl, hb1⟩; rw [c0]; obtain ⟨hc1, hf1, _⟩ := hb1.rules; have hs1 := hb1.lt)
    go_wp2
    go_ret
    exact GoodPost.no (by repeat (first | exact Ext.refl _ | assumption | refine Ext.alloc ?_ _ | refine Ext.drew ?_ | refine Ext.drewN ?_ _ | refine Ext.trans ?_ (by assumption)))
  have d2 : ((next.length : Int) == (ts.length : Int)) = true := by rw [beq_iff_eq]; omega
  have d3 : ((next.length : Int) != (ts.length : Int)) = false := by rw [bne_eq_false_iff_eq]; omega
  have C2 := Lib.hid c2; clear c2
  cases c3 : winB now 0 2097152
  · (go_enter Try.func15, Try.ntmps15; go_wp2_with fail; refine (rtable_any p _ (HPO.out.ext (by repeat (first | exact Ext.refl _ | assumption | refine Ext.alloc ?_ _ | refine Ext.drew ?_ | refine Ext.drewN ?_ _ | refine Ext.trans ?_ (by assumption))))).mono ?_; rintro e w1 ⟨rfl, hb1⟩; rw [c0]; obtain ⟨hc1, hf1, _⟩ := hb1.rules; have hs1 := hb1.lt)
    go_wp2_with (go_at_call 37; refine (moment_any _ _).mono ?_; rintro e w2 ⟨rfl, rfl⟩)
    go_ret
    exact GoodPost.no (by repeat (first | exact Ext.refl _ | assumption | refine Ext.alloc ?_ _ | refine Ext.drew ?_ | refine Ext.drewN ?_ _ | refine Ext.trans ?_ (by assumption)))
  cases c4 : winB mom 0 2097152
  · (go_enter Try.func15, Try.ntmps15; go_wp2_with fail; refine (rtable_any p _ (HPO.out.ext (by repeat (first | exact Ext.refl _ | assumption | refine Ext.alloc ?_ _ | refine Ext.drew ?_ | refine Ext.drewN ?_ _ | refine Ext.trans ?_ (by assumption))))).mono ?_; rintro e w1 ⟨rfl, hb1⟩; rw [c0]; obtain ⟨hc1, hf1, _⟩ := hb1.rules; have hs1 := hb1.lt)
    go_wp2_with (go_at_call 37; refine (moment_any _ _).mono ?_; rintro e w2 ⟨rfl, rfl⟩)
    go_ret
    exact GoodPost.no (by repeat (first | exact Ext.refl _ | assumption | refine Ext.alloc ?_ _ | refine Ext.drew ?_ | refine Ext.drewN ?_ _ | refine Ext.trans ?_ (by assumption)))
  (go_enter Try.func15, Try.ntmps15; go_wp2_with fail; refine (rtable_any p _ (HPO.out.ext (by repeat (first | exact Ext.refl _ | assumption | refine Ext.alloc ?_ _ | refine Ext.drew ?_ | refine Ext.drewN ?_ _ | refine Ext.trans ?_ (by assumption))))).mono ?_; rintro e w1 ⟨rfl, hb1⟩; rw [c0]; obtain ⟨hc1, hf1, _⟩ := hb1.rules; have hs1 := hb1.lt)
  go_wp2_with (go_at_call 37; refine (moment_any _ _).mono ?_; rintro e w2 ⟨rfl, rfl⟩)
  clear d1 d2 d3
  obtain ⟨q0, q1, q2, q3, q4, q5, q6, q7, q8, q9, q10, q11, q12, _, _⟩ := ViewV.boxed w (⟨p, ⟨TA, Tc, ts⟩, ⟨NA, Nc, next⟩, ⟨JA, Jc, js⟩, ⟨HA, Hc, hs⟩, now, mom⟩ : ViewV) 32
  have q0 := hb1.cell q0
  have q1 := hb1.cell q1
  have q2 := hb1.cell q2
  have q3 := hb1.cell q3
  have q4 := hb1.cell q4
  have q5 := hb1.cell q5
  have q6 := hb1.cell q6
  have q7 := hb1.cell q7
  have q8 := hb1.cell q8
  have q9 := hb1.cell q9
  have q10 := hb1.cell q10
  have q11 := hb1.cell q11
  have q12 := hb1.cell q12
  dsimp only at q0 q1 q2 q3 q4 q5 q6 q7 q8 q9 q10 q11 q12
  have hw1 : Ext w w1 := ((Ext.refl w).alloc _).trans hb1
  clear hc1 hf1 hb1
  go_loopw [2, 3, 4, 5] (fun r i _ _ wr => ∃ k : Nat, k ≤ ts.length ∧ i = .int .i64 k ∧ r = .bool false ∧ Ext w1 wr ∧ Hid (tasksTo p ts next k)) (fun _ i _ _ _ => ts.length - (intOf i).toNat)
  case atStart => exact ⟨0, by omega, rfl, rfl, Ext.refl _, ⟨by simp, by simp⟩⟩
  case round =>
    obtain ⟨k, hk, rfl, rfl, hr, HT⟩ := hrel
    have hw2 := hw1.trans hr
    have hz : w.heap.size < wr.heap.size := by have := hr.size; omega
    have q9 := hr.cell q9
    by_cases hlt : k < ts.length
    · have q0 := hr.cell q0
      have q1 := hr.cell q1
      have q2 := hr.cell q2
      have q3 := hr.cell q3
      have q4 := hr.cell q4
      have q5 := hr.cell q5
      have q6 := hr.cell q6
      have q7 := hr.cell q7
      have q8 := hr.cell q8
      have q10 := hr.cell q10
      obtain ⟨b, o, rfl, ub, u0, u1, u2, u3⟩ := TaskV.row (hrt.ext hw2) k hlt
      have hkn : k < next.length := by rw [C2.out]; exact hlt
      obtain ⟨b2, o2, hA2, ub2, v0⟩ := ints_at (hrn.ext hw2) k hkn
      subst hA2
      have hto : ts[k].Ok w := HET.out _ (List.getElem_mem hlt)
      have HTO := Lib.hid hto; clear hto
      go_upto_region 7 with fail
      go_cut [5] (fun r wc => ∃ nb : Bool, r = .bool nb ∧ Hid (nb = true → noneP ts[k]) ∧ wc = wr.alloc (.cells ts[k].arr 39))
      case first =>
        by_cases n1 : ts[k].period = 0
        · have e1 : (ts[k].period == 0) = true := by simp [n1]
          have N1 := Lib.hid n1; clear n1
          by_cases n2 : ts[k].cycles = 0
          · have e2 : (ts[k].cycles == 0) = true := by simp [n2]
            have N2 := Lib.hid n2; clear n2
            by_cases n3 : ts[k].sec.xs.length = 0
            · have e3 : ((ts[k].sec.xs.length : Int) == 0) = true := by simp [n3]
              have N3 := Lib.hid n3; clear n3
              by_cases n4 : ts[k].devs.xs.length = 0
              · have e4 : ((ts[k].devs.xs.length : Int) == 0) = true := by simp [n4]
                have N4 := Lib.hid n4; clear n4
                go_wp2
                go_meet
                case rel => exact ⟨true, rfl, (fun _ => ⟨N1.out, N2.out, N3.out, N4.out⟩ : true = true → noneP ts[k]), rfl⟩
              · have e4 : ((ts[k].devs.xs.length : Int) == 0) = false := by simpa using n4
                clear n4
                go_wp2
                go_meet
                case rel => exact ⟨false, rfl, (fun h => absurd h (by decide) : false = true → noneP ts[k]), rfl⟩
            · have e3 : ((ts[k].sec.xs.length : Int) == 0) = false := by simpa using n3
              clear n3
              go_wp2
              go_meet
              case rel => exact ⟨false, rfl, (fun h => absurd h (by decide) : false = true → noneP ts[k]), rfl⟩
          · have e2 : (ts[k].cycles == 0) = false := by simpa using n2
            clear n2
            go_wp2
            go_meet
            case rel => exact ⟨false, rfl, (fun h => absurd h (by decide) : false = true → noneP ts[k]), rfl⟩
        · have e1 : (ts[k].period == 0) = false := by simpa using n1
          clear n1
          go_wp2
          go_meet
          case rel => exact ⟨false, rfl, (fun h => absurd h (by decide) : false = true → noneP ts[k]), rfl⟩
      case rest =>
        obtain ⟨nb, rfl, HNB, rfl⟩ := hcut
        unfold TaskV.arr
        cases c5 : winB next[k] 0 2097152
        · cases nb
          · go_wp2_with fail
            refine (rtask_any p ts[k] _ (HPO.out.ext (by repeat (first | exact Ext.refl _ | assumption | refine Ext.alloc ?_ _ | refine Ext.drew ?_ | refine Ext.drewN ?_ _ | refine Ext.trans ?_ (by assumption)))) (HTO.out.ext (by repeat (first | exact Ext.refl _ | assumption | refine Ext.alloc ?_ _ | refine Ext.drew ?_ | refine Ext.drewN ?_ _ | refine Ext.trans ?_ (by assumption))))).mono ?_
            rintro e w3 ⟨rfl, hb3⟩
            obtain ⟨hc3, hf3, _⟩ := hb3.rules
            have hs3 := hb3.lt
            cases c6 : taskB p ts[k]
            all_goals
              go_wp2_with (go_at_call 37; refine (moment_any _ _).mono ?_; rintro e w4 ⟨rfl, rfl⟩)
              go_ret
              exact GoodPost.no (by repeat (first | exact Ext.refl _ | assumption | refine Ext.alloc ?_ _ | refine Ext.drew ?_ | refine Ext.drewN ?_ _ | refine Ext.trans ?_ (by assumption)))
          · go_wp2_with (go_at_call 37; refine (moment_any _ _).mono ?_; rintro e w4 ⟨rfl, rfl⟩)
            go_ret
            exact GoodPost.no (by repeat (first | exact Ext.refl _ | assumption | refine Ext.alloc ?_ _ | refine Ext.drew ?_ | refine Ext.drewN ?_ _ | refine Ext.trans ?_ (by assumption)))
        · have hm : Mom next[k] := winB_in c5
          have HM := Lib.hid hm; clear hm
          cases nb
          · go_wp2_with fail
            refine (rtask_any p ts[k] _ (HPO.out.ext (by repeat (first | exact Ext.refl _ | assumption | refine Ext.alloc ?_ _ | refine Ext.drew ?_ | refine Ext.drewN ?_ _ | refine Ext.trans ?_ (by assumption)))) (HTO.out.ext (by repeat (first | exact Ext.refl _ | assumption | refine Ext.alloc ?_ _ | refine Ext.drew ?_ | refine Ext.drewN ?_ _ | refine Ext.trans ?_ (by assumption))))).mono ?_
            rintro e w3 ⟨rfl, hb3⟩
            obtain ⟨hc3, hf3, _⟩ := hb3.rules
            have hs3 := hb3.lt
            cases c6 : taskB p ts[k]
            · go_wp2
              go_ret
              exact GoodPost.no (by repeat (first | exact Ext.refl _ | assumption | refine Ext.alloc ?_ _ | refine Ext.drew ?_ | refine Ext.drewN ?_ _ | refine Ext.trans ?_ (by assumption)))
            · go_wp2_with (go_at_call 37; refine (moment_any _ _).mono ?_; rintro e w4 ⟨rfl, rfl⟩)
              go_roundw
              case rel => exact ⟨k + 1, by omega, by go_num, rfl, (by repeat (first | exact Ext.refl _ | assumption | refine Ext.alloc ?_ _ | refine Ext.drew ?_ | refine Ext.drewN ?_ _ | refine Ext.trans ?_ (by assumption))), (⟨mem_take_succ hlt HT.out.1 (.inr (taskB_iff.1 c6)), mem_take_succ hkn HT.out.2 HM.out⟩ : tasksTo p ts next (k + 1))⟩
              case measure => simp [intOf]; omega
          · go_wp2_with (go_at_call 37; refine (moment_any _ _).mono ?_; rintro e w4 ⟨rfl, rfl⟩)
            go_roundw
            case rel => exact ⟨k + 1, by omega, by go_num, rfl, (by repeat (first | exact Ext.refl _ | assumption | refine Ext.alloc ?_ _ | refine Ext.drew ?_ | refine Ext.drewN ?_ _ | refine Ext.trans ?_ (by assumption))), (⟨mem_take_succ hlt HT.out.1 (.inl (by simpa using HNB.out)), mem_take_succ hkn HT.out.2 HM.out⟩ : tasksTo p ts next (k + 1))⟩
            case measure => simp [intOf]; omega
    · have hks : k = ts.length := by omega
      subst hks
      have hT : (∀ t ∈ ts, noneP t ∨ taskP p t) ∧ ∀ n ∈ next, Mom n := by
        have := HT.out
        unfold tasksTo at this
        rw [List.take_length, List.take_of_length_le (by rw [C2.out]; exact Nat.le_refl _)] at this
        exact this
      have HT2 := Lib.hid hT; clear hT HT
      have q11 := hr.cell q11
      have q12 := hr.cell q12
      clear q0 q1 q2 q3 q4 q5 q6 q7 q8 q10
      go_wp2
      go_loopw [2, 6, 7, 8] (fun r i _ _ w5 => ∃ k : Nat, k ≤ js.length ∧ i = .int .i64 k ∧ r = .bool false ∧ Ext wr w5 ∧ Hid (∀ n j, n < k → js[n]? = some j → JobP ts js n j)) (fun _ i _ _ _ => js.length - (intOf i).toNat)
      case atStart => exact ⟨0, by omega, rfl, rfl, Ext.refl _, fun n j h => absurd h (by omega)⟩
      case round =>
        obtain ⟨k, hk, rfl, rfl, hr5, HJ⟩ := hrel
        have hw5 := hw2.trans hr5
        have hz5 : w.heap.size < wr.heap.size := by have := hr5.size; omega
        have q9 := hr5.cell q9
        have q11 := hr5.cell q11
        by_cases hlt : k < js.length
        · obtain ⟨b, o, rfl, ub, u0, u1, u2, u3, u4, u5⟩ := JobV.row (hrj.ext hw5) k hlt
          by_cases t1 : js[k].task < 0
          · have e1 : decide (js[k].task < 0) = true := decide_eq_true t1
            go_wp2_with (go_at_call 37; refine (moment_any _ _).mono ?_; rintro e w6 ⟨rfl, rfl⟩)
            go_ret
            exact GoodPost.no (by repeat (first | exact Ext.refl _ | assumption | refine Ext.alloc ?_ _ | refine Ext.drew ?_ | refine Ext.drewN ?_ _ | refine Ext.trans ?_ (by assumption)))
          have e1 : decide (js[k].task < 0) = false := decide_eq_false t1
          by_cases t2 : (ts.length : Int) ≤ js[k].task
          · have e2 : decide ((ts.length : Int) ≤ js[k].task) = true := decide_eq_true t2
            go_wp2_with (go_at_call 37; refine (moment_any _ _).mono ?_; rintro e w6 ⟨rfl, rfl⟩)
            go_ret
            exact GoodPost.no (by repeat (first | exact Ext.refl _ | assumption | refine Ext.alloc ?_ _ | refine Ext.drew ?_ | refine Ext.drewN ?_ _ | refine Ext.trans ?_ (by assumption)))
          have e2 : decide ((ts.length : Int) ≤ js[k].task) = false := decide_eq_false t2
          obtain ⟨n, hn⟩ := Int.eq_ofNat_of_zero_le (show 0 ≤ js[k].task by omega)
          have hnl : n < ts.length := by omega
          obtain ⟨b3, o3, rfl, ub3, y0, y1, y2, y3⟩ := TaskV.row (hrt.ext hw5) n hnl
          have hn' := hn
          rw [hn] at u0 e1 e2
          have HN := Lib.hid hn; clear hn hn' t1 t2
          by_cases t3 : ts[n].period = 0
          · have e3 : (ts[n].period == 0) = true := by simp [t3]
            clear t3
            go_wp2_with (go_at_call 37; refine (moment_any _ _).mono ?_; rintro e w6 ⟨rfl, rfl⟩)
            go_ret
            exact GoodPost.no (by repeat (first | exact Ext.refl _ | assumption | refine Ext.alloc ?_ _ | refine Ext.drew ?_ | refine Ext.drewN ?_ _ | refine Ext.trans ?_ (by assumption)))
          have e3 : (ts[n].period == 0) = false := by simpa using t3
          have T3 := Lib.hid t3; clear t3
          cases t4 : winB js[k].deadline 0 2097152
          · go_wp2_with (go_at_call 37; refine (moment_any _ _).mono ?_; rintro e w6 ⟨rfl, rfl⟩)
            go_ret
            exact GoodPost.no (by repeat (first | exact Ext.refl _ | assumption | refine Ext.alloc ?_ _ | refine Ext.drew ?_ | refine Ext.drewN ?_ _ | refine Ext.trans ?_ (by assumption)))
          cases t5 : winB js[k].release 0 2097152
          · go_wp2_with (go_at_call 37; refine (moment_any _ _).mono ?_; rintro e w6 ⟨rfl, rfl⟩)
            go_ret
            exact GoodPost.no (by repeat (first | exact Ext.refl _ | assumption | refine Ext.alloc ?_ _ | refine Ext.drew ?_ | refine Ext.drewN ?_ _ | refine Ext.trans ?_ (by assumption)))
          by_cases t6 : js[k].left < 0
          · have e6 : decide (js[k].left < 0) = true := decide_eq_true t6
            go_wp2_with (go_at_call 37; refine (moment_any _ _).mono ?_; rintro e w6 ⟨rfl, rfl⟩)
            go_ret
            exact GoodPost.no (by repeat (first | exact Ext.refl _ | assumption | refine Ext.alloc ?_ _ | refine Ext.drew ?_ | refine Ext.drewN ?_ _ | refine Ext.trans ?_ (by assumption)))
          have e6 : decide (js[k].left < 0) = false := decide_eq_false t6
          by_cases t7 : 4096 < js[k].left
          · have e7 : decide (4096 < js[k].left) = true := decide_eq_true t7
            go_wp2_with (go_at_call 37; refine (moment_any _ _).mono ?_; rintro e w6 ⟨rfl, rfl⟩)
            go_ret
            exact GoodPost.no (by repeat (first | exact Ext.refl _ | assumption | refine Ext.alloc ?_ _ | refine Ext.drew ?_ | refine Ext.drewN ?_ _ | refine Ext.trans ?_ (by assumption)))
          have e7 : decide (4096 < js[k].left) = false := decide_eq_false t7
          have hjp : (∀ i ∈ js.take k, ¬ i.task = js[k].task) → JobP ts js k js[k] := fun ha =>
            ⟨by rw [HN.out]; omega, by rw [HN.out]; omega, fun t ht => by rw [HN.out, Int.toNat_natCast, List.getElem?_eq_getElem hnl] at ht; cases ht; exact T3.out, winB_in t4, winB_in t5, ⟨by omega, by omega⟩, ha⟩
          have HJP := Lib.hid hjp; clear hjp
          go_wp2_with (go_at_call 37; refine (moment_any _ _).mono ?_; rintro e w6 ⟨rfl, rfl⟩)
          clear e1 e2 e3 t4 t5 e6 e7 y0 y1 y2 y3
          obtain ⟨wo, rfl⟩ : ∃ wo : World, wo = wr := ⟨_, rfl⟩
          go_loopw [2, 8] (fun r i w7 => ∃ m : Nat, m ≤ k ∧ i = .int .i64 m ∧ r = .bool false ∧ Ext (wo.alloc (.cells js[k].arr 41)) w7 ∧ Hid (∀ i ∈ js.take m, ¬ i.task = js[k].task)) (fun _ i _ => k - (intOf i).toNat)
          case atStart => exact ⟨0, by omega, rfl, rfl, by unfold JobV.arr; rw [HN.out]; exact Ext.refl _, (by simp : ∀ i ∈ js.take 0, ¬ i.task = js[k].task)⟩
          case round =>
            obtain ⟨m, hm, rfl, rfl, hr7, HAP⟩ := hrel
            have hw7 : Ext w wr := (hw5.alloc _).trans hr7
            by_cases hmk : m < k
            · have q11 := hr7.cell (((Ext.refl _).alloc _).cell q11)
              have z0 := hr7.cell (JobV.boxed wo js[k] 41).1
              rw [HN.out] at z0
              obtain ⟨_, _, hA', _, x0, _⟩ := JobV.row (hrj.ext hw7) m (by omega)
              cases hA'
              by_cases he : js[m].task = (n : Int)
              · have e1 : (js[m].task == (n : Int)) = true := by simp [he]
                clear he
                go_wp2
                go_quiet (fail)
                go_wp2
                go_ret
                exact GoodPost.no (by repeat (first | exact Ext.refl _ | assumption | refine Ext.alloc ?_ _ | refine Ext.drew ?_ | refine Ext.drewN ?_ _ | refine Ext.trans ?_ (by assumption)))
              · have e1 : (js[m].task == (n : Int)) = false := by simpa using he
                have HE := Lib.hid he; clear he
                go_wp2
                go_quiet (fail)
                go_wp2
                go_roundw
                case rel => exact ⟨m + 1, by omega, by go_num, rfl, (by repeat (first | exact Ext.refl _ | assumption | refine Ext.alloc ?_ _ | refine Ext.drew ?_ | refine Ext.drewN ?_ _ | refine Ext.trans ?_ (by assumption))), (mem_take_succ (by omega) HAP.out (by rw [HN.out]; exact HE.out) : ∀ i ∈ js.take (m + 1), ¬ i.task = js[k].task)⟩
                case measure => simp [intOf]; omega
            · obtain rfl : m = k := by omega
              have hjp := HJP.out HAP.out
              have HJP2 := Lib.hid hjp; clear hjp
              have hfin := hr5.trans (((Ext.refl wo).alloc _).trans hr7)
              go_wp2
              go_roundw
              case rel => exact ⟨m + 1, by omega, by go_num, rfl, hfin, (fun n j hn hj => by rcases Nat.lt_succ_iff_lt_or_eq.1 hn with h | h; exact HJ.out n j h hj; (subst h; rw [List.getElem?_eq_getElem hlt] at hj; cases hj; exact HJP2.out) : ∀ n j, n < m + 1 → js[n]? = some j → JobP ts js n j)⟩
              case measure => simp [intOf]; omega
        · have hks : k = js.length := by omega
          subst hks
          have hJ2 : ∀ n j, js[n]? = some j → JobP ts js n j := fun n j h => HJ.out n j (List.getElem?_eq_some_iff.1 h).1 h
          have HJ2 := Lib.hid hJ2; clear hJ2 HJ
          have q12 := hr5.cell q12
          obtain ⟨wp, rfl⟩ : ∃ wp : World, wp = wr := ⟨_, rfl⟩
          go_wp2
          go_loopw [2, 9, 10, 11, 12] (fun r i _ _ _ w8 => ∃ k : Nat, k ≤ hs.length ∧ i = .int .i64 k ∧ r = .bool false ∧ Ext wp w8 ∧ Hid (∀ h ∈ hs.take k, HeldP js h)) (fun _ i _ _ _ _ => hs.length - (intOf i).toNat)
          case atStart => exact ⟨0, by omega, rfl, rfl, Ext.refl _, (by simp : ∀ h ∈ hs.take 0, HeldP js h)⟩
          case round =>
            obtain ⟨k, hk, rfl, rfl, hr8, HH⟩ := hrel
            have hw8 := hw5.trans hr8
            have hz8 : w.heap.size < wr.heap.size := by have := hr8.size; omega
            have q11 := hr8.cell q11
            have q12 := hr8.cell q12
            by_cases hlt : k < hs.length
            · obtain ⟨b, o, rfl, ub, u0, u1, u2⟩ := HeldV.row (hrh.ext hw8) k hlt
              go_wp2_with fail
              refine (jobof_any _ _ js hs[k].task _ (hrj.ext (by repeat (first | exact Ext.refl _ | assumption | refine Ext.alloc ?_ _ | refine Ext.drew ?_ | refine Ext.drewN ?_ _ | refine Ext.trans ?_ (by assumption)))) hlt3).mono ?_
              rintro e w9 ⟨rfl, hb9⟩
              obtain ⟨hc9, hf9, _⟩ := hb9.rules
              have hs9 := hb9.lt
              cases h1 : jobOf js hs[k].task with
              | none =>
                simp only [Option.getD, Option.isSome]
                unfold jobZ JobV.val
                go_wp2
                go_ret
                exact GoodPost.no (by repeat (first | exact Ext.refl _ | assumption | refine Ext.alloc ?_ _ | refine Ext.drew ?_ | refine Ext.drewN ?_ _ | refine Ext.trans ?_ (by assumption)))
              | some j =>
                have H1 := Lib.hid h1; clear h1
                simp only [Option.getD, Option.isSome]
                unfold JobV.val
                by_cases t1 : hs[k].left < -4096
                · have e1 : decide (hs[k].left < -4096) = true := decide_eq_true t1
                  go_wp2
                  go_ret
                  exact GoodPost.no (by repeat (first | exact Ext.refl _ | assumption | refine Ext.alloc ?_ _ | refine Ext.drew ?_ | refine Ext.drewN ?_ _ | refine Ext.trans ?_ (by assumption)))
                have e1 : decide (hs[k].left < -4096) = false := decide_eq_false t1
                by_cases t2 : 4096 < hs[k].left
                · have e2 : decide (4096 < hs[k].left) = true := decide_eq_true t2
                  go_wp2
                  go_ret
                  exact GoodPost.no (by repeat (first | exact Ext.refl _ | assumption | refine Ext.alloc ?_ _ | refine Ext.drew ?_ | refine Ext.drewN ?_ _ | refine Ext.trans ?_ (by assumption)))
                have e2 : decide (4096 < hs[k].left) = false := decide_eq_false t2
                go_wp2
                go_roundw
                case rel => exact ⟨k + 1, by omega, by go_num, rfl, (by repeat (first | exact Ext.refl _ | assumption | refine Ext.alloc ?_ _ | refine Ext.drew ?_ | refine Ext.drewN ?_ _ | refine Ext.trans ?_ (by assumption))), (mem_take_succ hlt HH.out ⟨⟨j, H1.out⟩, by omega, by omega⟩ : ∀ h ∈ hs.take (k + 1), HeldP js h)⟩
                case measure => simp [intOf]; omega
            · have hks : k = hs.length := by omega
              subst hks
              have hH : ∀ h ∈ hs, HeldP js h := by have := HH.out; rwa [List.take_length] at this
              have HH2 := Lib.hid hH; clear hH HH
              go_wp2
              go_ret
              exact GoodPost.yes ⟨(tabB_iff p).1 c0, by dsimp only; omega, C2.out, winB_in c3, winB_in c4, HT2.out.1, HT2.out.2, HJ2.out, HH2.out⟩ (by repeat (first | exact Ext.refl _ | assumption | refine Ext.alloc ?_ _ | refine Ext.drew ?_ | refine Ext.drewN ?_ _ | refine Ext.trans ?_ (by assumption)))
end Go.Proofs.Ytmfphojmegfanaa
