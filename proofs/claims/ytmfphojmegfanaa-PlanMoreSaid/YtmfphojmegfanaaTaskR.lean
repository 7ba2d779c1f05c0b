/- which tasks may be: the reference's Task. -/
import Derived.Test.YtmfphojmegfanaaTask
import Derived.BigQuiet
import Derived.Deep.QuietTactic
namespace Go.Proofs.Ytmfphojmegfanaa
open Go.RowKit
set_option linter.unusedVariables false

def taskP1 (p : PlatV) (t : TaskV) : Prop := 1 ≤ t.period ∧ t.period ≤ p.horizon ∧ 1 ≤ t.cycles ∧ t.cycles ≤ 4096 ∧ (t.sec.xs.length : Int) ≤ p.sems
def secP (t : TaskV) : Prop := ∀ x ∈ t.sec.xs, 0 ≤ x ∧ x ≤ t.cycles
def devOk (nd : Nat) (xs : List Int) (k : Nat) : Prop := ∀ x, xs[k]? = some x → 0 ≤ x ∧ x < nd ∧ ∀ m a, k = m + 1 → xs[m]? = some a → a < x
def devsP (nd : Nat) (xs : List Int) : Prop := ∀ k, k < xs.length → devOk nd xs k
def taskP (p : PlatV) (t : TaskV) : Prop := taskP1 p t ∧ secP t ∧ devsP p.devices.xs.length t.devs.xs
open Classical in
noncomputable def taskB (p : PlatV) (t : TaskV) : Bool := decide (taskP p t)
theorem taskB_iff {p : PlatV} {t : TaskV} : taskB p t = true ↔ taskP p t := by simp [taskB]
theorem taskB_no {p : PlatV} {t : TaskV} (h : ¬ taskP p t) : false = taskB p t := by simp [taskB, h]
theorem taskB_yes {p : PlatV} {t : TaskV} (h : taskP p t) : true = taskB p t := (taskB_iff.2 h).symm
theorem devOk_zero {nd : Nat} {xs : List Int} (hk : 0 < xs.length) (h1 : 0 ≤ xs[0]) (h2 : xs[0] < nd) : devOk nd xs 0 := fun x hx => by
  rw [List.getElem?_eq_getElem hk] at hx
  cases hx
  exact ⟨h1, h2, fun m a h => by omega⟩
theorem devOk_succ {nd : Nat} {xs : List Int} {k : Nat} (hk : k + 1 < xs.length) (h1 : 0 ≤ xs[k + 1]) (h2 : xs[k + 1] < nd) (h3 : xs[k] < xs[k + 1]) : devOk nd xs (k + 1) := fun x hx => by
  rw [List.getElem?_eq_getElem hk] at hx
  cases hx
  refine ⟨h1, h2, fun m a h ha => ?_⟩
  obtain rfl : k = m := by omega
  rw [List.getElem?_eq_getElem (by omega)] at ha
  cases ha
  exact h3
theorem devOk_at {nd : Nat} {xs : List Int} {k : Nat} (hk : k < xs.length) (h : devOk nd xs k) : 0 ≤ xs[k] ∧ xs[k] < nd := ⟨(h _ (List.getElem?_eq_getElem hk)).1, (h _ (List.getElem?_eq_getElem hk)).2.1⟩
theorem devOk_step {nd : Nat} {xs : List Int} {k : Nat} (hk : k + 1 < xs.length) (h : devOk nd xs (k + 1)) : xs[k] < xs[k + 1] := (h _ (List.getElem?_eq_getElem hk)).2.2 k _ rfl (List.getElem?_eq_getElem (by omega))

set_option maxHeartbeats 8000000 in
set_option maxRecDepth 100000 in
theorem rtask_any (p : PlatV) (t : TaskV) (w : World) (hp : p.Ok w) (ht : t.Ok w) : Calls Try.prog 36 #[p.val, t.val] w fun e w' => e = .returned (.bool (taskB p t)) ∧ Ext w w' := by
  have hls : t.sec.xs.length ≤ 4611686018427387904 := by have := ht.sec.fit; omega
  have hld : t.devs.xs.length ≤ 4611686018427387904 := by have := ht.devs.fit; omega
  have hln : p.devices.xs.length ≤ 4611686018427387904 := by have := hp.devices.fit; omega
  have hrs := ht.sec.row
  have hrd := ht.devs.row
  obtain ⟨period, cycles, ⟨SA, Sc, ss⟩, ⟨DA, Dc, ds⟩⟩ := t
  obtain ⟨lv, sl, dv, idle, crit, sw, swE, sems, hz⟩ := p
  clear hp ht
  unfold PlatV.val TaskV.val
  dsimp only at hls hld hln hrs hrd ⊢
  by_cases h1 : taskP1 ⟨lv, sl, dv, idle, crit, sw, swE, sems, hz⟩ ⟨period, cycles, ⟨SA, Sc, ss⟩, ⟨DA, Dc, ds⟩⟩
  rotate_left
  · have H1 := Lib.hid h1; clear h1
    go_enter Try.func36, Try.ntmps36
    go_upto_region 1 with fail
    go_cut [34] (fun r wc => r = .bool true ∧ Ext w wc)
    case first =>
      go_wp2
      all_goals
        go_meet
        case rel => first | exact ⟨rfl, (by repeat (first | exact Ext.refl _ | assumption | refine Ext.alloc ?_ _ | refine Ext.drew ?_ | refine Ext.drewN ?_ _ | refine Ext.trans ?_ (by assumption)))⟩ | exact ⟨congrArg Value.bool (by simp only [Bool.or_eq_true, decide_eq_true_eq]; exact Classical.byContradiction fun hh => H1.out ⟨by dsimp only; omega, by dsimp only; omega, by dsimp only; omega, by dsimp only; omega, by dsimp only; omega⟩), (by repeat (first | exact Ext.refl _ | assumption | refine Ext.alloc ?_ _ | refine Ext.drew ?_ | refine Ext.drewN ?_ _ | refine Ext.trans ?_ (by assumption)))⟩ | exact ⟨congrArg Value.bool (decide_eq_true (Int.not_le.1 fun hh => H1.out ⟨by dsimp only; omega, by dsimp only; omega, by dsimp only; omega, by dsimp only; omega, by dsimp only; omega⟩)), (by repeat (first | exact Ext.refl _ | assumption | refine Ext.alloc ?_ _ | refine Ext.drew ?_ | refine Ext.drewN ?_ _ | refine Ext.trans ?_ (by assumption)))⟩
    case rest =>
      obtain ⟨rfl, hb⟩ := hcut
      go_wp2
      go_ret
      exact ⟨ret_bool (taskB_no fun h => H1.out h.1), hb⟩
  obtain ⟨a1, a2, a3, a4, a5⟩ := id h1
  have H1 := Lib.hid h1; clear h1
  dsimp only at a1 a2 a3 a4 a5
  have f1 : decide (period < 1) = false := decide_eq_false (by omega)
  have f2 : decide (hz < period) = false := decide_eq_false (by omega)
  have f3 : decide (cycles < 1) = false := decide_eq_false (by omega)
  have f4 : decide (4096 < cycles) = false := decide_eq_false (by omega)
  have f5 : decide (sems < (ss.length : Int)) = false := decide_eq_false (by omega)
  go_enter Try.func36, Try.ntmps36
  go_wp2
  clear f1 f2 f3 f4 f5
  go_loopw [4, 5] (fun r i wr => ∃ k : Nat, k ≤ ss.length ∧ i = .int .i64 k ∧ r = .bool false ∧ Ext ((w.alloc (.cells (PlatV.arr ⟨lv, sl, dv, idle, crit, sw, swE, sems, hz⟩) 26)).alloc (.cells (TaskV.arr ⟨period, cycles, ⟨SA, Sc, ss⟩, ⟨DA, Dc, ds⟩⟩) 39)) wr ∧ Hid (∀ x ∈ ss.take k, 0 ≤ x ∧ x ≤ cycles)) (fun _ i _ => ss.length - (intOf i).toNat)
  case atStart => exact ⟨0, by omega, rfl, rfl, Ext.refl _, fun n hn => by simp at hn⟩
  case round =>
    obtain ⟨k, hk, rfl, rfl, hb, HALL⟩ := hrel
    have hw : Ext w wr := (((Ext.refl w).alloc _).alloc _).trans hb
    obtain ⟨_, _, p2, _⟩ := PlatV.boxed w ⟨lv, sl, dv, idle, crit, sw, swE, sems, hz⟩ 26
    have p2 := hb.cell (((Ext.refl _).alloc _).cell p2)
    have qs := TaskV.boxed (w.alloc (.cells (PlatV.arr ⟨lv, sl, dv, idle, crit, sw, swE, sems, hz⟩) 26)) ⟨period, cycles, ⟨SA, Sc, ss⟩, ⟨DA, Dc, ds⟩⟩ 39
    simp only [World.size_alloc] at qs
    obtain ⟨_, q1, q2, q3⟩ := qs
    have q1 := hb.cell q1
    have q2 := hb.cell q2
    have q3 := hb.cell q3
    dsimp only at p2 q1 q2 q3
    by_cases hlt : k < ss.length
    · obtain ⟨b, o, rfl, ub, u0⟩ := ints_at (hrs.ext hw) k hlt
      by_cases t1 : ss[k] < 0
      · have hd1 : decide (ss[k] < 0) = true := decide_eq_true t1
        (go_wp2; go_quiet (fail); go_wp2)
        go_ret
        exact ⟨ret_bool (taskB_no fun h => by have := h.2.1 _ (List.getElem_mem hlt); omega), (by repeat (first | exact Ext.refl _ | assumption | refine Ext.alloc ?_ _ | refine Ext.drew ?_ | refine Ext.drewN ?_ _ | refine Ext.trans ?_ (by assumption)))⟩
      have hd1 : decide (ss[k] < 0) = false := decide_eq_false t1
      by_cases t2 : cycles < ss[k]
      · have hd2 : decide (cycles < ss[k]) = true := decide_eq_true t2
        (go_wp2; go_quiet (fail); go_wp2)
        go_ret
        exact ⟨ret_bool (taskB_no fun h => by have := h.2.1 _ (List.getElem_mem hlt); dsimp only at this; omega), (by repeat (first | exact Ext.refl _ | assumption | refine Ext.alloc ?_ _ | refine Ext.drew ?_ | refine Ext.drewN ?_ _ | refine Ext.trans ?_ (by assumption)))⟩
      have hd2 : decide (cycles < ss[k]) = false := decide_eq_false t2
      (go_wp2; go_quiet (fail); go_wp2)
      go_roundw
      case rel => exact ⟨k + 1, by omega, by go_num, rfl, (by repeat (first | exact Ext.refl _ | assumption | refine Ext.alloc ?_ _ | refine Ext.drew ?_ | refine Ext.drewN ?_ _ | refine Ext.trans ?_ (by assumption))), fun x hx => by rw [List.take_succ_eq_append_getElem hlt] at hx; rcases List.mem_append.1 hx with h | h; exact HALL.out x h; (rw [List.mem_singleton.1 h]; omega)⟩
      case measure => simp [intOf]; omega
    · have hks : k = ss.length := by omega
      subst hks
      have hS2 : secP ⟨period, cycles, ⟨SA, Sc, ss⟩, ⟨DA, Dc, ds⟩⟩ := by have := HALL.out; rwa [List.take_length] at this
      have HS2 := Lib.hid hS2; clear hS2 HALL hb
      go_wp2
      go_loopw [4, 6] (fun r i w2 => ∃ k : Nat, k ≤ ds.length ∧ i = .int .i64 k ∧ r = .bool false ∧ Ext wr w2 ∧ Hid (∀ n, n < k → devOk dv.xs.length ds n)) (fun _ i _ => ds.length - (intOf i).toNat)
      case atStart => exact ⟨0, by omega, rfl, rfl, Ext.refl _, fun n hn => absurd hn (by omega)⟩
      case round =>
        obtain ⟨k, hk, rfl, rfl, hr, HD⟩ := hrel
        have hw2 := hw.trans hr
        have p2 := hr.cell p2
        have q3 := hr.cell q3
        by_cases hlt : k < ds.length
        · obtain ⟨b, o, rfl, ub, u0⟩ := ints_at (hrd.ext hw2) k hlt
          by_cases t1 : ds[k] < 0
          · have hd1 : decide (ds[k] < 0) = true := decide_eq_true t1
            (go_wp2; go_quiet (fail); go_wp2)
            go_ret
            exact ⟨ret_bool (taskB_no fun h => by have := devOk_at hlt (h.2.2 k hlt); omega), (by repeat (first | exact Ext.refl _ | assumption | refine Ext.alloc ?_ _ | refine Ext.drew ?_ | refine Ext.drewN ?_ _ | refine Ext.trans ?_ (by assumption)))⟩
          have hd1 : decide (ds[k] < 0) = false := decide_eq_false t1
          by_cases t2 : (dv.xs.length : Int) ≤ ds[k]
          · have hd2 : decide ((dv.xs.length : Int) ≤ ds[k]) = true := decide_eq_true t2
            (go_wp2; go_quiet (fail); go_wp2)
            go_ret
            exact ⟨ret_bool (taskB_no fun h => by have := devOk_at hlt (h.2.2 k hlt); dsimp only at this; omega), (by repeat (first | exact Ext.refl _ | assumption | refine Ext.alloc ?_ _ | refine Ext.drew ?_ | refine Ext.drewN ?_ _ | refine Ext.trans ?_ (by assumption)))⟩
          have hd2 : decide ((dv.xs.length : Int) ≤ ds[k]) = false := decide_eq_false t2
          cases k with
          | zero =>
            simp only [Nat.add_zero] at u0
            (go_wp2; go_quiet (fail); go_wp2)
            go_roundw
            case rel => exact ⟨1, by omega, by go_num, rfl, (by repeat (first | exact Ext.refl _ | assumption | refine Ext.alloc ?_ _ | refine Ext.drew ?_ | refine Ext.drewN ?_ _ | refine Ext.trans ?_ (by assumption))), fun n hn => by rw [show n = 0 by omega]; exact devOk_zero hlt (by omega) (by omega)⟩
            case measure => simp [intOf]; omega
          | succ m =>
            obtain ⟨_, _, hA', _, u1⟩ := ints_at (hrd.ext hw2) m (by omega)
            cases hA'
            by_cases t3 : ds[m + 1] ≤ ds[m]
            · have hd3 : decide (ds[m + 1] ≤ ds[m]) = true := decide_eq_true t3
              (go_wp2; go_quiet (fail); go_wp2)
              go_ret
              exact ⟨ret_bool (taskB_no fun h => by have := devOk_step hlt (h.2.2 _ hlt); omega), (by repeat (first | exact Ext.refl _ | assumption | refine Ext.alloc ?_ _ | refine Ext.drew ?_ | refine Ext.drewN ?_ _ | refine Ext.trans ?_ (by assumption)))⟩
            have hd3 : decide (ds[m + 1] ≤ ds[m]) = false := decide_eq_false t3
            (go_wp2; go_quiet (fail); go_wp2)
            go_roundw
            case rel => exact ⟨m + 2, by omega, by go_num, rfl, (by repeat (first | exact Ext.refl _ | assumption | refine Ext.alloc ?_ _ | refine Ext.drew ?_ | refine Ext.drewN ?_ _ | refine Ext.trans ?_ (by assumption))), fun n hn => by rcases Nat.lt_succ_iff_lt_or_eq.1 hn with h | rfl; exact HD.out n h; exact devOk_succ hlt (by omega) (by omega) (by omega)⟩
            case measure => simp [intOf]; omega
        · have hks : k = ds.length := by omega
          subst hks
          go_wp2
          go_ret
          exact ⟨ret_bool (taskB_yes ⟨H1.out, HS2.out, HD.out⟩), (by repeat (first | exact Ext.refl _ | assumption | refine Ext.alloc ?_ _ | refine Ext.drew ?_ | refine Ext.drewN ?_ _ | refine Ext.trans ?_ (by assumption)))⟩
end Go.Proofs.Ytmfphojmegfanaa
