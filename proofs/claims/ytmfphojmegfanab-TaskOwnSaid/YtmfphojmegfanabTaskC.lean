/- task.Check. -/
import Derived.Test.YtmfphojmegfanabTaskR
namespace Go.Proofs.Ytmfphojmegfanab
open Go.RowKit
set_option linter.unusedVariables false
def oddB (c x : Int) : Bool := decide (x < 0 ∨ c < x)
theorem odd_any (x c : Int) (g : Nat) (w : World) (hc : w.cell? ⟨g, 1, none⟩ = some (.int .i64 c)) :
    Calls Try.prog 20 #[.int .i64 x, .pointer (some ⟨g, 0, none⟩)] w fun e w' => e = .returned (.bool (oddB c x)) ∧ w = w' := by
  by_cases h1 : x < 0
  · have d1 : decide (x < 0) = true := decide_eq_true h1
    go_enter Try.func20, Try.ntmps20
    go_wp2
    go_ret
    exact ⟨ret_bool (decide_eq_true (Or.inl h1)).symm, rfl⟩
  · have d1 : decide (x < 0) = false := decide_eq_false h1
    by_cases h2 : c < x
    · have d2 : decide (c < x) = true := decide_eq_true h2
      go_enter Try.func20, Try.ntmps20
      go_wp2
      go_ret
      exact ⟨ret_bool (decide_eq_true (Or.inr h2)).symm, rfl⟩
    · have d2 : decide (c < x) = false := decide_eq_false h2
      go_enter Try.func20, Try.ntmps20
      go_wp2
      go_ret
      exact ⟨ret_bool (by simp only [oddB]; exact (decide_eq_false (by omega)).symm), rfl⟩
def OddPost (xs : List Int) (c : Int) (w : World) (e : Ending) (w' : World) : Prop := ∃ k : Int, e = .returned (.int .i64 k) ∧ decide (0 ≤ k) = xs.any (oddB c) ∧ w = w'
theorem oddidx_any (A : Option Addr) (cp : Nat) (xs : List Int) (c : Int) (g : Nat) (w : World) (hr : Row w A (xs.flatMap encI)) (hl : xs.length ≤ 4611686018427387904) (hc : w.cell? ⟨g, 1, none⟩ = some (.int .i64 c)) :
    Calls Try.prog 24 #[.slice A xs.length cp, .func (.func 20) #[] #[.pointer (some ⟨g, 0, none⟩)]] w (OddPost xs c w) := by
  go_enter Try.func24, Try.ntmps24
  go_wp2
  go_loop [5, 8] (fun _ i => ∃ k : Nat, k ≤ xs.length ∧ i = .int .i64 k ∧ Hid ((xs.take k).any (oddB c) = false)) (fun _ i => xs.length - (intOf i).toNat)
  case atStart => exact ⟨0, by omega, rfl, rfl⟩
  case round =>
    obtain ⟨k, hk, rfl, HN⟩ := hrel
    by_cases hlt : k < xs.length
    · obtain ⟨b, o, rfl, hbl, hcell⟩ := ints_at hr k hlt
      have hsn : (xs.take (k + 1)).any (oddB c) = ((xs.take k).any (oddB c) || oddB c xs[k]) := by
        rw [List.take_succ_eq_append_getElem hlt, List.any_append, List.any_cons, List.any_nil, Bool.or_false]
      rw [HN.out, Bool.false_or] at hsn
      have HS := Lib.hid hsn; clear hsn
      cases ho : oddB c xs[k]
      · have HO := Lib.hid ho; clear ho
        go_wp2_with (go_at_call 20; refine (odd_any _ c g _ hc).mono ?_; rw [HO.out]; rintro e w' ⟨rfl, rfl⟩)
        go_round
        case rel => exact ⟨k + 1, by omega, by go_num, (by rw [HS.out, HO.out] : (xs.take (k + 1)).any (oddB c) = false)⟩
        case measure => simp [intOf]; omega
      · have HO := Lib.hid ho; clear ho
        go_wp2_with (go_at_call 20; refine (odd_any _ c g _ hc).mono ?_; rw [HO.out]; rintro e w' ⟨rfl, rfl⟩)
        go_ret
        exact ⟨k, rfl, by rw [List.any_eq_true.2 ⟨_, List.getElem_mem hlt, HO.out⟩]; exact decide_eq_true (by omega), rfl⟩
    · have hks : k = xs.length := by omega
      subst hks
      have hn : xs.any (oddB c) = false := by have := HN.out; rwa [List.take_length] at this
      have HN2 := Lib.hid hn; clear hn HN
      go_wp2
      go_ret
      exact ⟨-1, rfl, by rw [HN2.out]; rfl, rfl⟩
theorem oddin_any (A : Option Addr) (cp : Nat) (xs : List Int) (c : Int) (g : Nat) (w : World) (hr : Row w A (xs.flatMap encI)) (hl : xs.length ≤ 4611686018427387904) (hc : w.cell? ⟨g, 1, none⟩ = some (.int .i64 c)) :
    Calls Try.prog 21 #[.slice A xs.length cp, .func (.func 20) #[] #[.pointer (some ⟨g, 0, none⟩)]] w fun e w' => e = .returned (.bool (xs.any (oddB c))) ∧ w = w' := by
  go_enter Try.func21, Try.ntmps21
  go_wp2_with fail
  refine (oddidx_any A cp xs c g w hr hl hc).mono ?_
  rintro e w' ⟨k, rfl, hk, rfl⟩
  have HK := Lib.hid hk; clear hk
  go_wp2
  go_ret
  exact ⟨ret_bool HK.out, rfl⟩
open Classical in
noncomputable def devsB (nd : Nat) (xs : List Int) : Bool := decide (devsP nd xs)
theorem devsB_iff {nd : Nat} {xs : List Int} : devsB nd xs = true ↔ devsP nd xs := by simp [devsB]
theorem devsB_no {nd : Nat} {xs : List Int} (h : ¬ devsP nd xs) : false = devsB nd xs := by simp [devsB, h]
theorem devsB_yes {nd : Nat} {xs : List Int} (h : devsP nd xs) : true = devsB nd xs := (devsB_iff.2 h).symm
set_option maxHeartbeats 4000000 in
theorem devices_any (p : PlatV) (A : Option Addr) (cp : Nat) (ds : List Int) (w : World) (hp : p.Ok w) (hr : Row w A (ds.flatMap encI)) (hl : ds.length ≤ 4611686018427387904) :
    Calls Try.prog 22 #[p.val, .slice A ds.length cp] w fun e w' => e = .returned (.bool (devsB p.devices.xs.length ds)) ∧ Ext w w' := by
  have hln : p.devices.xs.length ≤ 4611686018427387904 := by have := hp.devices.fit; omega
  clear hp
  obtain ⟨_, _, p2, _⟩ := PlatV.boxed w p 40
  unfold PlatV.val
  go_enter Try.func22, Try.ntmps22
  go_wp2
  go_loopw [4, 5, 6, 9] (fun r _ _ i wr => ∃ k : Nat, k ≤ ds.length ∧ i = .int .i64 k ∧ r = .bool false ∧ wr = w.alloc (.cells p.arr 40) ∧ Hid (∀ n, n < k → devOk p.devices.xs.length ds n)) (fun _ _ _ i _ => ds.length - (intOf i).toNat)
  case atStart => exact ⟨0, by omega, rfl, rfl, rfl, fun n hn => absurd hn (by omega)⟩
  case round =>
    obtain ⟨k, hk, rfl, rfl, hwr, HD⟩ := hrel
    rw [← hwr] at p2
    have hw : Ext w wr := by rw [hwr]; exact (Ext.refl w).alloc _
    have HWR := Lib.hid hwr; clear hwr
    by_cases hlt : k < ds.length
    · obtain ⟨b, o, rfl, ub, u0⟩ := ints_at (hr.ext hw) k hlt
      by_cases t1 : ds[k] < 0
      · have hd1 : decide (ds[k] < 0) = true := decide_eq_true t1
        go_wp2
        go_ret
        exact ⟨ret_bool (devsB_no fun h => by have := devOk_at hlt (h k hlt); omega), (by repeat (first | exact Ext.refl _ | assumption | refine Ext.alloc ?_ _ | refine Ext.drew ?_ | refine Ext.drewN ?_ _ | refine Ext.trans ?_ (by assumption)))⟩
      have hd1 : decide (ds[k] < 0) = false := decide_eq_false t1
      by_cases t2 : (p.devices.xs.length : Int) ≤ ds[k]
      · have hd2 : decide ((p.devices.xs.length : Int) ≤ ds[k]) = true := decide_eq_true t2
        go_wp2
        go_ret
        exact ⟨ret_bool (devsB_no fun h => by have := devOk_at hlt (h k hlt); omega), (by repeat (first | exact Ext.refl _ | assumption | refine Ext.alloc ?_ _ | refine Ext.drew ?_ | refine Ext.drewN ?_ _ | refine Ext.trans ?_ (by assumption)))⟩
      have hd2 : decide ((p.devices.xs.length : Int) ≤ ds[k]) = false := decide_eq_false t2
      cases k with
      | zero =>
        simp only [Nat.add_zero] at u0
        go_wp2
        go_roundw
        case rel => exact ⟨1, by omega, by go_num, rfl, HWR.out, fun n hn => by rw [show n = 0 by omega]; exact devOk_zero hlt (by omega) (by omega)⟩
        case measure => simp [intOf]; omega
      | succ m =>
        obtain ⟨_, _, hA', _, u1⟩ := ints_at (hr.ext hw) m (by omega)
        cases hA'
        by_cases t3 : ds[m + 1] ≤ ds[m]
        · have hd3 : decide (ds[m + 1] ≤ ds[m]) = true := decide_eq_true t3
          go_wp2
          go_ret
          exact ⟨ret_bool (devsB_no fun h => by have := devOk_step hlt (h _ hlt); omega), (by repeat (first | exact Ext.refl _ | assumption | refine Ext.alloc ?_ _ | refine Ext.drew ?_ | refine Ext.drewN ?_ _ | refine Ext.trans ?_ (by assumption)))⟩
        have hd3 : decide (ds[m + 1] ≤ ds[m]) = false := decide_eq_false t3
        go_wp2
        go_roundw
        case rel => exact ⟨m + 2, by omega, by go_num, rfl, HWR.out, fun n hn => by rcases Nat.lt_succ_iff_lt_or_eq.1 hn with h | rfl; exact HD.out n h; exact devOk_succ hlt (by omega) (by omega) (by omega)⟩
        case measure => simp [intOf]; omega
    · have hks : k = ds.length := by omega
      subst hks
      go_wp2
      go_ret
      exact ⟨ret_bool (devsB_yes HD.out), (by repeat (first | exact Ext.refl _ | assumption | refine Ext.alloc ?_ _ | refine Ext.drew ?_ | refine Ext.drewN ?_ _ | refine Ext.trans ?_ (by assumption)))⟩

noncomputable def taskI (p : PlatV) (t : TaskV) : Int := if taskB p t then 0 else 3
theorem taskI_no {p : PlatV} {t : TaskV} (h : ¬ taskP p t) : 3 = taskI p t := by unfold taskI; rw [← taskB_no h]; rfl
theorem taskI_yes {p : PlatV} {t : TaskV} (h : taskP p t) : 0 = taskI p t := by unfold taskI; rw [← taskB_yes h]; rfl
theorem sec_any {t : TaskV} : t.sec.xs.any (oddB t.cycles) = false ↔ secP t := by
  rw [List.any_eq_false]
  unfold secP oddB
  constructor
  · intro h x hx
    have := h x hx
    simp only [decide_eq_true_eq] at this
    omega
  · intro h x hx
    have := h x hx
    simp only [decide_eq_true_eq]
    omega
set_option maxHeartbeats 4000000 in
theorem tcheck_any (p : PlatV) (t : TaskV) (w : World) (hp : p.Ok w) (ht : t.Ok w) : Calls Try.prog 16 #[p.val, t.val] w fun e w' => e = .returned (.int .i64 (taskI p t)) ∧ Ext w w' := by
  have hls : t.sec.xs.length ≤ 4611686018427387904 := by have := ht.sec.fit; omega
  have hld : t.devs.xs.length ≤ 4611686018427387904 := by have := ht.devs.fit; omega
  have hrs := ht.sec.row
  have hrd := ht.devs.row
  have HP := Lib.hid hp; clear hp ht
  have hsec := sec_any (t := t)
  have HSEC := Lib.hid hsec; clear hsec
  unfold PlatV.val TaskV.val
  by_cases a1 : t.period < 1
  · have f1 : decide (t.period < 1) = true := decide_eq_true a1
    (go_enter Try.func16, Try.ntmps16; go_wp2_with fail)
    go_ret
    exact ⟨ret_int (taskI_no fun h => by have := h.1.1; omega), (by repeat (first | exact Ext.refl _ | assumption | refine Ext.alloc ?_ _ | refine Ext.drew ?_ | refine Ext.drewN ?_ _ | refine Ext.trans ?_ (by assumption)))⟩
  have f1 : decide (t.period < 1) = false := decide_eq_false a1
  by_cases a2 : p.horizon < t.period
  · have f2 : decide (p.horizon < t.period) = true := decide_eq_true a2
    (go_enter Try.func16, Try.ntmps16; go_wp2_with fail)
    go_ret
    exact ⟨ret_int (taskI_no fun h => by have := h.1.2.1; omega), (by repeat (first | exact Ext.refl _ | assumption | refine Ext.alloc ?_ _ | refine Ext.drew ?_ | refine Ext.drewN ?_ _ | refine Ext.trans ?_ (by assumption)))⟩
  have f2 : decide (p.horizon < t.period) = false := decide_eq_false a2
  by_cases a3 : t.cycles < 1
  · have f3 : decide (t.cycles < 1) = true := decide_eq_true a3
    (go_enter Try.func16, Try.ntmps16; go_wp2_with fail)
    go_ret
    exact ⟨ret_int (taskI_no fun h => by have := h.1.2.2.1; omega), (by repeat (first | exact Ext.refl _ | assumption | refine Ext.alloc ?_ _ | refine Ext.drew ?_ | refine Ext.drewN ?_ _ | refine Ext.trans ?_ (by assumption)))⟩
  have f3 : decide (t.cycles < 1) = false := decide_eq_false a3
  by_cases a4 : 4096 < t.cycles
  · have f4 : decide (4096 < t.cycles) = true := decide_eq_true a4
    (go_enter Try.func16, Try.ntmps16; go_wp2_with fail)
    go_ret
    exact ⟨ret_int (taskI_no fun h => by have := h.1.2.2.2.1; omega), (by repeat (first | exact Ext.refl _ | assumption | refine Ext.alloc ?_ _ | refine Ext.drew ?_ | refine Ext.drewN ?_ _ | refine Ext.trans ?_ (by assumption)))⟩
  have f4 : decide (4096 < t.cycles) = false := decide_eq_false a4
  by_cases a5 : p.sems < (t.sec.xs.length : Int)
  · have f5 : decide (p.sems < (t.sec.xs.length : Int)) = true := decide_eq_true a5
    (go_enter Try.func16, Try.ntmps16; go_wp2_with fail)
    go_ret
    exact ⟨ret_int (taskI_no fun h => by have := h.1.2.2.2.2; omega), (by repeat (first | exact Ext.refl _ | assumption | refine Ext.alloc ?_ _ | refine Ext.drew ?_ | refine Ext.drewN ?_ _ | refine Ext.trans ?_ (by assumption)))⟩
  have f5 : decide (p.sems < (t.sec.xs.length : Int)) = false := decide_eq_false a5
  cases a6 : t.sec.xs.any (oddB t.cycles)
  rotate_left
  · have A6 := Lib.hid a6; clear a6
    (go_enter Try.func16, Try.ntmps16; go_wp2_with fail)
    refine (oddin_any _ _ t.sec.xs t.cycles (w.heap.size + 1) _ (hrs.ext (by repeat (first | exact Ext.refl _ | assumption | refine Ext.alloc ?_ _ | refine Ext.drew ?_ | refine Ext.drewN ?_ _ | refine Ext.trans ?_ (by assumption)))) hls (by go_simp)).mono ?_
    rw [A6.out]
    rintro e w1 ⟨rfl, rfl⟩
    go_wp2
    go_ret
    exact ⟨ret_int (taskI_no fun h => by have := HSEC.out.2 h.2.1; rw [A6.out] at this; cases this), (by repeat (first | exact Ext.refl _ | assumption | refine Ext.alloc ?_ _ | refine Ext.drew ?_ | refine Ext.drewN ?_ _ | refine Ext.trans ?_ (by assumption)))⟩
  have A6 := Lib.hid a6; clear a6
  cases a7 : devsB p.devices.xs.length t.devs.xs
  all_goals
    have A7 := Lib.hid a7; clear a7
    (go_enter Try.func16, Try.ntmps16; go_wp2_with fail)
    refine (oddin_any _ _ t.sec.xs t.cycles (w.heap.size + 1) _ (hrs.ext (by repeat (first | exact Ext.refl _ | assumption | refine Ext.alloc ?_ _ | refine Ext.drew ?_ | refine Ext.drewN ?_ _ | refine Ext.trans ?_ (by assumption)))) hls (by go_simp)).mono ?_
    rw [A6.out]
    rintro e w1 ⟨rfl, rfl⟩
    go_wp2_with fail
    refine (devices_any p _ _ t.devs.xs _ (HP.out.ext (by repeat (first | exact Ext.refl _ | assumption | refine Ext.alloc ?_ _ | refine Ext.drew ?_ | refine Ext.drewN ?_ _ | refine Ext.trans ?_ (by assumption)))) (hrd.ext (by repeat (first | exact Ext.refl _ | assumption | refine Ext.alloc ?_ _ | refine Ext.drew ?_ | refine Ext.drewN ?_ _ | refine Ext.trans ?_ (by assumption)))) hld).mono ?_
    rw [A7.out]
    rintro e w2 ⟨rfl, hb2⟩
    go_wp2
    go_ret
    first
      | exact ⟨ret_int (taskI_no fun h => by have := devsB_iff.2 h.2.2; rw [A7.out] at this; cases this), (by repeat (first | exact Ext.refl _ | assumption | refine Ext.alloc ?_ _ | refine Ext.drew ?_ | refine Ext.drewN ?_ _ | refine Ext.trans ?_ (by assumption)))⟩
      | exact ⟨ret_int (taskI_yes ⟨⟨by omega, by omega, by omega, by omega, by omega⟩, HSEC.out.1 A6.out, devsB_iff.1 A7.out⟩), (by repeat (first | exact Ext.refl _ | assumption | refine Ext.alloc ?_ _ | refine Ext.drew ?_ | refine Ext.drewN ?_ _ | refine Ext.trans ?_ (by assumption)))⟩
end Go.Proofs.Ytmfphojmegfanab
