/- table: its functions, and the reference's. -/
import Derived.Test.YtmfphojmegfanaaOpens
namespace Go.Proofs.Ytmfphojmegfanaa
open Go.RowKit
set_option linter.unusedVariables false

def winB (n lo hi : Int) : Bool := decide (lo ≤ n ∧ n ≤ hi)
theorem winB_iff {n lo hi : Int} : winB n lo hi = true ↔ lo ≤ n ∧ n ≤ hi := by simp [winB]
theorem winB_not {n lo hi : Int} : winB n lo hi = false ↔ ¬ (lo ≤ n ∧ n ≤ hi) := by simp [winB]
theorem winB_in {n lo hi : Int} (h : winB n lo hi = true) : lo ≤ n ∧ n ≤ hi := winB_iff.1 h

theorem within_any (n lo hi : Int) (w : World) : Calls Try.prog 44 #[.int .i64 n, .int .i64 lo, .int .i64 hi] w fun e w' => e = .returned (.bool (winB n lo hi)) ∧ w = w' := by
  by_cases h1 : lo ≤ n
  · by_cases h2 : n ≤ hi
    all_goals
      go_enter Try.func44, Try.ntmps44
      go_wp2
      go_ret
      exact ⟨ret_bool (by simp [winB, h1, h2]), rfl⟩
  · go_enter Try.func44, Try.ntmps44
    go_wp2
    go_ret
    exact ⟨ret_bool (by simp only [winB]; exact (decide_eq_false (fun h => by omega)).symm), rfl⟩
theorem power_any (n : Int) (w : World) : Calls Try.prog 41 #[.int .i64 n] w fun e w' => e = .returned (.bool (winB n 0 65536)) ∧ w = w' := by
  go_enter Try.func41, Try.ntmps41
  go_wp2_with (go_at_call 44; refine (within_any _ _ _ _).mono ?_; rintro e w' ⟨rfl, rfl⟩)
  go_ret
  exact ⟨rfl, rfl⟩
theorem latency_any (n : Int) (w : World) : Calls Try.prog 43 #[.int .i64 n] w fun e w' => e = .returned (.bool (winB n 0 256)) ∧ w = w' := by
  go_enter Try.func43, Try.ntmps43
  go_wp2_with (go_at_call 44; refine (within_any _ _ _ _).mono ?_; rintro e w' ⟨rfl, rfl⟩)
  go_ret
  exact ⟨rfl, rfl⟩

/-- the numbers of an away are each in its range -/
def awayR (down up downE upE off on : Int) : Prop := (0 ≤ down ∧ down ≤ 256) ∧ (0 ≤ up ∧ up ≤ 256) ∧ (0 ≤ downE ∧ downE ≤ 65536) ∧ (0 ≤ upE ∧ upE ≤ 65536) ∧ (0 ≤ on ∧ on ≤ 65536) ∧ (0 ≤ off ∧ off ≤ on)
def awayE (down up even : Int) : Prop := down + up ≤ even ∧ 1 ≤ even ∧ even ≤ 16384
def awayP (down up downE upE off on even : Int) : Prop := awayR down up downE upE off on ∧ awayE down up even ∧ downE + upE + off * (even - down - up) ≤ on * even
open Classical in
noncomputable def awayB (down up downE upE off on even : Int) : Bool := decide (awayP down up downE upE off on even)
theorem awayB_iff {down up downE upE off on even : Int} : awayB down up downE upE off on even = true ↔ awayP down up downE upE off on even := by simp [awayB]
theorem awayB_yes {down up downE upE off on even : Int} (h : awayP down up downE upE off on even) : true = awayB down up downE upE off on even := (awayB_iff.2 h).symm
theorem awayB_no {down up downE upE off on even : Int} (h : ¬ awayP down up downE upE off on even) : false = awayB down up downE upE off on even := by simp [awayB, h]
theorem mul_bd {a b A B : Int} (h1 : 0 ≤ a) (h2 : a ≤ A) (h3 : 0 ≤ b) (h4 : b ≤ B) : 0 ≤ a * b ∧ a * b ≤ A * B :=
  ⟨Int.mul_nonneg h1 h3, Int.mul_le_mul h2 h4 h3 (by omega)⟩

set_option maxHeartbeats 2000000 in
theorem away_any (down up downE upE off on even : Int) (w : World) :
    Calls Try.prog 45 #[.int .i64 down, .int .i64 up, .int .i64 downE, .int .i64 upE, .int .i64 off, .int .i64 on, .int .i64 even] w fun e w' => e = .returned (.bool (awayB down up downE upE off on even)) ∧ w = w' := by
  cases g1 : winB down 0 256
  · (go_enter Try.func45, Try.ntmps45; go_wp2_with (first | (go_at_call 43; refine (latency_any _ _).mono ?_; rintro e w' ⟨rfl, rfl⟩) | (go_at_call 41; refine (power_any _ _).mono ?_; rintro e w' ⟨rfl, rfl⟩) | (go_at_call 44; refine (within_any _ _ _ _).mono ?_; rintro e w' ⟨rfl, rfl⟩)))
    (go_ret; exact ⟨ret_bool (awayB_no (by intro h; obtain ⟨⟨h1, h2, h3, h4, h5, h6⟩, _, _⟩ := h; simp only [winB_not] at *; omega)), rfl⟩)
  cases g2 : winB up 0 256
  · (go_enter Try.func45, Try.ntmps45; go_wp2_with (first | (go_at_call 43; refine (latency_any _ _).mono ?_; rintro e w' ⟨rfl, rfl⟩) | (go_at_call 41; refine (power_any _ _).mono ?_; rintro e w' ⟨rfl, rfl⟩) | (go_at_call 44; refine (within_any _ _ _ _).mono ?_; rintro e w' ⟨rfl, rfl⟩)))
    (go_ret; exact ⟨ret_bool (awayB_no (by intro h; obtain ⟨⟨h1, h2, h3, h4, h5, h6⟩, _, _⟩ := h; simp only [winB_not] at *; omega)), rfl⟩)
  cases g3 : winB downE 0 65536
  · (go_enter Try.func45, Try.ntmps45; go_wp2_with (first | (go_at_call 43; refine (latency_any _ _).mono ?_; rintro e w' ⟨rfl, rfl⟩) | (go_at_call 41; refine (power_any _ _).mono ?_; rintro e w' ⟨rfl, rfl⟩) | (go_at_call 44; refine (within_any _ _ _ _).mono ?_; rintro e w' ⟨rfl, rfl⟩)))
    (go_ret; exact ⟨ret_bool (awayB_no (by intro h; obtain ⟨⟨h1, h2, h3, h4, h5, h6⟩, _, _⟩ := h; simp only [winB_not] at *; omega)), rfl⟩)
  cases g4 : winB upE 0 65536
  · (go_enter Try.func45, Try.ntmps45; go_wp2_with (first | (go_at_call 43; refine (latency_any _ _).mono ?_; rintro e w' ⟨rfl, rfl⟩) | (go_at_call 41; refine (power_any _ _).mono ?_; rintro e w' ⟨rfl, rfl⟩) | (go_at_call 44; refine (within_any _ _ _ _).mono ?_; rintro e w' ⟨rfl, rfl⟩)))
    (go_ret; exact ⟨ret_bool (awayB_no (by intro h; obtain ⟨⟨h1, h2, h3, h4, h5, h6⟩, _, _⟩ := h; simp only [winB_not] at *; omega)), rfl⟩)
  cases g5 : winB on 0 65536
  · (go_enter Try.func45, Try.ntmps45; go_wp2_with (first | (go_at_call 43; refine (latency_any _ _).mono ?_; rintro e w' ⟨rfl, rfl⟩) | (go_at_call 41; refine (power_any _ _).mono ?_; rintro e w' ⟨rfl, rfl⟩) | (go_at_call 44; refine (within_any _ _ _ _).mono ?_; rintro e w' ⟨rfl, rfl⟩)))
    (go_ret; exact ⟨ret_bool (awayB_no (by intro h; obtain ⟨⟨h1, h2, h3, h4, h5, h6⟩, _, _⟩ := h; simp only [winB_not] at *; omega)), rfl⟩)
  cases g6 : winB off 0 on
  · (go_enter Try.func45, Try.ntmps45; go_wp2_with (first | (go_at_call 43; refine (latency_any _ _).mono ?_; rintro e w' ⟨rfl, rfl⟩) | (go_at_call 41; refine (power_any _ _).mono ?_; rintro e w' ⟨rfl, rfl⟩) | (go_at_call 44; refine (within_any _ _ _ _).mono ?_; rintro e w' ⟨rfl, rfl⟩)))
    (go_ret; exact ⟨ret_bool (awayB_no (by intro h; obtain ⟨⟨h1, h2, h3, h4, h5, h6⟩, _, _⟩ := h; simp only [winB_not] at *; omega)), rfl⟩)
  obtain ⟨a1, a2⟩ := winB_in g1
  obtain ⟨b1, b2⟩ := winB_in g2
  obtain ⟨c1, c2⟩ := winB_in g3
  obtain ⟨d1, d2⟩ := winB_in g4
  obtain ⟨e1, e2⟩ := winB_in g5
  obtain ⟨f1, f2⟩ := winB_in g6
  by_cases he : awayE down up even
  · obtain ⟨h1, h2, h3⟩ := id he
    have m1 := mul_bd f1 (Int.le_trans f2 e2) (show 0 ≤ even - down - up by omega) (show even - down - up ≤ 16384 by omega)
    have m2 := mul_bd e1 e2 (show 0 ≤ even by omega) h3
    have g7 : winB even (down + up) 16384 = true := winB_iff.2 ⟨by omega, h3⟩
    have g8 : winB even 1 16384 = true := winB_iff.2 ⟨by omega, h3⟩
    generalize hp : off * (even - down - up) = pp at *
    generalize hq : on * even = qq at *
    obtain ⟨m1, m1'⟩ := m1
    obtain ⟨m2, m2'⟩ := m2
    have HE := Lib.hid he; clear he
    by_cases hc : downE + upE + pp ≤ qq
    · (go_enter Try.func45, Try.ntmps45; go_wp2_with (first | (go_at_call 43; refine (latency_any _ _).mono ?_; rintro e w' ⟨rfl, rfl⟩) | (go_at_call 41; refine (power_any _ _).mono ?_; rintro e w' ⟨rfl, rfl⟩) | (go_at_call 44; refine (within_any _ _ _ _).mono ?_; rintro e w' ⟨rfl, rfl⟩)))
      all_goals
        go_ret
        exact ⟨ret_bool (awayB_yes ⟨⟨⟨a1, a2⟩, ⟨b1, b2⟩, ⟨c1, c2⟩, ⟨d1, d2⟩, ⟨e1, e2⟩, f1, f2⟩, HE.out, by rw [hp, hq]; exact hc⟩), rfl⟩
    · have hcb : decide (downE + upE + pp ≤ qq) = false := by simpa using hc
      (go_enter Try.func45, Try.ntmps45; go_wp2_with (first | (go_at_call 43; refine (latency_any _ _).mono ?_; rintro e w' ⟨rfl, rfl⟩) | (go_at_call 41; refine (power_any _ _).mono ?_; rintro e w' ⟨rfl, rfl⟩) | (go_at_call 44; refine (within_any _ _ _ _).mono ?_; rintro e w' ⟨rfl, rfl⟩)))
      all_goals
        go_ret
        exact ⟨ret_bool (awayB_no fun h => by have := h.2.2; rw [hp, hq] at this; omega), rfl⟩
  · have HE := Lib.hid he; clear he
    by_cases hx : down + up < 1
    · have g8 : winB even 1 16384 = false := winB_not.2 fun h => HE.out ⟨by omega, h.1, h.2⟩
      (go_enter Try.func45, Try.ntmps45; go_wp2_with (first | (go_at_call 43; refine (latency_any _ _).mono ?_; rintro e w' ⟨rfl, rfl⟩) | (go_at_call 41; refine (power_any _ _).mono ?_; rintro e w' ⟨rfl, rfl⟩) | (go_at_call 44; refine (within_any _ _ _ _).mono ?_; rintro e w' ⟨rfl, rfl⟩)))
      go_ret
      exact ⟨ret_bool (awayB_no fun h => HE.out h.2.1), rfl⟩
    · have g7 : winB even (down + up) 16384 = false := winB_not.2 fun h => HE.out ⟨h.1, by omega, h.2⟩
      (go_enter Try.func45, Try.ntmps45; go_wp2_with (first | (go_at_call 43; refine (latency_any _ _).mono ?_; rintro e w' ⟨rfl, rfl⟩) | (go_at_call 41; refine (power_any _ _).mono ?_; rintro e w' ⟨rfl, rfl⟩) | (go_at_call 44; refine (within_any _ _ _ _).mono ?_; rintro e w' ⟨rfl, rfl⟩)))
      go_ret
      exact ⟨ret_bool (awayB_no fun h => HE.out h.2.1), rfl⟩

set_option maxHeartbeats 2000000 in
theorem raway_any (down up downE upE off on even : Int) (w : World) :
    Calls Try.prog 55 #[.int .i64 down, .int .i64 up, .int .i64 downE, .int .i64 upE, .int .i64 off, .int .i64 on, .int .i64 even] w fun e w' => e = .returned (.bool (awayB down up downE upE off on even)) ∧ w = w' := by
  by_cases hr : awayR down up downE upE off on
  · obtain ⟨⟨a1, a2⟩, ⟨b1, b2⟩, ⟨c1, c2⟩, ⟨d1, d2⟩, ⟨e1, e2⟩, f1, f2⟩ := id hr
    have HR := Lib.hid hr; clear hr
    by_cases he : awayE down up even
    · obtain ⟨h1, h2, h3⟩ := id he
      have m1 := mul_bd f1 (Int.le_trans f2 e2) (show 0 ≤ even - down - up by omega) (show even - down - up ≤ 16384 by omega)
      have m2 := mul_bd e1 e2 (show 0 ≤ even by omega) h3
      generalize hp : off * (even - down - up) = pp at *
      generalize hq : on * even = qq at *
      obtain ⟨m1, m1'⟩ := m1
      obtain ⟨m2, m2'⟩ := m2
      have HE := Lib.hid he; clear he
      by_cases hc : downE + upE + pp ≤ qq
      · (go_enter Try.func55, Try.ntmps55; go_wp2)
        go_ret
        exact ⟨ret_bool (awayB_yes ⟨HR.out, HE.out, by rw [hp, hq]; exact hc⟩), rfl⟩
      · (go_enter Try.func55, Try.ntmps55; go_wp2)
        go_ret
        exact ⟨ret_bool (awayB_no fun h => by have := h.2.2; rw [hp, hq] at this; omega), rfl⟩
    · have HE := Lib.hid he; clear he
      by_cases hx : down + up ≤ even
      · by_cases hy : 1 ≤ even
        · have hz : ¬ even ≤ 16384 := fun h => HE.out ⟨hx, hy, h⟩
          (go_enter Try.func55, Try.ntmps55; go_wp2)
          go_ret
          exact ⟨ret_bool (awayB_no fun h => HE.out h.2.1), rfl⟩
        · (go_enter Try.func55, Try.ntmps55; go_wp2)
          go_ret
          exact ⟨ret_bool (awayB_no fun h => HE.out h.2.1), rfl⟩
      · (go_enter Try.func55, Try.ntmps55; go_wp2)
        go_ret
        exact ⟨ret_bool (awayB_no fun h => HE.out h.2.1), rfl⟩
  · have HR := Lib.hid hr; clear hr
    (go_enter Try.func55, Try.ntmps55; go_wp2)
    all_goals first | exact (HR.out ⟨⟨by omega, by omega⟩, ⟨by omega, by omega⟩, ⟨by omega, by omega⟩, ⟨by omega, by omega⟩, ⟨by omega, by omega⟩, by omega, by omega⟩).elim | (go_ret; exact ⟨ret_bool (awayB_no fun h => HR.out h.1), rfl⟩)
end Go.Proofs.Ytmfphojmegfanaa
