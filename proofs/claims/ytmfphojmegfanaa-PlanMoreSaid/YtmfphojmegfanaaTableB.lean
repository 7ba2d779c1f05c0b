/- table.levels. -/
import Derived.Test.YtmfphojmegfanaaTable
namespace Go.Proofs.Ytmfphojmegfanaa
open Go.RowKit
set_option linter.unusedVariables false

def lvlOk (idle crit : Int) (xs : List LevelV) (n : Nat) : Prop := ∀ l, xs[n]? = some l → (1 ≤ l.P ∧ l.P ≤ 256) ∧ (0 ≤ l.E ∧ l.E ≤ 65536) ∧
  ∀ m a, n = m + 1 → xs[m]? = some a → a.P < l.P ∧ ((n : Int) ≤ crit → l.E - l.P * idle ≤ a.E - a.P * idle)
def levelsP (p : PlatV) : Prop := 1 ≤ p.levels.xs.length ∧ p.levels.xs.length ≤ 4 ∧ 0 ≤ p.crit ∧ p.crit ≤ p.levels.xs.length - 1 ∧ ∀ n, n < p.levels.xs.length → lvlOk p.idle p.crit p.levels.xs n
open Classical in
noncomputable def levelsB (p : PlatV) : Bool := decide (levelsP p)
theorem levelsB_iff {p : PlatV} : levelsB p = true ↔ levelsP p := by simp [levelsB]
theorem levelsB_yes {p : PlatV} (h : levelsP p) : true = levelsB p := (levelsB_iff.2 h).symm
theorem levelsB_no {p : PlatV} (h : ¬ levelsP p) : false = levelsB p := by simp [levelsB, h]

theorem lvl_bad {idle crit : Int} {xs : List LevelV} {k : Nat} (hk : k < xs.length) (h : winB xs[k].P 1 256 = false ∨ winB xs[k].E 0 65536 = false) : ¬ lvlOk idle crit xs k := fun hh => by
  obtain ⟨h1, h2, _⟩ := hh xs[k] (List.getElem?_eq_getElem hk)
  rcases h with h | h <;> have := winB_not.1 h <;> omega
theorem lvl_zero {idle crit : Int} {xs : List LevelV} (hk : 0 < xs.length) (h1 : winB xs[0].P 1 256 = true) (h2 : winB xs[0].E 0 65536 = true) : lvlOk idle crit xs 0 := fun l hl => by
  rw [List.getElem?_eq_getElem hk] at hl
  cases hl
  exact ⟨winB_in h1, winB_in h2, fun m a h => by omega⟩
theorem lvl_succ {idle crit : Int} {xs : List LevelV} {k : Nat} (hk : k + 1 < xs.length) (h1 : winB xs[k + 1].P 1 256 = true) (h2 : winB xs[k + 1].E 0 65536 = true) (h3 : xs[k].P < xs[k + 1].P)
    (h4 : ((k + 1 : Nat) : Int) ≤ crit → xs[k + 1].E - xs[k + 1].P * idle ≤ xs[k].E - xs[k].P * idle) : lvlOk idle crit xs (k + 1) := fun l hl => by
  rw [List.getElem?_eq_getElem hk] at hl
  cases hl
  refine ⟨winB_in h1, winB_in h2, fun m a h ha => ?_⟩
  obtain rfl : k = m := by omega
  rw [List.getElem?_eq_getElem (by omega)] at ha
  cases ha
  exact ⟨h3, h4⟩
theorem lvl_step {idle crit : Int} {xs : List LevelV} {k : Nat} (hk : k + 1 < xs.length) (h : lvlOk idle crit xs (k + 1)) : xs[k].P < xs[k + 1].P ∧ (((k + 1 : Nat) : Int) ≤ crit → xs[k + 1].E - xs[k + 1].P * idle ≤ xs[k].E - xs[k].P * idle) :=
  (h _ (List.getElem?_eq_getElem hk)).2.2 k _ rfl (List.getElem?_eq_getElem (by omega))
theorem lvl_more {idle crit : Int} {xs : List LevelV} {k : Nat} (h : ∀ n, n < k → lvlOk idle crit xs n) (hk : lvlOk idle crit xs k) : ∀ n, n < k + 1 → lvlOk idle crit xs n := fun n hn => by
  rcases Nat.lt_succ_iff_lt_or_eq.1 hn with h1 | rfl
  · exact h n h1
  · exact hk

set_option maxHeartbeats 4000000 in
theorem levels_any (p : PlatV) (w : World) (hp : p.Ok w) (hi : 0 ≤ p.idle ∧ p.idle ≤ 65536) : Calls Try.prog 42 #[p.val] w fun e w' => e = .returned (.bool (levelsB p)) ∧ Ext w w' := by
  obtain ⟨i1, i2⟩ := hi
  have hrow := hp.levels.row
  clear hp
  obtain ⟨⟨LA, Lc, lv⟩, sl, dv, idle, crit, sw, swE, sems, hz⟩ := p
  dsimp only at i1 i2 hrow
  unfold PlatV.val
  dsimp only
  cases g1 : winB (lv.length : Int) 1 4
  · go_enter Try.func42, Try.ntmps42
    go_wp2_with (go_at_call 44; refine (within_any _ _ _ _).mono ?_; rintro e w' ⟨rfl, rfl⟩)
    go_ret
    exact ⟨ret_bool (levelsB_no fun h => by have := winB_not.1 g1; obtain ⟨h1, h2, _⟩ := h; dsimp only at h1 h2; omega), (by repeat (first | exact Ext.refl _ | assumption | refine Ext.alloc ?_ _ | refine Ext.drew ?_ | refine Ext.drewN ?_ _ | refine Ext.trans ?_ (by assumption)))⟩
  cases g2 : winB crit 0 ((lv.length : Int) - 1)
  · have hl := winB_in g1
    go_enter Try.func42, Try.ntmps42
    go_wp2_with (go_at_call 44; refine (within_any _ _ _ _).mono ?_; rintro e w' ⟨rfl, rfl⟩)
    go_ret
    exact ⟨ret_bool (levelsB_no fun h => by have := winB_not.1 g2; obtain ⟨h1, h2, h3, h4, _⟩ := h; dsimp only at h3 h4; omega), (by repeat (first | exact Ext.refl _ | assumption | refine Ext.alloc ?_ _ | refine Ext.drew ?_ | refine Ext.drewN ?_ _ | refine Ext.trans ?_ (by assumption)))⟩
  obtain ⟨l1, l2⟩ := winB_in g1
  obtain ⟨c1, c2⟩ := winB_in g2
  go_enter Try.func42, Try.ntmps42
  go_wp2_with (go_at_call 44; refine (within_any _ _ _ _).mono ?_; rintro e w' ⟨rfl, rfl⟩)
  go_loopw [2, 3, 4, 5, 24] (fun r _ _ _ i wr => ∃ k : Nat, k ≤ lv.length ∧ i = .int .i64 k ∧ r = .bool false ∧ Ext (w.alloc (.cells (PlatV.arr ⟨⟨LA, Lc, lv⟩, sl, dv, idle, crit, sw, swE, sems, hz⟩) 26)) wr ∧ ∀ n, n < k → lvlOk idle crit lv n) (fun _ _ _ _ i _ => lv.length - (intOf i).toNat)
  case atStart => exact ⟨0, by omega, rfl, rfl, Ext.refl _, fun n hn => absurd hn (by omega)⟩
  case round =>
    obtain ⟨k, hk, rfl, rfl, hb, hall⟩ := hrel
    have HALL := Lib.hid hall; clear hall
    have hw : Ext w wr := ((Ext.refl w).alloc _).trans hb
    obtain ⟨q0, q1, q2, q3, q4, q5, q6, q7, q8⟩ := PlatV.boxed w ⟨⟨LA, Lc, lv⟩, sl, dv, idle, crit, sw, swE, sems, hz⟩ 26
    have q0 := hb.cell q0
    have q3 := hb.cell q3
    have q4 := hb.cell q4
    have qz : w.heap.size < wr.heap.size := by have := hb.size; simp only [World.size_alloc] at this; omega
    clear q1 q2 q5 q6 q7 q8
    dsimp only at q0 q3 q4
    by_cases hlt : k < lv.length
    · obtain ⟨b, o, rfl, ub, u0, u1⟩ := LevelV.row (hrow.ext hw) k hlt
      cases g3 : winB lv[k].P 1 256
      · go_wp2_with (first | (go_at_call 44; refine (within_any _ _ _ _).mono ?_; rintro e w' ⟨rfl, rfl⟩) | (go_at_call 41; refine (power_any _ _).mono ?_; rintro e w' ⟨rfl, rfl⟩))
        go_ret
        exact ⟨ret_bool (levelsB_no fun h => lvl_bad hlt (.inl g3) (h.2.2.2.2 k hlt)), (by repeat (first | exact Ext.refl _ | assumption | refine Ext.alloc ?_ _ | refine Ext.drew ?_ | refine Ext.drewN ?_ _ | refine Ext.trans ?_ (by assumption)))⟩
      cases g4 : winB lv[k].E 0 65536
      · go_wp2_with (first | (go_at_call 44; refine (within_any _ _ _ _).mono ?_; rintro e w' ⟨rfl, rfl⟩) | (go_at_call 41; refine (power_any _ _).mono ?_; rintro e w' ⟨rfl, rfl⟩))
        go_ret
        exact ⟨ret_bool (levelsB_no fun h => lvl_bad hlt (.inr g4) (h.2.2.2.2 k hlt)), (by repeat (first | exact Ext.refl _ | assumption | refine Ext.alloc ?_ _ | refine Ext.drew ?_ | refine Ext.drewN ?_ _ | refine Ext.trans ?_ (by assumption)))⟩
      cases k with
      | zero =>
        simp only [Nat.zero_mul, Nat.add_zero] at u0 u1
        go_wp2_with (first | (go_at_call 44; refine (within_any _ _ _ _).mono ?_; rintro e w' ⟨rfl, rfl⟩) | (go_at_call 41; refine (power_any _ _).mono ?_; rintro e w' ⟨rfl, rfl⟩))
        go_roundw
        case rel => exact ⟨1, by omega, by go_num, rfl, (by repeat (first | exact Ext.refl _ | assumption | refine Ext.alloc ?_ _ | refine Ext.drew ?_ | refine Ext.drewN ?_ _ | refine Ext.trans ?_ (by assumption))), lvl_more (k := 0) HALL.out (lvl_zero hlt g3 g4)⟩
        case measure => simp [intOf]; omega
      | succ m =>
        obtain ⟨v1, v2⟩ := winB_in g3
        obtain ⟨v3, v4⟩ := winB_in g4
        obtain ⟨⟨y1, y2⟩, ⟨y3, y4⟩, _⟩ := HALL.out m (by omega) _ (List.getElem?_eq_getElem (by omega))
        obtain ⟨_, _, hA', _, u2, u3⟩ := LevelV.row (hrow.ext hw) m (by omega)
        cases hA'
        have m1 := mul_bd (show 0 ≤ lv[m + 1].P by omega) v2 i1 i2
        have m2 := mul_bd (show 0 ≤ lv[m].P by omega) y2 i1 i2
        have hls : lvlOk idle crit lv (m + 1) → _ := lvl_step hlt
        have hls2 := lvl_succ (idle := idle) (crit := crit) hlt g3 g4
        generalize hx : lv[m + 1].P * idle = xx at *
        generalize hy : lv[m].P * idle = yy at *
        obtain ⟨m1, m1'⟩ := m1
        obtain ⟨m2, m2'⟩ := m2
        have HLS := Lib.hid hls; clear hls
        have HLS2 := Lib.hid hls2; clear hls2
        by_cases t1 : lv[m + 1].P ≤ lv[m].P
        · (go_wp2_with (first | (go_at_call 44; refine (within_any _ _ _ _).mono ?_; rintro e w' ⟨rfl, rfl⟩) | (go_at_call 41; refine (power_any _ _).mono ?_; rintro e w' ⟨rfl, rfl⟩)))
          go_ret
          exact ⟨ret_bool (levelsB_no fun h => by have := (HLS.out (h.2.2.2.2 _ hlt)).1; omega), (by repeat (first | exact Ext.refl _ | assumption | refine Ext.alloc ?_ _ | refine Ext.drew ?_ | refine Ext.drewN ?_ _ | refine Ext.trans ?_ (by assumption)))⟩
        by_cases t2 : ((m : Int) + 1) ≤ crit
        · by_cases t3 : lv[m].E - yy < lv[m + 1].E - xx
          · (go_wp2_with (first | (go_at_call 44; refine (within_any _ _ _ _).mono ?_; rintro e w' ⟨rfl, rfl⟩) | (go_at_call 41; refine (power_any _ _).mono ?_; rintro e w' ⟨rfl, rfl⟩)))
            go_ret
            exact ⟨ret_bool (levelsB_no fun h => by have := (HLS.out (h.2.2.2.2 _ hlt)).2 (by omega); omega), (by repeat (first | exact Ext.refl _ | assumption | refine Ext.alloc ?_ _ | refine Ext.drew ?_ | refine Ext.drewN ?_ _ | refine Ext.trans ?_ (by assumption)))⟩
          · (go_wp2_with (first | (go_at_call 44; refine (within_any _ _ _ _).mono ?_; rintro e w' ⟨rfl, rfl⟩) | (go_at_call 41; refine (power_any _ _).mono ?_; rintro e w' ⟨rfl, rfl⟩)))
            go_roundw
            case rel => exact ⟨m + 2, by omega, by go_num, rfl, (by repeat (first | exact Ext.refl _ | assumption | refine Ext.alloc ?_ _ | refine Ext.drew ?_ | refine Ext.drewN ?_ _ | refine Ext.trans ?_ (by assumption))), lvl_more (k := m + 1) HALL.out (HLS2.out (by omega) (fun _ => by omega))⟩
            case measure => simp [intOf]; omega
        · (go_wp2_with (first | (go_at_call 44; refine (within_any _ _ _ _).mono ?_; rintro e w' ⟨rfl, rfl⟩) | (go_at_call 41; refine (power_any _ _).mono ?_; rintro e w' ⟨rfl, rfl⟩)))
          go_roundw
          case rel => exact ⟨m + 2, by omega, by go_num, rfl, (by repeat (first | exact Ext.refl _ | assumption | refine Ext.alloc ?_ _ | refine Ext.drew ?_ | refine Ext.drewN ?_ _ | refine Ext.trans ?_ (by assumption))), lvl_more (k := m + 1) HALL.out (HLS2.out (by omega) (fun h => by omega))⟩
          case measure => simp [intOf]; omega
    · go_wp2
      go_ret
      exact ⟨ret_bool (levelsB_yes ⟨by dsimp only; omega, by dsimp only; omega, c1, c2, fun n hn => HALL.out n (by have hn : n < lv.length := hn; omega)⟩), (by repeat (first | exact Ext.refl _ | assumption | refine Ext.alloc ?_ _ | refine Ext.drew ?_ | refine Ext.drewN ?_ _ | refine Ext.trans ?_ (by assumption)))⟩
end Go.Proofs.Ytmfphojmegfanaa
