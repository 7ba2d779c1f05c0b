/- the law TableNet, walked. -/
import Derived.Test.YtmfphojmegfanaaWalkTableSaves
namespace Go.Proofs.Ytmfphojmegfanaa
open Go.RowKit
set_option linter.unusedVariables false
theorem Ext.lt' {w w1 : World} {o : Obj} (h : Ext (w.alloc o) w1) : w.heap.size < w1.heap.size := by
  have := h.size
  simp only [World.size_alloc] at this
  omega
theorem net_chain {idle crit : Int} {xs : List LevelV} (h : ∀ n, n < xs.length → lvlOk idle crit xs n) (m d : Nat) (hd : m + d < xs.length) (hc : ((m + d : Nat) : Int) ≤ crit) :
    xs[m + d].E - xs[m + d].P * idle ≤ xs[m].E - xs[m].P * idle ∧ xs[m].P ≤ xs[m + d].P ∧ (0 < d → xs[m].P < xs[m + d].P) := by
  induction d with
  | zero => exact ⟨Int.le_refl _, Int.le_refl _, fun h => by omega⟩
  | succ d ih =>
    obtain ⟨a, b, c⟩ := ih (by omega) (by omega)
    obtain ⟨e, f⟩ := lvl_step (idle := idle) (crit := crit) (k := m + d) (xs := xs) hd (h _ hd)
    have f := f (by omega)
    refine ⟨Int.le_trans f a, ?_, fun _ => ?_⟩
    · exact Int.le_trans b (Int.le_of_lt e)
    · exact Int.lt_of_le_of_lt b e
set_option maxHeartbeats 8000000 in
set_option maxRecDepth 100000 in
theorem walk_TableNet (p : PlatV) (a b : Int) (w : World) (hp : p.Arg w) (ha : 0 ≤ a ∧ a ≤ 255) (hb : 0 ≤ b ∧ b ≤ 255) : Calls Try.prog 11 #[p.val, .int .u8 a, .int .u8 b] w fun e w' => e = .returned (.bool true) ∧ Ext w w' := by
  have hk := hp.ok
  clear hp
  obtain ⟨a1, a2⟩ := ha
  obtain ⟨b1, b2⟩ := hb
  have ea : a.tmod 4 = a % 4 := Int.tmod_eq_emod_of_nonneg a1
  have eb : b.tmod 4 = b % 4 := Int.tmod_eq_emod_of_nonneg b1
  obtain ⟨x, hx⟩ : ∃ x : Nat, a.tmod 4 = x := ⟨(a % 4).toNat, by omega⟩
  obtain ⟨y, hy⟩ : ∃ y : Nat, b.tmod 4 = y := ⟨(b % 4).toNat, by omega⟩
  have x2 : x ≤ 3 := by omega
  have y2 : y ≤ 3 := by omega
  clear ea eb
  have hrow := hk.levels.row
  obtain ⟨⟨LA, Lc, lv⟩, ⟨SA, Sc, ss⟩, ⟨DA, Dc, ds⟩, idle, crit, sw, swE, sems, hz⟩ := p
  unfold PlatV.val
  dsimp only at hrow ⊢
  obtain ⟨m, n, hmn, hsel⟩ : ∃ m n : Nat, m ≤ n ∧ ((x ≤ y ∧ m = x ∧ n = y) ∨ (y < x ∧ m = y ∧ n = x)) := by
    by_cases h : x ≤ y
    · exact ⟨x, y, h, .inl ⟨h, rfl, rfl⟩⟩
    · exact ⟨y, x, by omega, .inr ⟨by omega, rfl, rfl⟩⟩
  have HSEL := Lib.hid hsel; clear hsel
  go_enter Try.func11, Try.ntmps11
  go_upto_if 19 with fail
  go_cut [7, 8] (fun u v wc => u = .int .i64 m ∧ v = .int .i64 n ∧ wc = w.alloc (.cells (PlatV.arr (⟨⟨LA, Lc, lv⟩, ⟨SA, Sc, ss⟩, ⟨DA, Dc, ds⟩, idle, crit, sw, swE, sems, hz⟩ : PlatV)) 26))
  case first =>
    by_cases hs : (y : Int) < x
    · have hs2 : decide ((y : Int) < x) = true := decide_eq_true hs
      go_wp2
      go_meet
      case rel => rcases HSEL.out with ⟨h, rfl, rfl⟩ | ⟨h, rfl, rfl⟩ <;> first | (exfalso; omega) | exact ⟨rfl, rfl, rfl⟩
    · have hs2 : decide ((y : Int) < x) = false := decide_eq_false hs
      go_wp2
      go_meet
      case rel => rcases HSEL.out with ⟨h, rfl, rfl⟩ | ⟨h, rfl, rfl⟩ <;> first | (exfalso; omega) | exact ⟨rfl, rfl, rfl⟩
  case rest =>
    obtain ⟨rfl, rfl, hwc⟩ := hcut
    obtain ⟨q0, q1, q2, q3, q4, q5, q6, q7, q8⟩ := PlatV.boxed w (⟨⟨LA, Lc, lv⟩, ⟨SA, Sc, ss⟩, ⟨DA, Dc, ds⟩, idle, crit, sw, swE, sems, hz⟩ : PlatV) 26
    rw [← hwc] at q0 q1 q2 q3 q4 q5 q6 q7 q8
    have hww : Ext w wc := by rw [hwc]; exact (Ext.refl w).alloc _
    have hlt : w.heap.size < wc.heap.size := by rw [hwc]; simp
    clear hwc
    dsimp only at q0 q1 q2 q3 q4 q5 q6 q7 q8
    have hn3 : n ≤ 3 := by rcases HSEL.out with ⟨h, rfl, rfl⟩ | ⟨h, rfl, rfl⟩ <;> omega
    clear HSEL hx hy x2 y2 a1 a2 b1 b2
    have HK := Lib.hid hk; clear hk
    rcases checkI_cases (⟨⟨LA, Lc, lv⟩, ⟨SA, Sc, ss⟩, ⟨DA, Dc, ds⟩, idle, crit, sw, swE, sems, hz⟩ : PlatV) with ⟨ht, hc⟩ | hc
    rotate_left
    · have HC := Lib.hid hc; clear hc
      go_wp2_with fail
      refine (check_any (⟨⟨LA, Lc, lv⟩, ⟨SA, Sc, ss⟩, ⟨DA, Dc, ds⟩, idle, crit, sw, swE, sems, hz⟩ : PlatV) _ (HK.out.ext (by repeat (first | exact Ext.refl _ | assumption | refine Ext.alloc ?_ _ | refine Ext.drew ?_ | refine Ext.drewN ?_ _ | refine Ext.trans ?_ (by assumption))))).mono ?_
      rintro e w1 ⟨rfl, hb1⟩
      rw [HC.out]
      go_wp2_with fail
      refine (answers04 _).mono ?_
      rintro e w2 ⟨rfl, hb2⟩
      go_wp2
      go_ret
      exact ⟨rfl, (by repeat (first | exact Ext.refl _ | assumption | refine Ext.alloc ?_ _ | refine Ext.drew ?_ | refine Ext.drewN ?_ _ | refine Ext.trans ?_ (by assumption)))⟩
    have HC := Lib.hid hc; clear hc
    obtain ⟨⟨_, i1, ⟨c1, c2⟩, _⟩, _, hl, _⟩ := ht
    dsimp only at i1 c1 c2
    have hl : ∀ n, n < lv.length → lvlOk idle crit lv n := hl
    by_cases hcr : crit < (n : Int)
    · go_wp2_with fail
      refine (check_any (⟨⟨LA, Lc, lv⟩, ⟨SA, Sc, ss⟩, ⟨DA, Dc, ds⟩, idle, crit, sw, swE, sems, hz⟩ : PlatV) _ (HK.out.ext (by repeat (first | exact Ext.refl _ | assumption | refine Ext.alloc ?_ _ | refine Ext.drew ?_ | refine Ext.drewN ?_ _ | refine Ext.trans ?_ (by assumption))))).mono ?_
      rintro e w1 ⟨rfl, hb1⟩
      rw [HC.out]
      have q4 := hb1.cell q4
      go_wp2_with fail
      refine (answers04 _).mono ?_
      rintro e w2 ⟨rfl, hb2⟩
      go_wp2
      go_ret
      exact ⟨rfl, (by repeat (first | exact Ext.refl _ | assumption | refine Ext.alloc ?_ _ | refine Ext.drew ?_ | refine Ext.drewN ?_ _ | refine Ext.trans ?_ (by assumption)))⟩
    · go_wp2_with fail
      refine (check_any (⟨⟨LA, Lc, lv⟩, ⟨SA, Sc, ss⟩, ⟨DA, Dc, ds⟩, idle, crit, sw, swE, sems, hz⟩ : PlatV) _ (HK.out.ext (by repeat (first | exact Ext.refl _ | assumption | refine Ext.alloc ?_ _ | refine Ext.drew ?_ | refine Ext.drewN ?_ _ | refine Ext.trans ?_ (by assumption))))).mono ?_
      rintro e w1 ⟨rfl, hb1⟩
      rw [HC.out]
      have q0 := hb1.cell q0
      have q3 := hb1.cell q3
      have q4 := hb1.cell q4
      have hlt : w.heap.size < w1.heap.size := by have := hb1.size; omega
      have hw1 : Ext w w1 := hww.trans hb1
      obtain ⟨d, rfl⟩ : ∃ d, n = m + d := ⟨n - m, by omega⟩
      have hmd : m + d < lv.length := by omega
      have hch := net_chain (xs := lv) hl m d hmd (by omega)
      obtain ⟨y1, y2, _⟩ := hl m (by omega) _ (List.getElem?_eq_getElem (by omega))
      obtain ⟨y3, y4, _⟩ := hl (m + d) (by omega) _ (List.getElem?_eq_getElem (by omega))
      obtain ⟨b, o, rfl, ub, u0, u1⟩ := LevelV.row (hrow.ext hw1) m (by omega)
      obtain ⟨_, _, hA', _, u2, u3⟩ := LevelV.row (hrow.ext hw1) (m + d) (by omega)
      cases hA'
      have m1 := mul_bd (show 0 ≤ lv[m + d].P by omega) y3.2 i1.1 i1.2
      have m2 := mul_bd (show 0 ≤ lv[m].P by omega) y1.2 i1.1 i1.2
      generalize hx : lv[m + d].P * idle = xx at *
      generalize hy : lv[m].P * idle = yy at *
      clear hl
      go_upto_region 6 with fail
      go_cut [9, 10] (fun u v wd => ∃ g1 g2 : Nat, u = .pointer (some ⟨g1, 0, none⟩) ∧ v = .pointer (some ⟨g2, 0, none⟩) ∧ wd.cell? ⟨g1, 0, none⟩ = some (.int .i64 lv[m].P) ∧ wd.cell? ⟨g1, 1, none⟩ = some (.int .i64 lv[m].E) ∧ wd.cell? ⟨g2, 0, none⟩ = some (.int .i64 lv[m + d].P) ∧ wd.cell? ⟨g2, 1, none⟩ = some (.int .i64 lv[m + d].E) ∧ g1 < wd.heap.size ∧ g2 < wd.heap.size ∧ Ext w1 wd)
      case first =>
        go_region
        all_goals
          go_wp2_with fail
          go_meet
          case rel => exact ⟨_, _, rfl, rfl, by go_simp, by go_simp, by go_simp, by go_simp, by go_simp, by go_simp, (by repeat (first | exact Ext.refl _ | assumption | refine Ext.alloc ?_ _ | refine Ext.drew ?_ | refine Ext.drewN ?_ _ | refine Ext.trans ?_ (by assumption)))⟩
      case rest =>
        obtain ⟨g1, g2, rfl, rfl, k1, k2, k3, k4, k5, k6, hd⟩ := hcut
        have q3 := hd.cell q3
        have hlt2 : w.heap.size < wc.heap.size := by have := hd.size; omega
        go_wp2_with fail
        refine (answers04 _).mono ?_
        rintro e w3 ⟨rfl, hb3⟩
        have q3 := hb3.cell q3
        have k1 := hb3.cell k1
        have k2 := hb3.cell k2
        have k3 := hb3.cell k3
        have k4 := hb3.cell k4
        obtain ⟨h1, h2, h3⟩ := hch
        obtain ⟨m1, m1'⟩ := m1
        obtain ⟨m2, m2'⟩ := m2
        obtain ⟨⟨y1, y1'⟩, y2, y2'⟩ := And.intro y1 y2
        obtain ⟨⟨y3, y3'⟩, y4, y4'⟩ := And.intro y3 y4
        have f1 : decide (lv[m + d].E - xx ≤ lv[m].E - yy) = true := decide_eq_true h1
        have f2 : decide (lv[m].P ≤ lv[m + d].P) = true := decide_eq_true h2
        by_cases hd0 : d = 0
        · subst hd0
          go_wp2
          go_ret
          exact ⟨rfl, (by repeat (first | exact Ext.refl _ | assumption | refine Ext.alloc ?_ _ | refine Ext.drew ?_ | refine Ext.drewN ?_ _ | refine Ext.trans ?_ (by assumption)))⟩
        · have f3 : decide (lv[m].P < lv[m + d].P) = true := decide_eq_true (h3 (by omega))
          have f4 : ((m : Int) == (m : Int) + (d : Int)) = false := by rw [beq_eq_false_iff_ne]; omega
          go_wp2
          go_ret
          exact ⟨rfl, (by repeat (first | exact Ext.refl _ | assumption | refine Ext.alloc ?_ _ | refine Ext.drew ?_ | refine Ext.drewN ?_ _ | refine Ext.trans ?_ (by assumption)))⟩
end Go.Proofs.Ytmfphojmegfanaa
