/- the reference's SameTask, at two tasks that hold the same. -/
import Derived.Test.YtmfphojmegfanabOwn
import Derived.BigQuiet
import Derived.Deep.QuietTactic
namespace Go.Proofs.Ytmfphojmegfanab
open Go.RowKit
set_option linter.unusedVariables false
set_option maxHeartbeats 4000000 in
set_option maxRecDepth 100000 in
theorem same_any (period cycles : Int) (SA DA UA VA : Option Addr) (Sc Dc Uc Vc : Nat) (ss ds : List Int) (w : World) (h1 : Row w SA (ss.flatMap encI)) (h2 : Row w UA (ss.flatMap encI)) (h3 : Row w DA (ds.flatMap encI)) (h4 : Row w VA (ds.flatMap encI))
    (hl1 : ss.length ≤ 4611686018427387904) (hl2 : ds.length ≤ 4611686018427387904) :
    Calls Try.prog 13 #[TaskV.val ⟨period, cycles, ⟨SA, Sc, ss⟩, ⟨DA, Dc, ds⟩⟩, TaskV.val ⟨period, cycles, ⟨UA, Uc, ss⟩, ⟨VA, Vc, ds⟩⟩] w fun e w' => e = .returned (.bool true) ∧ Ext w w' := by
  unfold TaskV.val
  dsimp only
  go_enter Try.func13, Try.ntmps13
  go_wp2
  go_loopw [4, 5] (fun r i wr => ∃ k : Nat, k ≤ ss.length ∧ i = .int .i64 k ∧ r = .bool false ∧ Ext ((w.alloc (.cells (TaskV.arr ⟨period, cycles, ⟨SA, Sc, ss⟩, ⟨DA, Dc, ds⟩⟩) 24)).alloc (.cells (TaskV.arr ⟨period, cycles, ⟨UA, Uc, ss⟩, ⟨VA, Vc, ds⟩⟩) 24)) wr) (fun _ i _ => ss.length - (intOf i).toNat)
  case atStart => exact ⟨0, by omega, rfl, rfl, Ext.refl _⟩
  case round =>
    obtain ⟨k, hk, rfl, rfl, hb⟩ := hrel
    have hw : Ext w wr := (((Ext.refl w).alloc _).alloc _).trans hb
    obtain ⟨p0, p1, p2, p3⟩ := TaskV.boxed w ⟨period, cycles, ⟨SA, Sc, ss⟩, ⟨DA, Dc, ds⟩⟩ 24
    have p2 := hb.cell (((Ext.refl _).alloc _).cell p2)
    have p3 := hb.cell (((Ext.refl _).alloc _).cell p3)
    have qs := TaskV.boxed (w.alloc (.cells (TaskV.arr ⟨period, cycles, ⟨SA, Sc, ss⟩, ⟨DA, Dc, ds⟩⟩) 24)) ⟨period, cycles, ⟨UA, Uc, ss⟩, ⟨VA, Vc, ds⟩⟩ 24
    simp only [World.size_alloc] at qs
    obtain ⟨_, _, q2, q3⟩ := qs
    have q2 := hb.cell q2
    have q3 := hb.cell q3
    dsimp only at p2 p3 q2 q3
    clear p0 p1
    by_cases hlt : k < ss.length
    · obtain ⟨b, o, rfl, ub, u0⟩ := ints_at (h1.ext hw) k hlt
      obtain ⟨b', o', rfl, ub', u0'⟩ := ints_at (h2.ext hw) k hlt
      (go_wp2; go_quiet (fail); go_wp2)
      go_roundw
      case rel => exact ⟨k + 1, by omega, by go_num, rfl, (by repeat (first | exact Ext.refl _ | assumption | refine Ext.alloc ?_ _ | refine Ext.drew ?_ | refine Ext.drewN ?_ _ | refine Ext.trans ?_ (by assumption)))⟩
      case measure => simp [intOf]; omega
    · have hks : k = ss.length := by omega
      subst hks
      clear hb
      go_wp2
      go_loopw [4, 6] (fun r i w2 => ∃ k : Nat, k ≤ ds.length ∧ i = .int .i64 k ∧ r = .bool false ∧ Ext wr w2) (fun _ i _ => ds.length - (intOf i).toNat)
      case atStart => exact ⟨0, by omega, rfl, rfl, Ext.refl _⟩
      case round =>
        obtain ⟨k, hk, rfl, rfl, hr⟩ := hrel
        have hw2 := hw.trans hr
        have p3 := hr.cell p3
        have q3 := hr.cell q3
        by_cases hlt : k < ds.length
        · obtain ⟨b, o, rfl, ub, u0⟩ := ints_at (h3.ext hw2) k hlt
          obtain ⟨b', o', rfl, ub', u0'⟩ := ints_at (h4.ext hw2) k hlt
          (go_wp2; go_quiet (fail); go_wp2)
          go_roundw
          case rel => exact ⟨k + 1, by omega, by go_num, rfl, (by repeat (first | exact Ext.refl _ | assumption | refine Ext.alloc ?_ _ | refine Ext.drew ?_ | refine Ext.drewN ?_ _ | refine Ext.trans ?_ (by assumption)))⟩
          case measure => simp [intOf]; omega
        · have hks : k = ds.length := by omega
          subst hks
          go_wp2
          go_ret
          exact ⟨rfl, hw2⟩
end Go.Proofs.Ytmfphojmegfanab
