/- dormouselaw18.answers. -/
import Derived.Test.YtmfphojmegfanaaPlanR
namespace Go.Proofs.Ytmfphojmegfanaa
open Go.RowKit
set_option linter.unusedVariables false
def ansT (g : Nat) : List TaskV := [⟨4, 1, ⟨none, 0, []⟩, ⟨some ⟨g, 0, none⟩, 1, [1]⟩⟩, ⟨9, 1, ⟨none, 0, []⟩, ⟨none, 0, []⟩⟩]
theorem ansT_ok (w : World) (g h : Nat) (t u : TypeId) (hg : w.heap[g]? = some (.cells #[.int .i64 1] t (0, 0)))
    (hh : w.heap[h]? = some (.cells #[.int .i64 4, .int .i64 1, .slice none 0 0, .slice (some ⟨g, 0, none⟩) 1 1, .int .i64 9, .int .i64 1, .slice none 0 0, .slice none 0 0] u (0, 0))) : TasksOk w ⟨some ⟨h, 0, none⟩, 2, ansT g⟩ := by
  refine ⟨Row.of_block hh, ?_, by simp [ansT], by simp [ansT]⟩
  intro x hx
  have z : ∀ n : Int, 0 ≤ n → n ≤ 9 → I64 n := fun n h1 h2 => ⟨by omega, by omega⟩
  simp only [ansT, List.mem_cons, List.not_mem_nil, or_false] at hx
  rcases hx with rfl | rfl
  · exact ⟨z 4 (by decide) (by decide), z 1 (by decide) (by decide), ⟨Row.nil _ _, by simp, by simp, by simp⟩, ⟨Row.of_block hg, fun x hx => by rw [List.mem_singleton.1 hx]; exact z _ (by decide) (by decide), by simp, by simp⟩⟩
  · exact ⟨z 9 (by decide) (by decide), z 1 (by decide) (by decide), ⟨Row.nil _ _, by simp, by simp, by simp⟩, ⟨Row.nil _ _, by simp, by simp, by simp⟩⟩
theorem ans1 (g : Nat) : untilF (ansT g) [12, 3] [] 1 5 = 12 := by
  simp [untilF, untilT, ansT, stepT, memB]
  decide
theorem ans2 (g : Nat) : untilF (ansT g) [12, 3] [] 0 5 = 1099511627776 := by simp [untilF, untilT, ansT, stepT, memB]
theorem ans3 (g : Nat) : untilF (ansT g) [12, 3] [⟨0, 0, 0, 0, 0, false⟩] 1 5 = 5 := by simp [untilF, needAt, ansT, memB]
set_option maxHeartbeats 2000000 in
theorem answers18 (w : World) : Calls Try.prog 16 #[] w fun e w' => e = .returned (.bool true) ∧ Ext w w' := by
  have y1 := ans1 w.heap.size
  have y2 := ans2 w.heap.size
  have y3 := ans3 w.heap.size
  have Y1 := Lib.hid y1; have Y2 := Lib.hid y2; have Y3 := Lib.hid y3; clear y1 y2 y3
  go_enter Try.func16, Try.ntmps16
  go_wp2_with fail
  refine (until_any _ _ _ _ _ _ (ansT w.heap.size) [12, 3] [] 1 5 _ (ansT_ok _ _ _ 3 39 (by repeat (first | exact new_block _ _ _ (by simp) | refine old_block ?_ | refine Ext.block (by assumption) ?_)) (by repeat (first | exact new_block _ _ _ (by simp) | refine old_block ?_ | refine Ext.block (by assumption) ?_))) rfl (Row.of_block (cs := #[.int .i64 12, .int .i64 3]) (t := 3) (fr := (0, 0)) (by repeat (first | exact new_block _ _ _ (by simp) | refine old_block ?_ | refine Ext.block (by assumption) ?_))) (Row.nil _ _) (by simp) ⟨by simp, by simp⟩).mono ?_
  rintro e w1 ⟨rfl, hb1⟩
  rw [Y1.out]
  go_wp2_with fail
  have hs1 := hb1.lt
  refine (until_any _ _ _ _ _ _ (ansT w.heap.size) [12, 3] [] 0 5 _ (ansT_ok _ _ _ 3 39 (by repeat (first | exact new_block _ _ _ (by simp) | refine old_block ?_ | refine Ext.block (by assumption) ?_)) (by repeat (first | exact new_block _ _ _ (by simp) | refine old_block ?_ | refine Ext.block (by assumption) ?_))) rfl (Row.of_block (cs := #[.int .i64 12, .int .i64 3]) (t := 3) (fr := (0, 0)) (by repeat (first | exact new_block _ _ _ (by simp) | refine old_block ?_ | refine Ext.block (by assumption) ?_))) (Row.nil _ _) (by simp) ⟨by simp, by simp⟩).mono ?_
  rintro e w2 ⟨rfl, hb2⟩
  rw [Y2.out]
  go_wp2_with fail
  refine (until_any _ _ _ _ _ _ (ansT w.heap.size) [12, 3] [⟨0, 0, 0, 0, 0, false⟩] 1 5 _ (ansT_ok _ _ _ 3 39 (by repeat (first | exact new_block _ _ _ (by simp) | refine old_block ?_ | refine Ext.block (by assumption) ?_)) (by repeat (first | exact new_block _ _ _ (by simp) | refine old_block ?_ | refine Ext.block (by assumption) ?_))) rfl (Row.of_block (cs := #[.int .i64 12, .int .i64 3]) (t := 3) (fr := (0, 0)) (by repeat (first | exact new_block _ _ _ (by simp) | refine old_block ?_ | refine Ext.block (by assumption) ?_))) (Row.of_block (cs := #[.int .i64 0, .int .i64 0, .int .i64 0, .int .i64 0, .int .i64 0, .bool false]) (t := 41) (fr := (0, 0)) (by repeat (first | exact new_block _ _ _ (by simp) | refine old_block ?_ | refine Ext.block (by assumption) ?_))) (by simp) ⟨by simp, by simp [ansT]⟩).mono ?_
  rintro e w3 ⟨rfl, hb3⟩
  rw [Y3.out]
  go_wp2
  go_ret
  exact ⟨rfl, (by repeat (first | exact Ext.refl _ | assumption | refine Ext.alloc ?_ _ | refine Ext.drew ?_ | refine Ext.drewN ?_ _ | refine Ext.trans ?_ (by assumption)))⟩
end Go.Proofs.Ytmfphojmegfanaa
