/- dormouselaw09.answers. -/
import Derived.Test.YtmfphojmegfanabOwn
import Derived.Test.YtmfphojmegfanabTaskC
import Derived.Test.YtmfphojmegfanabTaskU
namespace Go.Proofs.Ytmfphojmegfanab
open Go.RowKit
set_option linter.unusedVariables false
set_option linter.unusedSimpArgs false
def nP (g : Nat) : PlatV := ⟨⟨some ⟨g, 0, none⟩, 1, [⟨1, 0⟩]⟩, ⟨none, 0, []⟩, ⟨none, 0, []⟩, 0, 0, 0, 0, 1, 50⟩
def nA (g : Nat) : TaskV := ⟨20, 3, ⟨some ⟨g, 0, none⟩, 1, [2]⟩, ⟨none, 0, []⟩⟩
def nB (g h : Nat) : TaskV := ⟨30, 1, ⟨some ⟨g, 0, none⟩, 1, [1]⟩, ⟨some ⟨h, 0, none⟩, 1, [0]⟩⟩
theorem nI (n : Int) (h1 : 0 ≤ n) (h2 : n ≤ 50) : I64 n := ⟨by omega, by omega⟩
theorem nP_ok (w : World) (g : Nat) (t : TypeId) (h : w.heap[g]? = some (.cells #[.int .i64 1, .int .i64 0] t (0, 0))) : (nP g).Ok w := by
  have z := nI
  exact ⟨⟨by have := Row.of_block h; exact this, fun x hx => by rw [List.mem_singleton.1 hx]; exact ⟨z _ (by simp [nP]) (by simp [nP]), z _ (by simp [nP]) (by simp [nP])⟩, by simp [nP], by simp [nP]⟩, ⟨Row.nil _ _, by simp [nP], by simp [nP], by simp [nP]⟩, ⟨Row.nil _ _, by simp [nP], by simp [nP], by simp [nP]⟩,
    z _ (by simp [nP]) (by simp [nP]), z _ (by simp [nP]) (by simp [nP]), z _ (by simp [nP]) (by simp [nP]), z _ (by simp [nP]) (by simp [nP]), z _ (by simp [nP]) (by simp [nP]), z _ (by simp [nP]) (by simp [nP])⟩
theorem nA_ok (w : World) (g : Nat) (t : TypeId) (h : w.heap[g]? = some (.cells #[.int .i64 2] t (0, 0))) : (nA g).Ok w :=
  ⟨nI _ (by simp [nA, nB]) (by simp [nA, nB]), nI _ (by simp [nA, nB]) (by simp [nA, nB]), ⟨Row.of_block h, fun x hx => by rw [List.mem_singleton.1 hx]; exact nI _ (by simp [nA, nB]) (by simp [nA, nB]), by simp [nA], by simp [nA]⟩, ⟨Row.nil _ _, by simp [nA], by simp [nA], by simp [nA]⟩⟩
theorem nB_ok (w : World) (g h : Nat) (t : TypeId) (hg : w.heap[g]? = some (.cells #[.int .i64 1] t (0, 0))) (hh : w.heap[h]? = some (.cells #[.int .i64 0] t (0, 0))) : (nB g h).Ok w :=
  ⟨nI _ (by simp [nA, nB]) (by simp [nA, nB]), nI _ (by simp [nA, nB]) (by simp [nA, nB]), ⟨Row.of_block hg, fun x hx => by rw [List.mem_singleton.1 hx]; exact nI _ (by simp [nA, nB]) (by simp [nA, nB]), by simp [nB], by simp [nB]⟩,
    ⟨Row.of_block hh, fun x hx => by rw [List.mem_singleton.1 hx]; exact nI _ (by simp [nA, nB]) (by simp [nA, nB]), by simp [nB], by simp [nB]⟩⟩
theorem nA_yes (g h : Nat) : taskI (nP g) (nA h) = 0 := by
  refine (taskI_yes ⟨⟨by simp [nA], by simp [nA, nP], by simp [nA], by simp [nA], by simp [nA, nP]⟩, ?_, ?_⟩).symm
  · intro x hx
    rw [List.mem_singleton.1 hx]
    exact ⟨by decide, by simp [nA]⟩
  · intro k hk
    simp [nA] at hk
theorem nB_no (g h i : Nat) : taskI (nP g) (nB h i) = 3 := by
  refine (taskI_no ?_).symm
  rintro ⟨_, _, hd⟩
  have := devOk_at (nd := 0) (xs := [0]) (k := 0) (by simp) (hd 0 (by simp [nB]))
  simp at this
theorem nAB_ceil (g h i : Nat) : ceilF [nB g h, nA i] 0 = 20 := by
  simp [ceilF, ceilS, usesB, nA, nB]
  omega
theorem nAB_ok (w : World) (g h i : Nat) (t : TypeId) (x : Nat) (u : TypeId) (hg : w.heap[g]? = some (.cells #[.int .i64 1] t (0, 0))) (hh : w.heap[h]? = some (.cells #[.int .i64 0] t (0, 0))) (hi : w.heap[i]? = some (.cells #[.int .i64 2] t (0, 0)))
    (hx : w.heap[x]? = some (.cells #[.int .i64 30, .int .i64 1, .slice (some ⟨g, 0, none⟩) 1 1, .slice (some ⟨h, 0, none⟩) 1 1, .int .i64 20, .int .i64 3, .slice (some ⟨i, 0, none⟩) 1 1, .slice none 0 0] u (0, 0))) : TasksOk w ⟨some ⟨x, 0, none⟩, 2, [nB g h, nA i]⟩ := by
  refine ⟨Row.of_block hx, ?_, by simp, by simp⟩
  intro y hy
  simp only [List.mem_cons, List.not_mem_nil, or_false] at hy
  rcases hy with rfl | rfl
  · exact nB_ok w g h t hg hh
  · exact nA_ok w i t hi
theorem nA_uses (g : Nat) : usesB (nA g) 0 = true := by simp [usesB, nA]
theorem nB_needs (g h : Nat) : memB 0 (nB g h).devs.xs = true := by simp [memB, nB]
theorem field_period (w : World) (n m : Int) (x y : Value) : (Instr.field 24 (.agg #[.int .i64 n, .int .i64 m, x, y]) 0).run Try.prog w = .ok (.int .i64 n) w := by kernel_rfl
set_option maxHeartbeats 2000000 in
theorem answers09 (w : World) : Calls Try.prog 7 #[] w fun e w' => e = .returned (.bool true) ∧ Ext w w' := by
  have y1 := nA_yes w.heap.size (w.heap.size + 1 + 1)
  have y2 := nB_no w.heap.size (w.heap.size + 1 + 1 + 1 + 1) (w.heap.size + 1 + 1 + 1 + 1 + 1)
  have y3 := nAB_ceil (w.heap.size + 1 + 1 + 1 + 1) (w.heap.size + 1 + 1 + 1 + 1 + 1) (w.heap.size + 1 + 1)
  have y4 := nA_uses (w.heap.size + 1 + 1)
  have y5 := nB_needs (w.heap.size + 1 + 1 + 1 + 1) (w.heap.size + 1 + 1 + 1 + 1 + 1)
  have Y1 := Lib.hid y1; have Y2 := Lib.hid y2; have Y3 := Lib.hid y3; have Y4 := Lib.hid y4; have Y5 := Lib.hid y5; clear y1 y2 y3 y4 y5
  go_enter Try.func7, Try.ntmps7
  go_wp2_with fail
  refine (tcheck_any (nP w.heap.size) (nA (w.heap.size + 1 + 1)) _ (nP_ok _ _ 35 (by repeat (first | exact new_block _ _ _ (by simp) | refine old_block ?_ | refine Ext.block (by assumption) ?_))) (nA_ok _ _ 3 (by repeat (first | exact new_block _ _ _ (by simp) | refine old_block ?_ | refine Ext.block (by assumption) ?_)))).mono ?_
  rw [Y1.out]
  rintro e w1 ⟨rfl, hb1⟩
  obtain ⟨hc1, hf1, hs1⟩ := hb1.rules
  simp only [World.size_alloc] at hs1
  have p0 := hb1.cell (a := ⟨w.heap.size + 1, 0, none⟩) (v := .slice (some ⟨w.heap.size, 0, none⟩) 1 1) (by go_simp)
  have p1 := hb1.cell (a := ⟨w.heap.size + 1, 1, none⟩) (v := .slice none 0 0) (by go_simp)
  have p2 := hb1.cell (a := ⟨w.heap.size + 1, 2, none⟩) (v := .slice none 0 0) (by go_simp)
  have p3 := hb1.cell (a := ⟨w.heap.size + 1, 3, none⟩) (v := .int .i64 0) (by go_simp)
  have p4 := hb1.cell (a := ⟨w.heap.size + 1, 4, none⟩) (v := .int .i64 0) (by go_simp)
  have p5 := hb1.cell (a := ⟨w.heap.size + 1, 5, none⟩) (v := .int .i64 0) (by go_simp)
  have p6 := hb1.cell (a := ⟨w.heap.size + 1, 6, none⟩) (v := .int .i64 0) (by go_simp)
  have p7 := hb1.cell (a := ⟨w.heap.size + 1, 7, none⟩) (v := .int .i64 1) (by go_simp)
  have p8 := hb1.cell (a := ⟨w.heap.size + 1, 8, none⟩) (v := .int .i64 50) (by go_simp)
  have s0 := hb1.cell (a := ⟨w.heap.size + 1 + 1 + 1, 0, none⟩) (v := .int .i64 20) (by go_simp)
  have s1 := hb1.cell (a := ⟨w.heap.size + 1 + 1 + 1, 1, none⟩) (v := .int .i64 3) (by go_simp)
  have s2 := hb1.cell (a := ⟨w.heap.size + 1 + 1 + 1, 2, none⟩) (v := .slice (some ⟨w.heap.size + 1 + 1, 0, none⟩) 1 1) (by go_simp)
  have s3 := hb1.cell (a := ⟨w.heap.size + 1 + 1 + 1, 3, none⟩) (v := .slice none 0 0) (by go_simp)
  have t0 := hb1.cell (a := ⟨w.heap.size + 1 + 1 + 1 + 1 + 1 + 1, 0, none⟩) (v := .int .i64 30) (by go_simp)
  have t1 := hb1.cell (a := ⟨w.heap.size + 1 + 1 + 1 + 1 + 1 + 1, 1, none⟩) (v := .int .i64 1) (by go_simp)
  have t2 := hb1.cell (a := ⟨w.heap.size + 1 + 1 + 1 + 1 + 1 + 1, 2, none⟩) (v := .slice (some ⟨w.heap.size + 1 + 1 + 1 + 1, 0, none⟩) 1 1) (by go_simp)
  have t3 := hb1.cell (a := ⟨w.heap.size + 1 + 1 + 1 + 1 + 1 + 1, 3, none⟩) (v := .slice (some ⟨w.heap.size + 1 + 1 + 1 + 1 + 1, 0, none⟩) 1 1) (by go_simp)
  clear hc1 hf1
  go_wp2_with fail
  refine (tcheck_any (nP w.heap.size) (nB (w.heap.size + 1 + 1 + 1 + 1) (w.heap.size + 1 + 1 + 1 + 1 + 1)) _ (nP_ok _ _ 35 (by repeat (first | exact new_block _ _ _ (by simp) | refine old_block ?_ | refine Ext.block (by assumption) ?_))) (nB_ok _ _ _ 3 (by repeat (first | exact new_block _ _ _ (by simp) | refine old_block ?_ | refine Ext.block (by assumption) ?_)) (by repeat (first | exact new_block _ _ _ (by simp) | refine old_block ?_ | refine Ext.block (by assumption) ?_)))).mono ?_
  rw [Y2.out]
  rintro e w2 ⟨rfl, hb2⟩
  have s0 := hb2.cell s0
  have s1 := hb2.cell s1
  have s2 := hb2.cell s2
  have s3 := hb2.cell s3
  have t0 := hb2.cell t0
  have t1 := hb2.cell t1
  have t2 := hb2.cell t2
  have t3 := hb2.cell t3
  have hs2 := hb2.size
  go_wp2_with fail
  refine (ceiling_any _ _ [nB (w.heap.size + 1 + 1 + 1 + 1) (w.heap.size + 1 + 1 + 1 + 1 + 1), nA (w.heap.size + 1 + 1)] 0 _ (nAB_ok _ _ _ _ 3 _ 24 (by repeat (first | exact new_block _ _ _ (by simp) | refine old_block ?_ | refine Ext.block (by assumption) ?_)) (by repeat (first | exact new_block _ _ _ (by simp) | refine old_block ?_ | refine Ext.block (by assumption) ?_)) (by repeat (first | exact new_block _ _ _ (by simp) | refine old_block ?_ | refine Ext.block (by assumption) ?_)) (by repeat (first | exact new_block _ _ _ (by simp) | refine old_block ?_ | refine Ext.block (by assumption) ?_)))).mono ?_
  rw [Y3.out]
  rintro e w3 ⟨rfl, hb3⟩
  have hb3' : Ext w2 w3 := ((Ext.refl w2).alloc _).trans hb3
  have s0 := hb3'.cell s0
  have s1 := hb3'.cell s1
  have s2 := hb3'.cell s2
  have s3 := hb3'.cell s3
  have t0 := hb3'.cell t0
  have t1 := hb3'.cell t1
  have t2 := hb3'.cell t2
  have t3 := hb3'.cell t3
  go_wp2_with fail
  refine (uses_any (nA (w.heap.size + 1 + 1)) 0 _ (nA_ok _ _ 3 (by repeat (first | exact new_block _ _ _ (by simp) | refine old_block ?_ | refine Ext.block (by assumption) ?_)))).mono ?_
  rw [Y4.out]
  rintro e w4 ⟨rfl, hb4⟩
  have s0 := hb4.cell s0
  have s1 := hb4.cell s1
  have s2 := hb4.cell s2
  have s3 := hb4.cell s3
  have t0 := hb4.cell t0
  have t1 := hb4.cell t1
  have t2 := hb4.cell t2
  have t3 := hb4.cell t3
  go_wp2_with fail
  refine (needs_any (nB (w.heap.size + 1 + 1 + 1 + 1) (w.heap.size + 1 + 1 + 1 + 1 + 1)) 0 _ (nB_ok _ _ _ 3 (by repeat (first | exact new_block _ _ _ (by simp) | refine old_block ?_ | refine Ext.block (by assumption) ?_)) (by repeat (first | exact new_block _ _ _ (by simp) | refine old_block ?_ | refine Ext.block (by assumption) ?_)))).mono ?_
  rw [Y5.out]
  rintro e w5 ⟨rfl, hb5⟩
  have s0 := hb5.cell s0
  have s1 := hb5.cell s1
  have s2 := hb5.cell s2
  have s3 := hb5.cell s3
  go_wp2_with fail
  refine (own_any (nA (w.heap.size + 1 + 1)) _ (nA_ok _ _ 3 (by repeat (first | exact new_block _ _ _ (by simp) | refine old_block ?_ | refine Ext.block (by assumption) ?_)))).mono ?_
  rintro e w6 ⟨A, B, rfl, _, _, _, hb6⟩
  dsimp only [TaskV.val, nA]
  have hF := fun w n m x y => field_period w n m x y
  go_wp2
  go_ret
  exact ⟨rfl, (by repeat (first | exact Ext.refl _ | assumption | refine Ext.alloc ?_ _ | refine Ext.drew ?_ | refine Ext.drewN ?_ _ | refine Ext.trans ?_ (by assumption)))⟩
end Go.Proofs.Ytmfphojmegfanab
