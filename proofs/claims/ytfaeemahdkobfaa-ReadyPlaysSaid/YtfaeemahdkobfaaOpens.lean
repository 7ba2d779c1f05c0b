/- How arguments are read. Printed by wip/gen_kinds.py. -/
import Derived.Test.YtfaeemahdkobfaaKinds
import Derived.Test.YtfaeemahdkobfaaProg
import Derived.KernelRfl
namespace Go.Proofs.Ytfaeemahdkobfaa
open Go.RowKit
set_option maxRecDepth 10000
theorem Try.cells_int : Try.prog.cellsOf 3 = 1 := by kernel_rfl
theorem Try.bytes_int : Try.prog.bytesOf 3 = 8 := by kernel_rfl
theorem Try.cells_JobV : Try.prog.cellsOf 27 = 6 := by kernel_rfl
theorem Try.bytes_JobV : Try.prog.bytesOf 27 = 48 := by kernel_rfl
theorem opens_JobV : Opens Try.prog 27 JobV.enc JobV.Arg := by
  intro H e w fuel cs x h hz
  obtain ⟨xs, n, rfl, rfl, hl, hn, hf⟩ := DataW.trod_struct Try.underlying27 h
  rw [Try.cells_JobV] at hl
  obtain ⟨c0, c1, c2, c3, c4, c5, rfl⟩ := list6 hl
  obtain ⟨x0, x1, x2, x3, x4, x5, rfl⟩ := list6 (show xs.length = 6 from hn)
  have f0 : DataW.trod e Try.prog w 0 (fun _ => true) true n 3 [c0] = some x0 := hf 0 _ rfl
  have f1 : DataW.trod e Try.prog w 0 (fun _ => true) true n 3 [c1] = some x1 := hf 1 _ rfl
  have f2 : DataW.trod e Try.prog w 0 (fun _ => true) true n 3 [c2] = some x2 := hf 2 _ rfl
  have f3 : DataW.trod e Try.prog w 0 (fun _ => true) true n 3 [c3] = some x3 := hf 3 _ rfl
  have f4 : DataW.trod e Try.prog w 0 (fun _ => true) true n 3 [c4] = some x4 := hf 4 _ rfl
  have f5 : DataW.trod e Try.prog w 0 (fun _ => true) true n 4 [c5] = some x5 := hf 5 _ rfl
  simp only [DataW.weights, Try.underlying27, DataW.weightsEach, List.map_cons, List.map_nil, List.all_append, Bool.and_eq_true, List.all_nil] at hz
  obtain ⟨z0, z1, z2, z3, z4, z5, _⟩ := hz
  obtain ⟨a0, e0, k0⟩ := (opens_int Try.underlying3) H e w n _ _ f0 z0
  obtain rfl := List.head_eq_of_cons_eq e0
  obtain ⟨a1, e1, k1⟩ := (opens_int Try.underlying3) H e w n _ _ f1 z1
  obtain rfl := List.head_eq_of_cons_eq e1
  obtain ⟨a2, e2, k2⟩ := (opens_int Try.underlying3) H e w n _ _ f2 z2
  obtain rfl := List.head_eq_of_cons_eq e2
  obtain ⟨a3, e3, k3⟩ := (opens_int Try.underlying3) H e w n _ _ f3 z3
  obtain rfl := List.head_eq_of_cons_eq e3
  obtain ⟨a4, e4, k4⟩ := (opens_int Try.underlying3) H e w n _ _ f4 z4
  obtain rfl := List.head_eq_of_cons_eq e4
  obtain ⟨a5, e5, k5⟩ := (opens_bool Try.underlying4) H e w n _ _ f5 z5
  obtain rfl := List.head_eq_of_cons_eq e5
  exact ⟨⟨a0, a1, a2, a3, a4, a5⟩, rfl, ⟨⟨k0, k1, k2, k3, k4⟩⟩⟩
theorem Try.cells_ROpV : Try.prog.cellsOf 36 = 8 := by kernel_rfl
theorem Try.bytes_ROpV : Try.prog.bytesOf 36 = 64 := by kernel_rfl
theorem opens_ROpV : Opens Try.prog 36 ROpV.enc ROpV.Arg := by
  intro H e w fuel cs x h hz
  obtain ⟨xs, n, rfl, rfl, hl, hn, hf⟩ := DataW.trod_struct Try.underlying36 h
  rw [Try.cells_ROpV] at hl
  obtain ⟨c0, c1, c2, c3, c4, c5, c6, c7, rfl⟩ := list8 hl
  obtain ⟨x0, x1, x2, rfl⟩ := list3 (show xs.length = 3 from hn)
  have f0 : DataW.trod e Try.prog w 0 (fun _ => true) true n 3 [c0] = some x0 := hf 0 _ rfl
  have f1 : DataW.trod e Try.prog w 0 (fun _ => true) true n 3 [c1] = some x1 := hf 1 _ rfl
  have f2 : DataW.trod e Try.prog w 0 (fun _ => true) true n 27 [c2, c3, c4, c5, c6, c7] = some x2 := hf 2 _ rfl
  simp only [DataW.weights, Try.underlying36, DataW.weightsEach, List.map_cons, List.map_nil, List.all_append, Bool.and_eq_true, List.all_nil] at hz
  obtain ⟨z0, z1, z2, _⟩ := hz
  obtain ⟨a0, e0, k0⟩ := (opens_int Try.underlying3) H e w n _ _ f0 z0
  obtain rfl := List.head_eq_of_cons_eq e0
  obtain ⟨a1, e1, k1⟩ := (opens_int Try.underlying3) H e w n _ _ f1 z1
  obtain rfl := List.head_eq_of_cons_eq e1
  obtain ⟨a2, e2, k2⟩ := opens_JobV H e w n _ _ f2 z2
  simp only [JobV.enc, List.cons.injEq, and_true] at e2
  obtain ⟨rfl, rfl, rfl, rfl, rfl, rfl⟩ := e2
  exact ⟨⟨a0, a1, a2⟩, rfl, ⟨⟨k0, k1, k2.ok⟩, k2⟩⟩
end Go.Proofs.Ytfaeemahdkobfaa
