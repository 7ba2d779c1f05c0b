/- How arguments are read. Printed by wip/gen_kinds.py. -/
import Derived.Test.YtkgepjfofhjokaaKinds
import Derived.Test.YtkgepjfofhjokaaProg
import Derived.KernelRfl
namespace Go.Proofs.Ytkgepjfofhjokaa
open Go.RowKit
set_option maxRecDepth 10000
theorem Try.cells_int : Try.prog.cellsOf 3 = 1 := by kernel_rfl
theorem Try.bytes_int : Try.prog.bytesOf 3 = 8 := by kernel_rfl
theorem Try.cells_TaskV : Try.prog.cellsOf 133 = 4 := by kernel_rfl
theorem Try.bytes_TaskV : Try.prog.bytesOf 133 = 64 := by kernel_rfl
theorem opens_TaskV : Opens Try.prog 133 TaskV.enc TaskV.Arg := by
  intro H e w fuel cs x h hz
  obtain ⟨xs, n, rfl, rfl, hl, hn, hf⟩ := DataW.trod_struct Try.underlying133 h
  rw [Try.cells_TaskV] at hl
  obtain ⟨c0, c1, c2, c3, rfl⟩ := list4 hl
  obtain ⟨x0, x1, x2, x3, rfl⟩ := list4 (show xs.length = 4 from hn)
  have f0 : DataW.trod e Try.prog w 0 (fun _ => true) true n 3 [c0] = some x0 := hf 0 _ rfl
  have f1 : DataW.trod e Try.prog w 0 (fun _ => true) true n 3 [c1] = some x1 := hf 1 _ rfl
  have f2 : DataW.trod e Try.prog w 0 (fun _ => true) true n 45 [c2] = some x2 := hf 2 _ rfl
  have f3 : DataW.trod e Try.prog w 0 (fun _ => true) true n 45 [c3] = some x3 := hf 3 _ rfl
  simp only [DataW.weights, Try.underlying133, DataW.weightsEach, List.map_cons, List.map_nil, List.all_append, Bool.and_eq_true, List.all_nil] at hz
  obtain ⟨z0, z1, z2, z3, _⟩ := hz
  obtain ⟨a0, e0, k0⟩ := (opens_int Try.underlying3) H e w n _ _ f0 z0
  obtain rfl := List.head_eq_of_cons_eq e0
  obtain ⟨a1, e1, k1⟩ := (opens_int Try.underlying3) H e w n _ _ f1 z1
  obtain rfl := List.head_eq_of_cons_eq e1
  obtain ⟨a2, e2, k2⟩ := (opens_slice 1 8 Try.underlying45 Try.cells_int Try.bytes_int (by omega) encI_len (opens_int Try.underlying3)) H e w n _ _ f2 z2
  obtain rfl := List.head_eq_of_cons_eq e2
  obtain ⟨a3, e3, k3⟩ := (opens_slice 1 8 Try.underlying45 Try.cells_int Try.bytes_int (by omega) encI_len (opens_int Try.underlying3)) H e w n _ _ f3 z3
  obtain rfl := List.head_eq_of_cons_eq e3
  exact ⟨⟨a0, a1, a2, a3⟩, rfl, ⟨⟨k0, k1, k2.1, k3.1⟩, k2.2, k3.2⟩⟩
theorem Try.cells_HeldV : Try.prog.cellsOf 83 = 3 := by kernel_rfl
theorem Try.bytes_HeldV : Try.prog.bytesOf 83 = 24 := by kernel_rfl
theorem opens_HeldV : Opens Try.prog 83 HeldV.enc HeldV.Arg := by
  intro H e w fuel cs x h hz
  obtain ⟨xs, n, rfl, rfl, hl, hn, hf⟩ := DataW.trod_struct Try.underlying83 h
  rw [Try.cells_HeldV] at hl
  obtain ⟨c0, c1, c2, rfl⟩ := list3 hl
  obtain ⟨x0, x1, x2, rfl⟩ := list3 (show xs.length = 3 from hn)
  have f0 : DataW.trod e Try.prog w 0 (fun _ => true) true n 3 [c0] = some x0 := hf 0 _ rfl
  have f1 : DataW.trod e Try.prog w 0 (fun _ => true) true n 3 [c1] = some x1 := hf 1 _ rfl
  have f2 : DataW.trod e Try.prog w 0 (fun _ => true) true n 3 [c2] = some x2 := hf 2 _ rfl
  simp only [DataW.weights, Try.underlying83, DataW.weightsEach, List.map_cons, List.map_nil, List.all_append, Bool.and_eq_true, List.all_nil] at hz
  obtain ⟨z0, z1, z2, _⟩ := hz
  obtain ⟨a0, e0, k0⟩ := (opens_int Try.underlying3) H e w n _ _ f0 z0
  obtain rfl := List.head_eq_of_cons_eq e0
  obtain ⟨a1, e1, k1⟩ := (opens_int Try.underlying3) H e w n _ _ f1 z1
  obtain rfl := List.head_eq_of_cons_eq e1
  obtain ⟨a2, e2, k2⟩ := (opens_int Try.underlying3) H e w n _ _ f2 z2
  obtain rfl := List.head_eq_of_cons_eq e2
  exact ⟨⟨a0, a1, a2⟩, rfl, ⟨⟨k0, k1, k2⟩⟩⟩
theorem Try.cells_ItemV : Try.prog.cellsOf 27 = 2 := by kernel_rfl
theorem Try.bytes_ItemV : Try.prog.bytesOf 27 = 16 := by kernel_rfl
theorem opens_ItemV : Opens Try.prog 27 ItemV.enc ItemV.Arg := by
  intro H e w fuel cs x h hz
  obtain ⟨xs, n, rfl, rfl, hl, hn, hf⟩ := DataW.trod_struct Try.underlying27 h
  rw [Try.cells_ItemV] at hl
  obtain ⟨c0, c1, rfl⟩ := list2 hl
  obtain ⟨x0, x1, rfl⟩ := list2 (show xs.length = 2 from hn)
  have f0 : DataW.trod e Try.prog w 0 (fun _ => true) true n 3 [c0] = some x0 := hf 0 _ rfl
  have f1 : DataW.trod e Try.prog w 0 (fun _ => true) true n 3 [c1] = some x1 := hf 1 _ rfl
  simp only [DataW.weights, Try.underlying27, DataW.weightsEach, List.map_cons, List.map_nil, List.all_append, Bool.and_eq_true, List.all_nil] at hz
  obtain ⟨z0, z1, _⟩ := hz
  obtain ⟨a0, e0, k0⟩ := (opens_int Try.underlying3) H e w n _ _ f0 z0
  obtain rfl := List.head_eq_of_cons_eq e0
  obtain ⟨a1, e1, k1⟩ := (opens_int Try.underlying3) H e w n _ _ f1 z1
  obtain rfl := List.head_eq_of_cons_eq e1
  exact ⟨⟨a0, a1⟩, rfl, ⟨⟨k0, k1⟩⟩⟩
theorem Try.cells_HOpV : Try.prog.cellsOf 40 = 3 := by kernel_rfl
theorem Try.bytes_HOpV : Try.prog.bytesOf 40 = 24 := by kernel_rfl
theorem opens_HOpV : Opens Try.prog 40 HOpV.enc HOpV.Arg := by
  intro H e w fuel cs x h hz
  obtain ⟨xs, n, rfl, rfl, hl, hn, hf⟩ := DataW.trod_struct Try.underlying40 h
  rw [Try.cells_HOpV] at hl
  obtain ⟨c0, c1, c2, rfl⟩ := list3 hl
  obtain ⟨x0, x1, x2, rfl⟩ := list3 (show xs.length = 3 from hn)
  have f0 : DataW.trod e Try.prog w 0 (fun _ => true) true n 3 [c0] = some x0 := hf 0 _ rfl
  have f1 : DataW.trod e Try.prog w 0 (fun _ => true) true n 3 [c1] = some x1 := hf 1 _ rfl
  have f2 : DataW.trod e Try.prog w 0 (fun _ => true) true n 3 [c2] = some x2 := hf 2 _ rfl
  simp only [DataW.weights, Try.underlying40, DataW.weightsEach, List.map_cons, List.map_nil, List.all_append, Bool.and_eq_true, List.all_nil] at hz
  obtain ⟨z0, z1, z2, _⟩ := hz
  obtain ⟨a0, e0, k0⟩ := (opens_int Try.underlying3) H e w n _ _ f0 z0
  obtain rfl := List.head_eq_of_cons_eq e0
  obtain ⟨a1, e1, k1⟩ := (opens_int Try.underlying3) H e w n _ _ f1 z1
  obtain rfl := List.head_eq_of_cons_eq e1
  obtain ⟨a2, e2, k2⟩ := (opens_int Try.underlying3) H e w n _ _ f2 z2
  obtain rfl := List.head_eq_of_cons_eq e2
  exact ⟨⟨a0, a1, a2⟩, rfl, ⟨⟨k0, k1, k2⟩⟩⟩
theorem Try.cells_TOpV : Try.prog.cellsOf 62 = 4 := by kernel_rfl
theorem Try.bytes_TOpV : Try.prog.bytesOf 62 = 32 := by kernel_rfl
theorem opens_TOpV : Opens Try.prog 62 TOpV.enc TOpV.Arg := by
  intro H e w fuel cs x h hz
  obtain ⟨xs, n, rfl, rfl, hl, hn, hf⟩ := DataW.trod_struct Try.underlying62 h
  rw [Try.cells_TOpV] at hl
  obtain ⟨c0, c1, c2, c3, rfl⟩ := list4 hl
  obtain ⟨x0, x1, x2, x3, rfl⟩ := list4 (show xs.length = 4 from hn)
  have f0 : DataW.trod e Try.prog w 0 (fun _ => true) true n 3 [c0] = some x0 := hf 0 _ rfl
  have f1 : DataW.trod e Try.prog w 0 (fun _ => true) true n 3 [c1] = some x1 := hf 1 _ rfl
  have f2 : DataW.trod e Try.prog w 0 (fun _ => true) true n 3 [c2] = some x2 := hf 2 _ rfl
  have f3 : DataW.trod e Try.prog w 0 (fun _ => true) true n 3 [c3] = some x3 := hf 3 _ rfl
  simp only [DataW.weights, Try.underlying62, DataW.weightsEach, List.map_cons, List.map_nil, List.all_append, Bool.and_eq_true, List.all_nil] at hz
  obtain ⟨z0, z1, z2, z3, _⟩ := hz
  obtain ⟨a0, e0, k0⟩ := (opens_int Try.underlying3) H e w n _ _ f0 z0
  obtain rfl := List.head_eq_of_cons_eq e0
  obtain ⟨a1, e1, k1⟩ := (opens_int Try.underlying3) H e w n _ _ f1 z1
  obtain rfl := List.head_eq_of_cons_eq e1
  obtain ⟨a2, e2, k2⟩ := (opens_int Try.underlying3) H e w n _ _ f2 z2
  obtain rfl := List.head_eq_of_cons_eq e2
  obtain ⟨a3, e3, k3⟩ := (opens_int Try.underlying3) H e w n _ _ f3 z3
  obtain rfl := List.head_eq_of_cons_eq e3
  exact ⟨⟨a0, a1, a2, a3⟩, rfl, ⟨⟨k0, k1, k2, k3⟩⟩⟩
theorem Try.cells_TimerV : Try.prog.cellsOf 72 = 3 := by kernel_rfl
theorem Try.bytes_TimerV : Try.prog.bytesOf 72 = 24 := by kernel_rfl
theorem opens_TimerV : Opens Try.prog 72 TimerV.enc TimerV.Arg := by
  intro H e w fuel cs x h hz
  obtain ⟨xs, n, rfl, rfl, hl, hn, hf⟩ := DataW.trod_struct Try.underlying72 h
  rw [Try.cells_TimerV] at hl
  obtain ⟨c0, c1, c2, rfl⟩ := list3 hl
  obtain ⟨x0, x1, x2, rfl⟩ := list3 (show xs.length = 3 from hn)
  have f0 : DataW.trod e Try.prog w 0 (fun _ => true) true n 3 [c0] = some x0 := hf 0 _ rfl
  have f1 : DataW.trod e Try.prog w 0 (fun _ => true) true n 3 [c1] = some x1 := hf 1 _ rfl
  have f2 : DataW.trod e Try.prog w 0 (fun _ => true) true n 3 [c2] = some x2 := hf 2 _ rfl
  simp only [DataW.weights, Try.underlying72, DataW.weightsEach, List.map_cons, List.map_nil, List.all_append, Bool.and_eq_true, List.all_nil] at hz
  obtain ⟨z0, z1, z2, _⟩ := hz
  obtain ⟨a0, e0, k0⟩ := (opens_int Try.underlying3) H e w n _ _ f0 z0
  obtain rfl := List.head_eq_of_cons_eq e0
  obtain ⟨a1, e1, k1⟩ := (opens_int Try.underlying3) H e w n _ _ f1 z1
  obtain rfl := List.head_eq_of_cons_eq e1
  obtain ⟨a2, e2, k2⟩ := (opens_int Try.underlying3) H e w n _ _ f2 z2
  obtain rfl := List.head_eq_of_cons_eq e2
  exact ⟨⟨a0, a1, a2⟩, rfl, ⟨⟨k0, k1, k2⟩⟩⟩
theorem Try.cells_LOpV : Try.prog.cellsOf 79 = 4 := by kernel_rfl
theorem Try.bytes_LOpV : Try.prog.bytesOf 79 = 32 := by kernel_rfl
theorem opens_LOpV : Opens Try.prog 79 LOpV.enc LOpV.Arg := by
  intro H e w fuel cs x h hz
  obtain ⟨xs, n, rfl, rfl, hl, hn, hf⟩ := DataW.trod_struct Try.underlying79 h
  rw [Try.cells_LOpV] at hl
  obtain ⟨c0, c1, c2, c3, rfl⟩ := list4 hl
  obtain ⟨x0, x1, x2, x3, rfl⟩ := list4 (show xs.length = 4 from hn)
  have f0 : DataW.trod e Try.prog w 0 (fun _ => true) true n 3 [c0] = some x0 := hf 0 _ rfl
  have f1 : DataW.trod e Try.prog w 0 (fun _ => true) true n 3 [c1] = some x1 := hf 1 _ rfl
  have f2 : DataW.trod e Try.prog w 0 (fun _ => true) true n 3 [c2] = some x2 := hf 2 _ rfl
  have f3 : DataW.trod e Try.prog w 0 (fun _ => true) true n 3 [c3] = some x3 := hf 3 _ rfl
  simp only [DataW.weights, Try.underlying79, DataW.weightsEach, List.map_cons, List.map_nil, List.all_append, Bool.and_eq_true, List.all_nil] at hz
  obtain ⟨z0, z1, z2, z3, _⟩ := hz
  obtain ⟨a0, e0, k0⟩ := (opens_int Try.underlying3) H e w n _ _ f0 z0
  obtain rfl := List.head_eq_of_cons_eq e0
  obtain ⟨a1, e1, k1⟩ := (opens_int Try.underlying3) H e w n _ _ f1 z1
  obtain rfl := List.head_eq_of_cons_eq e1
  obtain ⟨a2, e2, k2⟩ := (opens_int Try.underlying3) H e w n _ _ f2 z2
  obtain rfl := List.head_eq_of_cons_eq e2
  obtain ⟨a3, e3, k3⟩ := (opens_int Try.underlying3) H e w n _ _ f3 z3
  obtain rfl := List.head_eq_of_cons_eq e3
  exact ⟨⟨a0, a1, a2, a3⟩, rfl, ⟨⟨k0, k1, k2, k3⟩⟩⟩
theorem Try.cells_AOpV : Try.prog.cellsOf 100 = 4 := by kernel_rfl
theorem Try.bytes_AOpV : Try.prog.bytesOf 100 = 32 := by kernel_rfl
theorem opens_AOpV : Opens Try.prog 100 AOpV.enc AOpV.Arg := by
  intro H e w fuel cs x h hz
  obtain ⟨xs, n, rfl, rfl, hl, hn, hf⟩ := DataW.trod_struct Try.underlying100 h
  rw [Try.cells_AOpV] at hl
  obtain ⟨c0, c1, c2, c3, rfl⟩ := list4 hl
  obtain ⟨x0, x1, x2, x3, rfl⟩ := list4 (show xs.length = 4 from hn)
  have f0 : DataW.trod e Try.prog w 0 (fun _ => true) true n 3 [c0] = some x0 := hf 0 _ rfl
  have f1 : DataW.trod e Try.prog w 0 (fun _ => true) true n 3 [c1] = some x1 := hf 1 _ rfl
  have f2 : DataW.trod e Try.prog w 0 (fun _ => true) true n 3 [c2] = some x2 := hf 2 _ rfl
  have f3 : DataW.trod e Try.prog w 0 (fun _ => true) true n 3 [c3] = some x3 := hf 3 _ rfl
  simp only [DataW.weights, Try.underlying100, DataW.weightsEach, List.map_cons, List.map_nil, List.all_append, Bool.and_eq_true, List.all_nil] at hz
  obtain ⟨z0, z1, z2, z3, _⟩ := hz
  obtain ⟨a0, e0, k0⟩ := (opens_int Try.underlying3) H e w n _ _ f0 z0
  obtain rfl := List.head_eq_of_cons_eq e0
  obtain ⟨a1, e1, k1⟩ := (opens_int Try.underlying3) H e w n _ _ f1 z1
  obtain rfl := List.head_eq_of_cons_eq e1
  obtain ⟨a2, e2, k2⟩ := (opens_int Try.underlying3) H e w n _ _ f2 z2
  obtain rfl := List.head_eq_of_cons_eq e2
  obtain ⟨a3, e3, k3⟩ := (opens_int Try.underlying3) H e w n _ _ f3 z3
  obtain rfl := List.head_eq_of_cons_eq e3
  exact ⟨⟨a0, a1, a2, a3⟩, rfl, ⟨⟨k0, k1, k2, k3⟩⟩⟩
end Go.Proofs.Ytkgepjfofhjokaa
