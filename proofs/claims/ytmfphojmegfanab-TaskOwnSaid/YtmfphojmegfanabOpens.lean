/- How arguments are read. Printed by wip/gen_kinds.py. -/
import Derived.Test.YtmfphojmegfanabKinds
import Derived.Test.YtmfphojmegfanabProg
import Derived.KernelRfl
namespace Go.Proofs.Ytmfphojmegfanab
open Go.RowKit
set_option maxRecDepth 10000
theorem Try.cells_int : Try.prog.cellsOf 3 = 1 := by kernel_rfl
theorem Try.bytes_int : Try.prog.bytesOf 3 = 8 := by kernel_rfl
theorem Try.cells_LevelV : Try.prog.cellsOf 35 = 2 := by kernel_rfl
theorem Try.bytes_LevelV : Try.prog.bytesOf 35 = 16 := by kernel_rfl
theorem opens_LevelV : Opens Try.prog 35 LevelV.enc LevelV.Arg := by
  intro H e w fuel cs x h hz
  obtain ⟨xs, n, rfl, rfl, hl, hn, hf⟩ := DataW.trod_struct Try.underlying35 h
  rw [Try.cells_LevelV] at hl
  obtain ⟨c0, c1, rfl⟩ := list2 hl
  obtain ⟨x0, x1, rfl⟩ := list2 (show xs.length = 2 from hn)
  have f0 : DataW.trod e Try.prog w 0 (fun _ => true) true n 3 [c0] = some x0 := hf 0 _ rfl
  have f1 : DataW.trod e Try.prog w 0 (fun _ => true) true n 3 [c1] = some x1 := hf 1 _ rfl
  simp only [DataW.weights, Try.underlying35, DataW.weightsEach, List.map_cons, List.map_nil, List.all_append, Bool.and_eq_true, List.all_nil] at hz
  obtain ⟨z0, z1, _⟩ := hz
  obtain ⟨a0, e0, k0⟩ := (opens_int Try.underlying3) H e w n _ _ f0 z0
  obtain rfl := List.head_eq_of_cons_eq e0
  obtain ⟨a1, e1, k1⟩ := (opens_int Try.underlying3) H e w n _ _ f1 z1
  obtain rfl := List.head_eq_of_cons_eq e1
  exact ⟨⟨a0, a1⟩, rfl, ⟨⟨k0, k1⟩⟩⟩
theorem Try.cells_SleepV : Try.prog.cellsOf 67 = 6 := by kernel_rfl
theorem Try.bytes_SleepV : Try.prog.bytesOf 67 = 48 := by kernel_rfl
theorem opens_SleepV : Opens Try.prog 67 SleepV.enc SleepV.Arg := by
  intro H e w fuel cs x h hz
  obtain ⟨xs, n, rfl, rfl, hl, hn, hf⟩ := DataW.trod_struct Try.underlying67 h
  rw [Try.cells_SleepV] at hl
  obtain ⟨c0, c1, c2, c3, c4, c5, rfl⟩ := list6 hl
  obtain ⟨x0, x1, x2, x3, x4, x5, rfl⟩ := list6 (show xs.length = 6 from hn)
  have f0 : DataW.trod e Try.prog w 0 (fun _ => true) true n 3 [c0] = some x0 := hf 0 _ rfl
  have f1 : DataW.trod e Try.prog w 0 (fun _ => true) true n 3 [c1] = some x1 := hf 1 _ rfl
  have f2 : DataW.trod e Try.prog w 0 (fun _ => true) true n 3 [c2] = some x2 := hf 2 _ rfl
  have f3 : DataW.trod e Try.prog w 0 (fun _ => true) true n 3 [c3] = some x3 := hf 3 _ rfl
  have f4 : DataW.trod e Try.prog w 0 (fun _ => true) true n 3 [c4] = some x4 := hf 4 _ rfl
  have f5 : DataW.trod e Try.prog w 0 (fun _ => true) true n 3 [c5] = some x5 := hf 5 _ rfl
  simp only [DataW.weights, Try.underlying67, DataW.weightsEach, List.map_cons, List.map_nil, List.all_append, Bool.and_eq_true, List.all_nil] at hz
  obtain ⟨z0, z1, z2, z3, z4, z5, _⟩ := hz
  obtain ⟨a0, e0, k0⟩ := (opens_int Try.underlying3) H e w n _ _ f0 z0
  obtain rfl := List.head_eq_of_cons_eq e0
  obtain ⟨a1, e1, k1⟩ := (opens_int Try.underlying3) H e w n _ _ f1 z1
  obtain rfl := List.head_eq_of_cons_eq e1
  obtain ⟨a2, e2, k2⟩ := (opens_int Try.underlying3) H e w n _ _ f2 z2
  obtain rfl := List.head_eq_of_cons_eq e2
  obtain ⟨a3, e3, k3⟩ := (opens_int Try.underlying3) H e w n _ _ f3 z3
  obtain rfl := List.head_eq_of_cons_eq e3
  obtain ⟨a4, e4, k4⟩ := (opens_int Try.underlying3) H e w n _ _ f4 z4
  obtain rfl := List.head_eq_of_cons_eq e4
  obtain ⟨a5, e5, k5⟩ := (opens_int Try.underlying3) H e w n _ _ f5 z5
  obtain rfl := List.head_eq_of_cons_eq e5
  exact ⟨⟨a0, a1, a2, a3, a4, a5⟩, rfl, ⟨⟨k0, k1, k2, k3, k4, k5⟩⟩⟩
theorem Try.cells_DeviceV : Try.prog.cellsOf 69 = 7 := by kernel_rfl
theorem Try.bytes_DeviceV : Try.prog.bytesOf 69 = 56 := by kernel_rfl
theorem opens_DeviceV : Opens Try.prog 69 DeviceV.enc DeviceV.Arg := by
  intro H e w fuel cs x h hz
  obtain ⟨xs, n, rfl, rfl, hl, hn, hf⟩ := DataW.trod_struct Try.underlying69 h
  rw [Try.cells_DeviceV] at hl
  obtain ⟨c0, c1, c2, c3, c4, c5, c6, rfl⟩ := list7 hl
  obtain ⟨x0, x1, x2, x3, x4, x5, x6, rfl⟩ := list7 (show xs.length = 7 from hn)
  have f0 : DataW.trod e Try.prog w 0 (fun _ => true) true n 3 [c0] = some x0 := hf 0 _ rfl
  have f1 : DataW.trod e Try.prog w 0 (fun _ => true) true n 3 [c1] = some x1 := hf 1 _ rfl
  have f2 : DataW.trod e Try.prog w 0 (fun _ => true) true n 3 [c2] = some x2 := hf 2 _ rfl
  have f3 : DataW.trod e Try.prog w 0 (fun _ => true) true n 3 [c3] = some x3 := hf 3 _ rfl
  have f4 : DataW.trod e Try.prog w 0 (fun _ => true) true n 3 [c4] = some x4 := hf 4 _ rfl
  have f5 : DataW.trod e Try.prog w 0 (fun _ => true) true n 3 [c5] = some x5 := hf 5 _ rfl
  have f6 : DataW.trod e Try.prog w 0 (fun _ => true) true n 3 [c6] = some x6 := hf 6 _ rfl
  simp only [DataW.weights, Try.underlying69, DataW.weightsEach, List.map_cons, List.map_nil, List.all_append, Bool.and_eq_true, List.all_nil] at hz
  obtain ⟨z0, z1, z2, z3, z4, z5, z6, _⟩ := hz
  obtain ⟨a0, e0, k0⟩ := (opens_int Try.underlying3) H e w n _ _ f0 z0
  obtain rfl := List.head_eq_of_cons_eq e0
  obtain ⟨a1, e1, k1⟩ := (opens_int Try.underlying3) H e w n _ _ f1 z1
  obtain rfl := List.head_eq_of_cons_eq e1
  obtain ⟨a2, e2, k2⟩ := (opens_int Try.underlying3) H e w n _ _ f2 z2
  obtain rfl := List.head_eq_of_cons_eq e2
  obtain ⟨a3, e3, k3⟩ := (opens_int Try.underlying3) H e w n _ _ f3 z3
  obtain rfl := List.head_eq_of_cons_eq e3
  obtain ⟨a4, e4, k4⟩ := (opens_int Try.underlying3) H e w n _ _ f4 z4
  obtain rfl := List.head_eq_of_cons_eq e4
  obtain ⟨a5, e5, k5⟩ := (opens_int Try.underlying3) H e w n _ _ f5 z5
  obtain rfl := List.head_eq_of_cons_eq e5
  obtain ⟨a6, e6, k6⟩ := (opens_int Try.underlying3) H e w n _ _ f6 z6
  obtain rfl := List.head_eq_of_cons_eq e6
  exact ⟨⟨a0, a1, a2, a3, a4, a5, a6⟩, rfl, ⟨⟨k0, k1, k2, k3, k4, k5, k6⟩⟩⟩
theorem Try.cells_PlatV : Try.prog.cellsOf 40 = 9 := by kernel_rfl
theorem Try.bytes_PlatV : Try.prog.bytesOf 40 = 120 := by kernel_rfl
theorem opens_PlatV : Opens Try.prog 40 PlatV.enc PlatV.Arg := by
  intro H e w fuel cs x h hz
  obtain ⟨xs, n, rfl, rfl, hl, hn, hf⟩ := DataW.trod_struct Try.underlying40 h
  rw [Try.cells_PlatV] at hl
  obtain ⟨c0, c1, c2, c3, c4, c5, c6, c7, c8, rfl⟩ := list9 hl
  obtain ⟨x0, x1, x2, x3, x4, x5, x6, x7, x8, rfl⟩ := list9 (show xs.length = 9 from hn)
  have f0 : DataW.trod e Try.prog w 0 (fun _ => true) true n 36 [c0] = some x0 := hf 0 _ rfl
  have f1 : DataW.trod e Try.prog w 0 (fun _ => true) true n 37 [c1] = some x1 := hf 1 _ rfl
  have f2 : DataW.trod e Try.prog w 0 (fun _ => true) true n 38 [c2] = some x2 := hf 2 _ rfl
  have f3 : DataW.trod e Try.prog w 0 (fun _ => true) true n 3 [c3] = some x3 := hf 3 _ rfl
  have f4 : DataW.trod e Try.prog w 0 (fun _ => true) true n 3 [c4] = some x4 := hf 4 _ rfl
  have f5 : DataW.trod e Try.prog w 0 (fun _ => true) true n 3 [c5] = some x5 := hf 5 _ rfl
  have f6 : DataW.trod e Try.prog w 0 (fun _ => true) true n 3 [c6] = some x6 := hf 6 _ rfl
  have f7 : DataW.trod e Try.prog w 0 (fun _ => true) true n 3 [c7] = some x7 := hf 7 _ rfl
  have f8 : DataW.trod e Try.prog w 0 (fun _ => true) true n 3 [c8] = some x8 := hf 8 _ rfl
  simp only [DataW.weights, Try.underlying40, DataW.weightsEach, List.map_cons, List.map_nil, List.all_append, Bool.and_eq_true, List.all_nil] at hz
  obtain ⟨z0, z1, z2, z3, z4, z5, z6, z7, z8, _⟩ := hz
  obtain ⟨a0, e0, k0⟩ := (opens_slice 2 16 Try.underlying36 Try.cells_LevelV Try.bytes_LevelV (by omega) LevelV.enc_len opens_LevelV) H e w n _ _ f0 z0
  obtain rfl := List.head_eq_of_cons_eq e0
  obtain ⟨a1, e1, k1⟩ := (opens_slice 6 48 Try.underlying37 Try.cells_SleepV Try.bytes_SleepV (by omega) SleepV.enc_len opens_SleepV) H e w n _ _ f1 z1
  obtain rfl := List.head_eq_of_cons_eq e1
  obtain ⟨a2, e2, k2⟩ := (opens_slice 7 56 Try.underlying38 Try.cells_DeviceV Try.bytes_DeviceV (by omega) DeviceV.enc_len opens_DeviceV) H e w n _ _ f2 z2
  obtain rfl := List.head_eq_of_cons_eq e2
  obtain ⟨a3, e3, k3⟩ := (opens_int Try.underlying3) H e w n _ _ f3 z3
  obtain rfl := List.head_eq_of_cons_eq e3
  obtain ⟨a4, e4, k4⟩ := (opens_int Try.underlying3) H e w n _ _ f4 z4
  obtain rfl := List.head_eq_of_cons_eq e4
  obtain ⟨a5, e5, k5⟩ := (opens_int Try.underlying3) H e w n _ _ f5 z5
  obtain rfl := List.head_eq_of_cons_eq e5
  obtain ⟨a6, e6, k6⟩ := (opens_int Try.underlying3) H e w n _ _ f6 z6
  obtain rfl := List.head_eq_of_cons_eq e6
  obtain ⟨a7, e7, k7⟩ := (opens_int Try.underlying3) H e w n _ _ f7 z7
  obtain rfl := List.head_eq_of_cons_eq e7
  obtain ⟨a8, e8, k8⟩ := (opens_int Try.underlying3) H e w n _ _ f8 z8
  obtain rfl := List.head_eq_of_cons_eq e8
  exact ⟨⟨a0, a1, a2, a3, a4, a5, a6, a7, a8⟩, rfl, ⟨⟨⟨k0.1.row, fun x hx => (k0.1.each x hx).ok, k0.1.cap, k0.1.fit⟩, ⟨k1.1.row, fun x hx => (k1.1.each x hx).ok, k1.1.cap, k1.1.fit⟩, ⟨k2.1.row, fun x hx => (k2.1.each x hx).ok, k2.1.cap, k2.1.fit⟩, k3, k4, k5, k6, k7, k8⟩, k0.2, k1.2, k2.2⟩⟩
theorem Try.cells_TaskV : Try.prog.cellsOf 24 = 4 := by kernel_rfl
theorem Try.bytes_TaskV : Try.prog.bytesOf 24 = 64 := by kernel_rfl
theorem opens_TaskV : Opens Try.prog 24 TaskV.enc TaskV.Arg := by
  intro H e w fuel cs x h hz
  obtain ⟨xs, n, rfl, rfl, hl, hn, hf⟩ := DataW.trod_struct Try.underlying24 h
  rw [Try.cells_TaskV] at hl
  obtain ⟨c0, c1, c2, c3, rfl⟩ := list4 hl
  obtain ⟨x0, x1, x2, x3, rfl⟩ := list4 (show xs.length = 4 from hn)
  have f0 : DataW.trod e Try.prog w 0 (fun _ => true) true n 3 [c0] = some x0 := hf 0 _ rfl
  have f1 : DataW.trod e Try.prog w 0 (fun _ => true) true n 3 [c1] = some x1 := hf 1 _ rfl
  have f2 : DataW.trod e Try.prog w 0 (fun _ => true) true n 22 [c2] = some x2 := hf 2 _ rfl
  have f3 : DataW.trod e Try.prog w 0 (fun _ => true) true n 22 [c3] = some x3 := hf 3 _ rfl
  simp only [DataW.weights, Try.underlying24, DataW.weightsEach, List.map_cons, List.map_nil, List.all_append, Bool.and_eq_true, List.all_nil] at hz
  obtain ⟨z0, z1, z2, z3, _⟩ := hz
  obtain ⟨a0, e0, k0⟩ := (opens_int Try.underlying3) H e w n _ _ f0 z0
  obtain rfl := List.head_eq_of_cons_eq e0
  obtain ⟨a1, e1, k1⟩ := (opens_int Try.underlying3) H e w n _ _ f1 z1
  obtain rfl := List.head_eq_of_cons_eq e1
  obtain ⟨a2, e2, k2⟩ := (opens_slice 1 8 Try.underlying22 Try.cells_int Try.bytes_int (by omega) encI_len (opens_int Try.underlying3)) H e w n _ _ f2 z2
  obtain rfl := List.head_eq_of_cons_eq e2
  obtain ⟨a3, e3, k3⟩ := (opens_slice 1 8 Try.underlying22 Try.cells_int Try.bytes_int (by omega) encI_len (opens_int Try.underlying3)) H e w n _ _ f3 z3
  obtain rfl := List.head_eq_of_cons_eq e3
  exact ⟨⟨a0, a1, a2, a3⟩, rfl, ⟨⟨k0, k1, k2.1, k3.1⟩, k2.2, k3.2⟩⟩
end Go.Proofs.Ytmfphojmegfanab
