/- What the Go structs read as. Printed by wip/gen_kinds.py. -/
import Derived.Test.YtfaeemahdkobfaaBase
namespace Go.Proofs.Ytfaeemahdkobfaa
open Go.RowKit
set_option linter.unusedVariables false
structure LevelV where
  P : Int
  E : Int
def LevelV.enc (x : LevelV) : List Value := [.int .i64 x.P, .int .i64 x.E]
theorem LevelV.enc_len (x : LevelV) : x.enc.length = 2 := rfl
def LevelV.val (x : LevelV) : Value := .agg #[.int .i64 x.P, .int .i64 x.E]
def LevelV.arr (x : LevelV) : Array Value := #[.int .i64 x.P, .int .i64 x.E]
theorem LevelV.boxed (w : World) (x : LevelV) (t : TypeId) : (w.alloc (.cells x.arr t)).cell? ⟨w.heap.size, 0, none⟩ = some (.int .i64 x.P) ∧ (w.alloc (.cells x.arr t)).cell? ⟨w.heap.size, 1, none⟩ = some (.int .i64 x.E) :=
  ⟨new_cell w _ t 0 _ rfl, new_cell w _ t 1 _ rfl⟩
structure LevelV.Ok (w : World) (x : LevelV) : Prop where
  P : I64 x.P
  E : I64 x.E
theorem LevelV.Ok.ext {w w' : World} {x : LevelV} (h : x.Ok w) (hb : Ext w w') : x.Ok w' := ⟨h.P, h.E⟩
abbrev LevelsOk (w : World) (s : Sl LevelV) : Prop := s.Ok LevelV.enc LevelV.Ok 16 w
theorem LevelV.row {w : World} {A : Option Addr} {xs : List LevelV} (h : Row w A (xs.flatMap LevelV.enc)) (i : Nat) (hi : i < xs.length) :
    ∃ b o, A = some ⟨b, o, none⟩ ∧ b < w.heap.size ∧ w.cell? ⟨b, o + i * 2, none⟩ = some (.int .i64 xs[i].P) ∧ w.cell? ⟨b, o + i * 2 + 1, none⟩ = some (.int .i64 xs[i].E) := by
  obtain ⟨b, o, e, g⟩ := h.cells 2 LevelV.enc_len (by omega) i hi
  exact ⟨b, o, e, World.block_lt_of_cell? w _ (g 0 _ rfl), g 0 _ rfl, g 1 _ rfl⟩
theorem LevelsOk.ext {w w' : World} {s : Sl LevelV} (h : LevelsOk w s) (hb : Ext w w') : LevelsOk w' s := Sl.Ok.ext h hb (fun _ q => q.ext hb)
structure LevelV.Arg (w : World) (x : LevelV) : Prop where
  ok : x.Ok w

structure SleepV where
  power : Int
  enter : Int
  exit : Int
  enterE : Int
  exitE : Int
  even : Int
def SleepV.enc (x : SleepV) : List Value := [.int .i64 x.power, .int .i64 x.enter, .int .i64 x.exit, .int .i64 x.enterE, .int .i64 x.exitE, .int .i64 x.even]
theorem SleepV.enc_len (x : SleepV) : x.enc.length = 6 := rfl
def SleepV.val (x : SleepV) : Value := .agg #[.int .i64 x.power, .int .i64 x.enter, .int .i64 x.exit, .int .i64 x.enterE, .int .i64 x.exitE, .int .i64 x.even]
def SleepV.arr (x : SleepV) : Array Value := #[.int .i64 x.power, .int .i64 x.enter, .int .i64 x.exit, .int .i64 x.enterE, .int .i64 x.exitE, .int .i64 x.even]
theorem SleepV.boxed (w : World) (x : SleepV) (t : TypeId) : (w.alloc (.cells x.arr t)).cell? ⟨w.heap.size, 0, none⟩ = some (.int .i64 x.power) ∧ (w.alloc (.cells x.arr t)).cell? ⟨w.heap.size, 1, none⟩ = some (.int .i64 x.enter) ∧ (w.alloc (.cells x.arr t)).cell? ⟨w.heap.size, 2, none⟩ = some (.int .i64 x.exit) ∧ (w.alloc (.cells x.arr t)).cell? ⟨w.heap.size, 3, none⟩ = some (.int .i64 x.enterE) ∧ (w.alloc (.cells x.arr t)).cell? ⟨w.heap.size, 4, none⟩ = some (.int .i64 x.exitE) ∧ (w.alloc (.cells x.arr t)).cell? ⟨w.heap.size, 5, none⟩ = some (.int .i64 x.even) :=
  ⟨new_cell w _ t 0 _ rfl, new_cell w _ t 1 _ rfl, new_cell w _ t 2 _ rfl, new_cell w _ t 3 _ rfl, new_cell w _ t 4 _ rfl, new_cell w _ t 5 _ rfl⟩
structure SleepV.Ok (w : World) (x : SleepV) : Prop where
  power : I64 x.power
  enter : I64 x.enter
  exit : I64 x.exit
  enterE : I64 x.enterE
  exitE : I64 x.exitE
  even : I64 x.even
theorem SleepV.Ok.ext {w w' : World} {x : SleepV} (h : x.Ok w) (hb : Ext w w') : x.Ok w' := ⟨h.power, h.enter, h.exit, h.enterE, h.exitE, h.even⟩
abbrev SleepsOk (w : World) (s : Sl SleepV) : Prop := s.Ok SleepV.enc SleepV.Ok 48 w
theorem SleepV.row {w : World} {A : Option Addr} {xs : List SleepV} (h : Row w A (xs.flatMap SleepV.enc)) (i : Nat) (hi : i < xs.length) :
    ∃ b o, A = some ⟨b, o, none⟩ ∧ b < w.heap.size ∧ w.cell? ⟨b, o + i * 6, none⟩ = some (.int .i64 xs[i].power) ∧ w.cell? ⟨b, o + i * 6 + 1, none⟩ = some (.int .i64 xs[i].enter) ∧ w.cell? ⟨b, o + i * 6 + 2, none⟩ = some (.int .i64 xs[i].exit) ∧ w.cell? ⟨b, o + i * 6 + 3, none⟩ = some (.int .i64 xs[i].enterE) ∧ w.cell? ⟨b, o + i * 6 + 4, none⟩ = some (.int .i64 xs[i].exitE) ∧ w.cell? ⟨b, o + i * 6 + 5, none⟩ = some (.int .i64 xs[i].even) := by
  obtain ⟨b, o, e, g⟩ := h.cells 6 SleepV.enc_len (by omega) i hi
  exact ⟨b, o, e, World.block_lt_of_cell? w _ (g 0 _ rfl), g 0 _ rfl, g 1 _ rfl, g 2 _ rfl, g 3 _ rfl, g 4 _ rfl, g 5 _ rfl⟩
theorem SleepsOk.ext {w w' : World} {s : Sl SleepV} (h : SleepsOk w s) (hb : Ext w w') : SleepsOk w' s := Sl.Ok.ext h hb (fun _ q => q.ext hb)
structure SleepV.Arg (w : World) (x : SleepV) : Prop where
  ok : x.Ok w

structure DeviceV where
  on : Int
  off : Int
  down : Int
  up : Int
  downE : Int
  upE : Int
  even : Int
def DeviceV.enc (x : DeviceV) : List Value := [.int .i64 x.on, .int .i64 x.off, .int .i64 x.down, .int .i64 x.up, .int .i64 x.downE, .int .i64 x.upE, .int .i64 x.even]
theorem DeviceV.enc_len (x : DeviceV) : x.enc.length = 7 := rfl
def DeviceV.val (x : DeviceV) : Value := .agg #[.int .i64 x.on, .int .i64 x.off, .int .i64 x.down, .int .i64 x.up, .int .i64 x.downE, .int .i64 x.upE, .int .i64 x.even]
def DeviceV.arr (x : DeviceV) : Array Value := #[.int .i64 x.on, .int .i64 x.off, .int .i64 x.down, .int .i64 x.up, .int .i64 x.downE, .int .i64 x.upE, .int .i64 x.even]
theorem DeviceV.boxed (w : World) (x : DeviceV) (t : TypeId) : (w.alloc (.cells x.arr t)).cell? ⟨w.heap.size, 0, none⟩ = some (.int .i64 x.on) ∧ (w.alloc (.cells x.arr t)).cell? ⟨w.heap.size, 1, none⟩ = some (.int .i64 x.off) ∧ (w.alloc (.cells x.arr t)).cell? ⟨w.heap.size, 2, none⟩ = some (.int .i64 x.down) ∧ (w.alloc (.cells x.arr t)).cell? ⟨w.heap.size, 3, none⟩ = some (.int .i64 x.up) ∧ (w.alloc (.cells x.arr t)).cell? ⟨w.heap.size, 4, none⟩ = some (.int .i64 x.downE) ∧ (w.alloc (.cells x.arr t)).cell? ⟨w.heap.size, 5, none⟩ = some (.int .i64 x.upE) ∧ (w.alloc (.cells x.arr t)).cell? ⟨w.heap.size, 6, none⟩ = some (.int .i64 x.even) :=
  ⟨new_cell w _ t 0 _ rfl, new_cell w _ t 1 _ rfl, new_cell w _ t 2 _ rfl, new_cell w _ t 3 _ rfl, new_cell w _ t 4 _ rfl, new_cell w _ t 5 _ rfl, new_cell w _ t 6 _ rfl⟩
structure DeviceV.Ok (w : World) (x : DeviceV) : Prop where
  on : I64 x.on
  off : I64 x.off
  down : I64 x.down
  up : I64 x.up
  downE : I64 x.downE
  upE : I64 x.upE
  even : I64 x.even
theorem DeviceV.Ok.ext {w w' : World} {x : DeviceV} (h : x.Ok w) (hb : Ext w w') : x.Ok w' := ⟨h.on, h.off, h.down, h.up, h.downE, h.upE, h.even⟩
abbrev DevicesOk (w : World) (s : Sl DeviceV) : Prop := s.Ok DeviceV.enc DeviceV.Ok 56 w
theorem DeviceV.row {w : World} {A : Option Addr} {xs : List DeviceV} (h : Row w A (xs.flatMap DeviceV.enc)) (i : Nat) (hi : i < xs.length) :
    ∃ b o, A = some ⟨b, o, none⟩ ∧ b < w.heap.size ∧ w.cell? ⟨b, o + i * 7, none⟩ = some (.int .i64 xs[i].on) ∧ w.cell? ⟨b, o + i * 7 + 1, none⟩ = some (.int .i64 xs[i].off) ∧ w.cell? ⟨b, o + i * 7 + 2, none⟩ = some (.int .i64 xs[i].down) ∧ w.cell? ⟨b, o + i * 7 + 3, none⟩ = some (.int .i64 xs[i].up) ∧ w.cell? ⟨b, o + i * 7 + 4, none⟩ = some (.int .i64 xs[i].downE) ∧ w.cell? ⟨b, o + i * 7 + 5, none⟩ = some (.int .i64 xs[i].upE) ∧ w.cell? ⟨b, o + i * 7 + 6, none⟩ = some (.int .i64 xs[i].even) := by
  obtain ⟨b, o, e, g⟩ := h.cells 7 DeviceV.enc_len (by omega) i hi
  exact ⟨b, o, e, World.block_lt_of_cell? w _ (g 0 _ rfl), g 0 _ rfl, g 1 _ rfl, g 2 _ rfl, g 3 _ rfl, g 4 _ rfl, g 5 _ rfl, g 6 _ rfl⟩
theorem DevicesOk.ext {w w' : World} {s : Sl DeviceV} (h : DevicesOk w s) (hb : Ext w w') : DevicesOk w' s := Sl.Ok.ext h hb (fun _ q => q.ext hb)
structure DeviceV.Arg (w : World) (x : DeviceV) : Prop where
  ok : x.Ok w

structure PlatV where
  levels : Sl LevelV
  sleeps : Sl SleepV
  devices : Sl DeviceV
  idle : Int
  crit : Int
  switch : Int
  switchE : Int
  sems : Int
  horizon : Int
def PlatV.enc (x : PlatV) : List Value := [.slice x.levels.A x.levels.xs.length x.levels.c, .slice x.sleeps.A x.sleeps.xs.length x.sleeps.c, .slice x.devices.A x.devices.xs.length x.devices.c, .int .i64 x.idle, .int .i64 x.crit, .int .i64 x.switch, .int .i64 x.switchE, .int .i64 x.sems, .int .i64 x.horizon]
theorem PlatV.enc_len (x : PlatV) : x.enc.length = 9 := rfl
def PlatV.val (x : PlatV) : Value := .agg #[.slice x.levels.A x.levels.xs.length x.levels.c, .slice x.sleeps.A x.sleeps.xs.length x.sleeps.c, .slice x.devices.A x.devices.xs.length x.devices.c, .int .i64 x.idle, .int .i64 x.crit, .int .i64 x.switch, .int .i64 x.switchE, .int .i64 x.sems, .int .i64 x.horizon]
def PlatV.arr (x : PlatV) : Array Value := #[.slice x.levels.A x.levels.xs.length x.levels.c, .slice x.sleeps.A x.sleeps.xs.length x.sleeps.c, .slice x.devices.A x.devices.xs.length x.devices.c, .int .i64 x.idle, .int .i64 x.crit, .int .i64 x.switch, .int .i64 x.switchE, .int .i64 x.sems, .int .i64 x.horizon]
theorem PlatV.boxed (w : World) (x : PlatV) (t : TypeId) : (w.alloc (.cells x.arr t)).cell? ⟨w.heap.size, 0, none⟩ = some (.slice x.levels.A x.levels.xs.length x.levels.c) ∧ (w.alloc (.cells x.arr t)).cell? ⟨w.heap.size, 1, none⟩ = some (.slice x.sleeps.A x.sleeps.xs.length x.sleeps.c) ∧ (w.alloc (.cells x.arr t)).cell? ⟨w.heap.size, 2, none⟩ = some (.slice x.devices.A x.devices.xs.length x.devices.c) ∧ (w.alloc (.cells x.arr t)).cell? ⟨w.heap.size, 3, none⟩ = some (.int .i64 x.idle) ∧ (w.alloc (.cells x.arr t)).cell? ⟨w.heap.size, 4, none⟩ = some (.int .i64 x.crit) ∧ (w.alloc (.cells x.arr t)).cell? ⟨w.heap.size, 5, none⟩ = some (.int .i64 x.switch) ∧ (w.alloc (.cells x.arr t)).cell? ⟨w.heap.size, 6, none⟩ = some (.int .i64 x.switchE) ∧ (w.alloc (.cells x.arr t)).cell? ⟨w.heap.size, 7, none⟩ = some (.int .i64 x.sems) ∧ (w.alloc (.cells x.arr t)).cell? ⟨w.heap.size, 8, none⟩ = some (.int .i64 x.horizon) :=
  ⟨new_cell w _ t 0 _ rfl, new_cell w _ t 1 _ rfl, new_cell w _ t 2 _ rfl, new_cell w _ t 3 _ rfl, new_cell w _ t 4 _ rfl, new_cell w _ t 5 _ rfl, new_cell w _ t 6 _ rfl, new_cell w _ t 7 _ rfl, new_cell w _ t 8 _ rfl⟩
structure PlatV.Ok (w : World) (x : PlatV) : Prop where
  levels : x.levels.Ok LevelV.enc LevelV.Ok 16 w
  sleeps : x.sleeps.Ok SleepV.enc SleepV.Ok 48 w
  devices : x.devices.Ok DeviceV.enc DeviceV.Ok 56 w
  idle : I64 x.idle
  crit : I64 x.crit
  switch : I64 x.switch
  switchE : I64 x.switchE
  sems : I64 x.sems
  horizon : I64 x.horizon
theorem PlatV.Ok.ext {w w' : World} {x : PlatV} (h : x.Ok w) (hb : Ext w w') : x.Ok w' := ⟨Sl.Ok.ext h.levels hb (fun _ q => q.ext hb), Sl.Ok.ext h.sleeps hb (fun _ q => q.ext hb), Sl.Ok.ext h.devices hb (fun _ q => q.ext hb), h.idle, h.crit, h.switch, h.switchE, h.sems, h.horizon⟩
structure PlatV.Arg (w : World) (x : PlatV) : Prop where
  ok : x.Ok w
  levelsC : x.levels.c * 16 ≤ 140737488351232
  sleepsC : x.sleeps.c * 48 ≤ 140737488351232
  devicesC : x.devices.c * 56 ≤ 140737488351232

structure TaskV where
  period : Int
  cycles : Int
  sec : Sl Int
  devs : Sl Int
def TaskV.enc (x : TaskV) : List Value := [.int .i64 x.period, .int .i64 x.cycles, .slice x.sec.A x.sec.xs.length x.sec.c, .slice x.devs.A x.devs.xs.length x.devs.c]
theorem TaskV.enc_len (x : TaskV) : x.enc.length = 4 := rfl
def TaskV.val (x : TaskV) : Value := .agg #[.int .i64 x.period, .int .i64 x.cycles, .slice x.sec.A x.sec.xs.length x.sec.c, .slice x.devs.A x.devs.xs.length x.devs.c]
def TaskV.arr (x : TaskV) : Array Value := #[.int .i64 x.period, .int .i64 x.cycles, .slice x.sec.A x.sec.xs.length x.sec.c, .slice x.devs.A x.devs.xs.length x.devs.c]
theorem TaskV.boxed (w : World) (x : TaskV) (t : TypeId) : (w.alloc (.cells x.arr t)).cell? ⟨w.heap.size, 0, none⟩ = some (.int .i64 x.period) ∧ (w.alloc (.cells x.arr t)).cell? ⟨w.heap.size, 1, none⟩ = some (.int .i64 x.cycles) ∧ (w.alloc (.cells x.arr t)).cell? ⟨w.heap.size, 2, none⟩ = some (.slice x.sec.A x.sec.xs.length x.sec.c) ∧ (w.alloc (.cells x.arr t)).cell? ⟨w.heap.size, 3, none⟩ = some (.slice x.devs.A x.devs.xs.length x.devs.c) :=
  ⟨new_cell w _ t 0 _ rfl, new_cell w _ t 1 _ rfl, new_cell w _ t 2 _ rfl, new_cell w _ t 3 _ rfl⟩
structure TaskV.Ok (w : World) (x : TaskV) : Prop where
  period : I64 x.period
  cycles : I64 x.cycles
  sec : x.sec.Ok encI okI 8 w
  devs : x.devs.Ok encI okI 8 w
theorem TaskV.Ok.ext {w w' : World} {x : TaskV} (h : x.Ok w) (hb : Ext w w') : x.Ok w' := ⟨h.period, h.cycles, Sl.Ok.ext h.sec hb (fun _ q => q), Sl.Ok.ext h.devs hb (fun _ q => q)⟩
abbrev TasksOk (w : World) (s : Sl TaskV) : Prop := s.Ok TaskV.enc TaskV.Ok 64 w
theorem TaskV.row {w : World} {A : Option Addr} {xs : List TaskV} (h : Row w A (xs.flatMap TaskV.enc)) (i : Nat) (hi : i < xs.length) :
    ∃ b o, A = some ⟨b, o, none⟩ ∧ b < w.heap.size ∧ w.cell? ⟨b, o + i * 4, none⟩ = some (.int .i64 xs[i].period) ∧ w.cell? ⟨b, o + i * 4 + 1, none⟩ = some (.int .i64 xs[i].cycles) ∧ w.cell? ⟨b, o + i * 4 + 2, none⟩ = some (.slice xs[i].sec.A xs[i].sec.xs.length xs[i].sec.c) ∧ w.cell? ⟨b, o + i * 4 + 3, none⟩ = some (.slice xs[i].devs.A xs[i].devs.xs.length xs[i].devs.c) := by
  obtain ⟨b, o, e, g⟩ := h.cells 4 TaskV.enc_len (by omega) i hi
  exact ⟨b, o, e, World.block_lt_of_cell? w _ (g 0 _ rfl), g 0 _ rfl, g 1 _ rfl, g 2 _ rfl, g 3 _ rfl⟩
theorem TasksOk.ext {w w' : World} {s : Sl TaskV} (h : TasksOk w s) (hb : Ext w w') : TasksOk w' s := Sl.Ok.ext h hb (fun _ q => q.ext hb)
structure TaskV.Arg (w : World) (x : TaskV) : Prop where
  ok : x.Ok w
  secC : x.sec.c * 8 ≤ 140737488351232
  devsC : x.devs.c * 8 ≤ 140737488351232

structure JobV where
  task : Int
  release : Int
  deadline : Int
  left : Int
  real : Int
  started : Bool
def JobV.enc (x : JobV) : List Value := [.int .i64 x.task, .int .i64 x.release, .int .i64 x.deadline, .int .i64 x.left, .int .i64 x.real, .bool x.started]
theorem JobV.enc_len (x : JobV) : x.enc.length = 6 := rfl
def JobV.val (x : JobV) : Value := .agg #[.int .i64 x.task, .int .i64 x.release, .int .i64 x.deadline, .int .i64 x.left, .int .i64 x.real, .bool x.started]
def JobV.arr (x : JobV) : Array Value := #[.int .i64 x.task, .int .i64 x.release, .int .i64 x.deadline, .int .i64 x.left, .int .i64 x.real, .bool x.started]
theorem JobV.boxed (w : World) (x : JobV) (t : TypeId) : (w.alloc (.cells x.arr t)).cell? ⟨w.heap.size, 0, none⟩ = some (.int .i64 x.task) ∧ (w.alloc (.cells x.arr t)).cell? ⟨w.heap.size, 1, none⟩ = some (.int .i64 x.release) ∧ (w.alloc (.cells x.arr t)).cell? ⟨w.heap.size, 2, none⟩ = some (.int .i64 x.deadline) ∧ (w.alloc (.cells x.arr t)).cell? ⟨w.heap.size, 3, none⟩ = some (.int .i64 x.left) ∧ (w.alloc (.cells x.arr t)).cell? ⟨w.heap.size, 4, none⟩ = some (.int .i64 x.real) ∧ (w.alloc (.cells x.arr t)).cell? ⟨w.heap.size, 5, none⟩ = some (.bool x.started) :=
  ⟨new_cell w _ t 0 _ rfl, new_cell w _ t 1 _ rfl, new_cell w _ t 2 _ rfl, new_cell w _ t 3 _ rfl, new_cell w _ t 4 _ rfl, new_cell w _ t 5 _ rfl⟩
structure JobV.Ok (w : World) (x : JobV) : Prop where
  task : I64 x.task
  release : I64 x.release
  deadline : I64 x.deadline
  left : I64 x.left
  real : I64 x.real
theorem JobV.Ok.ext {w w' : World} {x : JobV} (h : x.Ok w) (hb : Ext w w') : x.Ok w' := ⟨h.task, h.release, h.deadline, h.left, h.real⟩
abbrev JobsOk (w : World) (s : Sl JobV) : Prop := s.Ok JobV.enc JobV.Ok 48 w
theorem JobV.row {w : World} {A : Option Addr} {xs : List JobV} (h : Row w A (xs.flatMap JobV.enc)) (i : Nat) (hi : i < xs.length) :
    ∃ b o, A = some ⟨b, o, none⟩ ∧ b < w.heap.size ∧ w.cell? ⟨b, o + i * 6, none⟩ = some (.int .i64 xs[i].task) ∧ w.cell? ⟨b, o + i * 6 + 1, none⟩ = some (.int .i64 xs[i].release) ∧ w.cell? ⟨b, o + i * 6 + 2, none⟩ = some (.int .i64 xs[i].deadline) ∧ w.cell? ⟨b, o + i * 6 + 3, none⟩ = some (.int .i64 xs[i].left) ∧ w.cell? ⟨b, o + i * 6 + 4, none⟩ = some (.int .i64 xs[i].real) ∧ w.cell? ⟨b, o + i * 6 + 5, none⟩ = some (.bool xs[i].started) := by
  obtain ⟨b, o, e, g⟩ := h.cells 6 JobV.enc_len (by omega) i hi
  exact ⟨b, o, e, World.block_lt_of_cell? w _ (g 0 _ rfl), g 0 _ rfl, g 1 _ rfl, g 2 _ rfl, g 3 _ rfl, g 4 _ rfl, g 5 _ rfl⟩
theorem JobsOk.ext {w w' : World} {s : Sl JobV} (h : JobsOk w s) (hb : Ext w w') : JobsOk w' s := Sl.Ok.ext h hb (fun _ q => q.ext hb)
structure JobV.Arg (w : World) (x : JobV) : Prop where
  ok : x.Ok w

structure HeldV where
  task : Int
  sem : Int
  left : Int
def HeldV.enc (x : HeldV) : List Value := [.int .i64 x.task, .int .i64 x.sem, .int .i64 x.left]
theorem HeldV.enc_len (x : HeldV) : x.enc.length = 3 := rfl
def HeldV.val (x : HeldV) : Value := .agg #[.int .i64 x.task, .int .i64 x.sem, .int .i64 x.left]
def HeldV.arr (x : HeldV) : Array Value := #[.int .i64 x.task, .int .i64 x.sem, .int .i64 x.left]
theorem HeldV.boxed (w : World) (x : HeldV) (t : TypeId) : (w.alloc (.cells x.arr t)).cell? ⟨w.heap.size, 0, none⟩ = some (.int .i64 x.task) ∧ (w.alloc (.cells x.arr t)).cell? ⟨w.heap.size, 1, none⟩ = some (.int .i64 x.sem) ∧ (w.alloc (.cells x.arr t)).cell? ⟨w.heap.size, 2, none⟩ = some (.int .i64 x.left) :=
  ⟨new_cell w _ t 0 _ rfl, new_cell w _ t 1 _ rfl, new_cell w _ t 2 _ rfl⟩
structure HeldV.Ok (w : World) (x : HeldV) : Prop where
  task : I64 x.task
  sem : I64 x.sem
  left : I64 x.left
theorem HeldV.Ok.ext {w w' : World} {x : HeldV} (h : x.Ok w) (hb : Ext w w') : x.Ok w' := ⟨h.task, h.sem, h.left⟩
abbrev HeldsOk (w : World) (s : Sl HeldV) : Prop := s.Ok HeldV.enc HeldV.Ok 24 w
theorem HeldV.row {w : World} {A : Option Addr} {xs : List HeldV} (h : Row w A (xs.flatMap HeldV.enc)) (i : Nat) (hi : i < xs.length) :
    ∃ b o, A = some ⟨b, o, none⟩ ∧ b < w.heap.size ∧ w.cell? ⟨b, o + i * 3, none⟩ = some (.int .i64 xs[i].task) ∧ w.cell? ⟨b, o + i * 3 + 1, none⟩ = some (.int .i64 xs[i].sem) ∧ w.cell? ⟨b, o + i * 3 + 2, none⟩ = some (.int .i64 xs[i].left) := by
  obtain ⟨b, o, e, g⟩ := h.cells 3 HeldV.enc_len (by omega) i hi
  exact ⟨b, o, e, World.block_lt_of_cell? w _ (g 0 _ rfl), g 0 _ rfl, g 1 _ rfl, g 2 _ rfl⟩
theorem HeldsOk.ext {w w' : World} {s : Sl HeldV} (h : HeldsOk w s) (hb : Ext w w') : HeldsOk w' s := Sl.Ok.ext h hb (fun _ q => q.ext hb)
structure HeldV.Arg (w : World) (x : HeldV) : Prop where
  ok : x.Ok w

structure IntervalV where
  kind : Int
  start : Int
  len : Int
  arg : Int
  task : Int
  cycles : Int
def IntervalV.enc (x : IntervalV) : List Value := [.int .i64 x.kind, .int .i64 x.start, .int .i64 x.len, .int .i64 x.arg, .int .i64 x.task, .int .i64 x.cycles]
theorem IntervalV.enc_len (x : IntervalV) : x.enc.length = 6 := rfl
def IntervalV.val (x : IntervalV) : Value := .agg #[.int .i64 x.kind, .int .i64 x.start, .int .i64 x.len, .int .i64 x.arg, .int .i64 x.task, .int .i64 x.cycles]
def IntervalV.arr (x : IntervalV) : Array Value := #[.int .i64 x.kind, .int .i64 x.start, .int .i64 x.len, .int .i64 x.arg, .int .i64 x.task, .int .i64 x.cycles]
theorem IntervalV.boxed (w : World) (x : IntervalV) (t : TypeId) : (w.alloc (.cells x.arr t)).cell? ⟨w.heap.size, 0, none⟩ = some (.int .i64 x.kind) ∧ (w.alloc (.cells x.arr t)).cell? ⟨w.heap.size, 1, none⟩ = some (.int .i64 x.start) ∧ (w.alloc (.cells x.arr t)).cell? ⟨w.heap.size, 2, none⟩ = some (.int .i64 x.len) ∧ (w.alloc (.cells x.arr t)).cell? ⟨w.heap.size, 3, none⟩ = some (.int .i64 x.arg) ∧ (w.alloc (.cells x.arr t)).cell? ⟨w.heap.size, 4, none⟩ = some (.int .i64 x.task) ∧ (w.alloc (.cells x.arr t)).cell? ⟨w.heap.size, 5, none⟩ = some (.int .i64 x.cycles) :=
  ⟨new_cell w _ t 0 _ rfl, new_cell w _ t 1 _ rfl, new_cell w _ t 2 _ rfl, new_cell w _ t 3 _ rfl, new_cell w _ t 4 _ rfl, new_cell w _ t 5 _ rfl⟩
structure IntervalV.Ok (w : World) (x : IntervalV) : Prop where
  kind : I64 x.kind
  start : I64 x.start
  len : I64 x.len
  arg : I64 x.arg
  task : I64 x.task
  cycles : I64 x.cycles
theorem IntervalV.Ok.ext {w w' : World} {x : IntervalV} (h : x.Ok w) (hb : Ext w w') : x.Ok w' := ⟨h.kind, h.start, h.len, h.arg, h.task, h.cycles⟩
abbrev IntervalsOk (w : World) (s : Sl IntervalV) : Prop := s.Ok IntervalV.enc IntervalV.Ok 48 w
theorem IntervalV.row {w : World} {A : Option Addr} {xs : List IntervalV} (h : Row w A (xs.flatMap IntervalV.enc)) (i : Nat) (hi : i < xs.length) :
    ∃ b o, A = some ⟨b, o, none⟩ ∧ b < w.heap.size ∧ w.cell? ⟨b, o + i * 6, none⟩ = some (.int .i64 xs[i].kind) ∧ w.cell? ⟨b, o + i * 6 + 1, none⟩ = some (.int .i64 xs[i].start) ∧ w.cell? ⟨b, o + i * 6 + 2, none⟩ = some (.int .i64 xs[i].len) ∧ w.cell? ⟨b, o + i * 6 + 3, none⟩ = some (.int .i64 xs[i].arg) ∧ w.cell? ⟨b, o + i * 6 + 4, none⟩ = some (.int .i64 xs[i].task) ∧ w.cell? ⟨b, o + i * 6 + 5, none⟩ = some (.int .i64 xs[i].cycles) := by
  obtain ⟨b, o, e, g⟩ := h.cells 6 IntervalV.enc_len (by omega) i hi
  exact ⟨b, o, e, World.block_lt_of_cell? w _ (g 0 _ rfl), g 0 _ rfl, g 1 _ rfl, g 2 _ rfl, g 3 _ rfl, g 4 _ rfl, g 5 _ rfl⟩
theorem IntervalsOk.ext {w w' : World} {s : Sl IntervalV} (h : IntervalsOk w s) (hb : Ext w w') : IntervalsOk w' s := Sl.Ok.ext h hb (fun _ q => q.ext hb)
structure IntervalV.Arg (w : World) (x : IntervalV) : Prop where
  ok : x.Ok w

structure ViewV where
  p : PlatV
  tasks : Sl TaskV
  next : Sl Int
  jobs : Sl JobV
  held : Sl HeldV
  now : Int
  mom : Int
def ViewV.enc (x : ViewV) : List Value := [.slice x.p.levels.A x.p.levels.xs.length x.p.levels.c, .slice x.p.sleeps.A x.p.sleeps.xs.length x.p.sleeps.c, .slice x.p.devices.A x.p.devices.xs.length x.p.devices.c, .int .i64 x.p.idle, .int .i64 x.p.crit, .int .i64 x.p.switch, .int .i64 x.p.switchE, .int .i64 x.p.sems, .int .i64 x.p.horizon, .slice x.tasks.A x.tasks.xs.length x.tasks.c, .slice x.next.A x.next.xs.length x.next.c, .slice x.jobs.A x.jobs.xs.length x.jobs.c, .slice x.held.A x.held.xs.length x.held.c, .int .i64 x.now, .int .i64 x.mom]
theorem ViewV.enc_len (x : ViewV) : x.enc.length = 15 := rfl
def ViewV.val (x : ViewV) : Value := .agg #[.slice x.p.levels.A x.p.levels.xs.length x.p.levels.c, .slice x.p.sleeps.A x.p.sleeps.xs.length x.p.sleeps.c, .slice x.p.devices.A x.p.devices.xs.length x.p.devices.c, .int .i64 x.p.idle, .int .i64 x.p.crit, .int .i64 x.p.switch, .int .i64 x.p.switchE, .int .i64 x.p.sems, .int .i64 x.p.horizon, .slice x.tasks.A x.tasks.xs.length x.tasks.c, .slice x.next.A x.next.xs.length x.next.c, .slice x.jobs.A x.jobs.xs.length x.jobs.c, .slice x.held.A x.held.xs.length x.held.c, .int .i64 x.now, .int .i64 x.mom]
def ViewV.arr (x : ViewV) : Array Value := #[.slice x.p.levels.A x.p.levels.xs.length x.p.levels.c, .slice x.p.sleeps.A x.p.sleeps.xs.length x.p.sleeps.c, .slice x.p.devices.A x.p.devices.xs.length x.p.devices.c, .int .i64 x.p.idle, .int .i64 x.p.crit, .int .i64 x.p.switch, .int .i64 x.p.switchE, .int .i64 x.p.sems, .int .i64 x.p.horizon, .slice x.tasks.A x.tasks.xs.length x.tasks.c, .slice x.next.A x.next.xs.length x.next.c, .slice x.jobs.A x.jobs.xs.length x.jobs.c, .slice x.held.A x.held.xs.length x.held.c, .int .i64 x.now, .int .i64 x.mom]
theorem ViewV.boxed (w : World) (x : ViewV) (t : TypeId) : (w.alloc (.cells x.arr t)).cell? ⟨w.heap.size, 0, none⟩ = some (.slice x.p.levels.A x.p.levels.xs.length x.p.levels.c) ∧ (w.alloc (.cells x.arr t)).cell? ⟨w.heap.size, 1, none⟩ = some (.slice x.p.sleeps.A x.p.sleeps.xs.length x.p.sleeps.c) ∧ (w.alloc (.cells x.arr t)).cell? ⟨w.heap.size, 2, none⟩ = some (.slice x.p.devices.A x.p.devices.xs.length x.p.devices.c) ∧ (w.alloc (.cells x.arr t)).cell? ⟨w.heap.size, 3, none⟩ = some (.int .i64 x.p.idle) ∧ (w.alloc (.cells x.arr t)).cell? ⟨w.heap.size, 4, none⟩ = some (.int .i64 x.p.crit) ∧ (w.alloc (.cells x.arr t)).cell? ⟨w.heap.size, 5, none⟩ = some (.int .i64 x.p.switch) ∧ (w.alloc (.cells x.arr t)).cell? ⟨w.heap.size, 6, none⟩ = some (.int .i64 x.p.switchE) ∧ (w.alloc (.cells x.arr t)).cell? ⟨w.heap.size, 7, none⟩ = some (.int .i64 x.p.sems) ∧ (w.alloc (.cells x.arr t)).cell? ⟨w.heap.size, 8, none⟩ = some (.int .i64 x.p.horizon) ∧ (w.alloc (.cells x.arr t)).cell? ⟨w.heap.size, 9, none⟩ = some (.slice x.tasks.A x.tasks.xs.length x.tasks.c) ∧ (w.alloc (.cells x.arr t)).cell? ⟨w.heap.size, 10, none⟩ = some (.slice x.next.A x.next.xs.length x.next.c) ∧ (w.alloc (.cells x.arr t)).cell? ⟨w.heap.size, 11, none⟩ = some (.slice x.jobs.A x.jobs.xs.length x.jobs.c) ∧ (w.alloc (.cells x.arr t)).cell? ⟨w.heap.size, 12, none⟩ = some (.slice x.held.A x.held.xs.length x.held.c) ∧ (w.alloc (.cells x.arr t)).cell? ⟨w.heap.size, 13, none⟩ = some (.int .i64 x.now) ∧ (w.alloc (.cells x.arr t)).cell? ⟨w.heap.size, 14, none⟩ = some (.int .i64 x.mom) :=
  ⟨new_cell w _ t 0 _ rfl, new_cell w _ t 1 _ rfl, new_cell w _ t 2 _ rfl, new_cell w _ t 3 _ rfl, new_cell w _ t 4 _ rfl, new_cell w _ t 5 _ rfl, new_cell w _ t 6 _ rfl, new_cell w _ t 7 _ rfl, new_cell w _ t 8 _ rfl, new_cell w _ t 9 _ rfl, new_cell w _ t 10 _ rfl, new_cell w _ t 11 _ rfl, new_cell w _ t 12 _ rfl, new_cell w _ t 13 _ rfl, new_cell w _ t 14 _ rfl⟩
structure ViewV.Ok (w : World) (x : ViewV) : Prop where
  p : x.p.Ok w
  tasks : x.tasks.Ok TaskV.enc TaskV.Ok 64 w
  next : x.next.Ok encI okI 8 w
  jobs : x.jobs.Ok JobV.enc JobV.Ok 48 w
  held : x.held.Ok HeldV.enc HeldV.Ok 24 w
  now : I64 x.now
  mom : I64 x.mom
theorem ViewV.Ok.ext {w w' : World} {x : ViewV} (h : x.Ok w) (hb : Ext w w') : x.Ok w' := ⟨h.p.ext hb, Sl.Ok.ext h.tasks hb (fun _ q => q.ext hb), Sl.Ok.ext h.next hb (fun _ q => q), Sl.Ok.ext h.jobs hb (fun _ q => q.ext hb), Sl.Ok.ext h.held hb (fun _ q => q.ext hb), h.now, h.mom⟩
structure ViewV.Arg (w : World) (x : ViewV) : Prop where
  ok : x.Ok w
  pA : x.p.Arg w
  tasksC : x.tasks.c * 64 ≤ 140737488351232
  nextC : x.next.c * 8 ≤ 140737488351232
  jobsC : x.jobs.c * 48 ≤ 140737488351232
  heldC : x.held.c * 24 ≤ 140737488351232

structure ItemV where
  id : Int
  key : Int
def ItemV.enc (x : ItemV) : List Value := [.int .i64 x.id, .int .i64 x.key]
theorem ItemV.enc_len (x : ItemV) : x.enc.length = 2 := rfl
def ItemV.val (x : ItemV) : Value := .agg #[.int .i64 x.id, .int .i64 x.key]
def ItemV.arr (x : ItemV) : Array Value := #[.int .i64 x.id, .int .i64 x.key]
theorem ItemV.boxed (w : World) (x : ItemV) (t : TypeId) : (w.alloc (.cells x.arr t)).cell? ⟨w.heap.size, 0, none⟩ = some (.int .i64 x.id) ∧ (w.alloc (.cells x.arr t)).cell? ⟨w.heap.size, 1, none⟩ = some (.int .i64 x.key) :=
  ⟨new_cell w _ t 0 _ rfl, new_cell w _ t 1 _ rfl⟩
structure ItemV.Ok (w : World) (x : ItemV) : Prop where
  id : I64 x.id
  key : I64 x.key
theorem ItemV.Ok.ext {w w' : World} {x : ItemV} (h : x.Ok w) (hb : Ext w w') : x.Ok w' := ⟨h.id, h.key⟩
abbrev ItemsOk (w : World) (s : Sl ItemV) : Prop := s.Ok ItemV.enc ItemV.Ok 16 w
theorem ItemV.row {w : World} {A : Option Addr} {xs : List ItemV} (h : Row w A (xs.flatMap ItemV.enc)) (i : Nat) (hi : i < xs.length) :
    ∃ b o, A = some ⟨b, o, none⟩ ∧ b < w.heap.size ∧ w.cell? ⟨b, o + i * 2, none⟩ = some (.int .i64 xs[i].id) ∧ w.cell? ⟨b, o + i * 2 + 1, none⟩ = some (.int .i64 xs[i].key) := by
  obtain ⟨b, o, e, g⟩ := h.cells 2 ItemV.enc_len (by omega) i hi
  exact ⟨b, o, e, World.block_lt_of_cell? w _ (g 0 _ rfl), g 0 _ rfl, g 1 _ rfl⟩
theorem ItemsOk.ext {w w' : World} {s : Sl ItemV} (h : ItemsOk w s) (hb : Ext w w') : ItemsOk w' s := Sl.Ok.ext h hb (fun _ q => q.ext hb)
structure ItemV.Arg (w : World) (x : ItemV) : Prop where
  ok : x.Ok w

structure HOpV where
  kind : Int
  id : Int
  key : Int
def HOpV.enc (x : HOpV) : List Value := [.int .i64 x.kind, .int .i64 x.id, .int .i64 x.key]
theorem HOpV.enc_len (x : HOpV) : x.enc.length = 3 := rfl
def HOpV.val (x : HOpV) : Value := .agg #[.int .i64 x.kind, .int .i64 x.id, .int .i64 x.key]
def HOpV.arr (x : HOpV) : Array Value := #[.int .i64 x.kind, .int .i64 x.id, .int .i64 x.key]
theorem HOpV.boxed (w : World) (x : HOpV) (t : TypeId) : (w.alloc (.cells x.arr t)).cell? ⟨w.heap.size, 0, none⟩ = some (.int .i64 x.kind) ∧ (w.alloc (.cells x.arr t)).cell? ⟨w.heap.size, 1, none⟩ = some (.int .i64 x.id) ∧ (w.alloc (.cells x.arr t)).cell? ⟨w.heap.size, 2, none⟩ = some (.int .i64 x.key) :=
  ⟨new_cell w _ t 0 _ rfl, new_cell w _ t 1 _ rfl, new_cell w _ t 2 _ rfl⟩
structure HOpV.Ok (w : World) (x : HOpV) : Prop where
  kind : I64 x.kind
  id : I64 x.id
  key : I64 x.key
theorem HOpV.Ok.ext {w w' : World} {x : HOpV} (h : x.Ok w) (hb : Ext w w') : x.Ok w' := ⟨h.kind, h.id, h.key⟩
abbrev HOpsOk (w : World) (s : Sl HOpV) : Prop := s.Ok HOpV.enc HOpV.Ok 24 w
theorem HOpV.row {w : World} {A : Option Addr} {xs : List HOpV} (h : Row w A (xs.flatMap HOpV.enc)) (i : Nat) (hi : i < xs.length) :
    ∃ b o, A = some ⟨b, o, none⟩ ∧ b < w.heap.size ∧ w.cell? ⟨b, o + i * 3, none⟩ = some (.int .i64 xs[i].kind) ∧ w.cell? ⟨b, o + i * 3 + 1, none⟩ = some (.int .i64 xs[i].id) ∧ w.cell? ⟨b, o + i * 3 + 2, none⟩ = some (.int .i64 xs[i].key) := by
  obtain ⟨b, o, e, g⟩ := h.cells 3 HOpV.enc_len (by omega) i hi
  exact ⟨b, o, e, World.block_lt_of_cell? w _ (g 0 _ rfl), g 0 _ rfl, g 1 _ rfl, g 2 _ rfl⟩
theorem HOpsOk.ext {w w' : World} {s : Sl HOpV} (h : HOpsOk w s) (hb : Ext w w') : HOpsOk w' s := Sl.Ok.ext h hb (fun _ q => q.ext hb)
structure HOpV.Arg (w : World) (x : HOpV) : Prop where
  ok : x.Ok w

structure TOpV where
  kind : Int
  id : Int
  mom : Int
  every : Int
def TOpV.enc (x : TOpV) : List Value := [.int .i64 x.kind, .int .i64 x.id, .int .i64 x.mom, .int .i64 x.every]
theorem TOpV.enc_len (x : TOpV) : x.enc.length = 4 := rfl
def TOpV.val (x : TOpV) : Value := .agg #[.int .i64 x.kind, .int .i64 x.id, .int .i64 x.mom, .int .i64 x.every]
def TOpV.arr (x : TOpV) : Array Value := #[.int .i64 x.kind, .int .i64 x.id, .int .i64 x.mom, .int .i64 x.every]
theorem TOpV.boxed (w : World) (x : TOpV) (t : TypeId) : (w.alloc (.cells x.arr t)).cell? ⟨w.heap.size, 0, none⟩ = some (.int .i64 x.kind) ∧ (w.alloc (.cells x.arr t)).cell? ⟨w.heap.size, 1, none⟩ = some (.int .i64 x.id) ∧ (w.alloc (.cells x.arr t)).cell? ⟨w.heap.size, 2, none⟩ = some (.int .i64 x.mom) ∧ (w.alloc (.cells x.arr t)).cell? ⟨w.heap.size, 3, none⟩ = some (.int .i64 x.every) :=
  ⟨new_cell w _ t 0 _ rfl, new_cell w _ t 1 _ rfl, new_cell w _ t 2 _ rfl, new_cell w _ t 3 _ rfl⟩
structure TOpV.Ok (w : World) (x : TOpV) : Prop where
  kind : I64 x.kind
  id : I64 x.id
  mom : I64 x.mom
  every : I64 x.every
theorem TOpV.Ok.ext {w w' : World} {x : TOpV} (h : x.Ok w) (hb : Ext w w') : x.Ok w' := ⟨h.kind, h.id, h.mom, h.every⟩
abbrev TOpsOk (w : World) (s : Sl TOpV) : Prop := s.Ok TOpV.enc TOpV.Ok 32 w
theorem TOpV.row {w : World} {A : Option Addr} {xs : List TOpV} (h : Row w A (xs.flatMap TOpV.enc)) (i : Nat) (hi : i < xs.length) :
    ∃ b o, A = some ⟨b, o, none⟩ ∧ b < w.heap.size ∧ w.cell? ⟨b, o + i * 4, none⟩ = some (.int .i64 xs[i].kind) ∧ w.cell? ⟨b, o + i * 4 + 1, none⟩ = some (.int .i64 xs[i].id) ∧ w.cell? ⟨b, o + i * 4 + 2, none⟩ = some (.int .i64 xs[i].mom) ∧ w.cell? ⟨b, o + i * 4 + 3, none⟩ = some (.int .i64 xs[i].every) := by
  obtain ⟨b, o, e, g⟩ := h.cells 4 TOpV.enc_len (by omega) i hi
  exact ⟨b, o, e, World.block_lt_of_cell? w _ (g 0 _ rfl), g 0 _ rfl, g 1 _ rfl, g 2 _ rfl, g 3 _ rfl⟩
theorem TOpsOk.ext {w w' : World} {s : Sl TOpV} (h : TOpsOk w s) (hb : Ext w w') : TOpsOk w' s := Sl.Ok.ext h hb (fun _ q => q.ext hb)
structure TOpV.Arg (w : World) (x : TOpV) : Prop where
  ok : x.Ok w

structure TimerV where
  id : Int
  mom : Int
  every : Int
def TimerV.enc (x : TimerV) : List Value := [.int .i64 x.id, .int .i64 x.mom, .int .i64 x.every]
theorem TimerV.enc_len (x : TimerV) : x.enc.length = 3 := rfl
def TimerV.val (x : TimerV) : Value := .agg #[.int .i64 x.id, .int .i64 x.mom, .int .i64 x.every]
def TimerV.arr (x : TimerV) : Array Value := #[.int .i64 x.id, .int .i64 x.mom, .int .i64 x.every]
theorem TimerV.boxed (w : World) (x : TimerV) (t : TypeId) : (w.alloc (.cells x.arr t)).cell? ⟨w.heap.size, 0, none⟩ = some (.int .i64 x.id) ∧ (w.alloc (.cells x.arr t)).cell? ⟨w.heap.size, 1, none⟩ = some (.int .i64 x.mom) ∧ (w.alloc (.cells x.arr t)).cell? ⟨w.heap.size, 2, none⟩ = some (.int .i64 x.every) :=
  ⟨new_cell w _ t 0 _ rfl, new_cell w _ t 1 _ rfl, new_cell w _ t 2 _ rfl⟩
structure TimerV.Ok (w : World) (x : TimerV) : Prop where
  id : I64 x.id
  mom : I64 x.mom
  every : I64 x.every
theorem TimerV.Ok.ext {w w' : World} {x : TimerV} (h : x.Ok w) (hb : Ext w w') : x.Ok w' := ⟨h.id, h.mom, h.every⟩
abbrev TimersOk (w : World) (s : Sl TimerV) : Prop := s.Ok TimerV.enc TimerV.Ok 24 w
theorem TimerV.row {w : World} {A : Option Addr} {xs : List TimerV} (h : Row w A (xs.flatMap TimerV.enc)) (i : Nat) (hi : i < xs.length) :
    ∃ b o, A = some ⟨b, o, none⟩ ∧ b < w.heap.size ∧ w.cell? ⟨b, o + i * 3, none⟩ = some (.int .i64 xs[i].id) ∧ w.cell? ⟨b, o + i * 3 + 1, none⟩ = some (.int .i64 xs[i].mom) ∧ w.cell? ⟨b, o + i * 3 + 2, none⟩ = some (.int .i64 xs[i].every) := by
  obtain ⟨b, o, e, g⟩ := h.cells 3 TimerV.enc_len (by omega) i hi
  exact ⟨b, o, e, World.block_lt_of_cell? w _ (g 0 _ rfl), g 0 _ rfl, g 1 _ rfl, g 2 _ rfl⟩
theorem TimersOk.ext {w w' : World} {s : Sl TimerV} (h : TimersOk w s) (hb : Ext w w') : TimersOk w' s := Sl.Ok.ext h hb (fun _ q => q.ext hb)
structure TimerV.Arg (w : World) (x : TimerV) : Prop where
  ok : x.Ok w

structure LOpV where
  kind : Int
  task : Int
  sem : Int
  cycles : Int
def LOpV.enc (x : LOpV) : List Value := [.int .i64 x.kind, .int .i64 x.task, .int .i64 x.sem, .int .i64 x.cycles]
theorem LOpV.enc_len (x : LOpV) : x.enc.length = 4 := rfl
def LOpV.val (x : LOpV) : Value := .agg #[.int .i64 x.kind, .int .i64 x.task, .int .i64 x.sem, .int .i64 x.cycles]
def LOpV.arr (x : LOpV) : Array Value := #[.int .i64 x.kind, .int .i64 x.task, .int .i64 x.sem, .int .i64 x.cycles]
theorem LOpV.boxed (w : World) (x : LOpV) (t : TypeId) : (w.alloc (.cells x.arr t)).cell? ⟨w.heap.size, 0, none⟩ = some (.int .i64 x.kind) ∧ (w.alloc (.cells x.arr t)).cell? ⟨w.heap.size, 1, none⟩ = some (.int .i64 x.task) ∧ (w.alloc (.cells x.arr t)).cell? ⟨w.heap.size, 2, none⟩ = some (.int .i64 x.sem) ∧ (w.alloc (.cells x.arr t)).cell? ⟨w.heap.size, 3, none⟩ = some (.int .i64 x.cycles) :=
  ⟨new_cell w _ t 0 _ rfl, new_cell w _ t 1 _ rfl, new_cell w _ t 2 _ rfl, new_cell w _ t 3 _ rfl⟩
structure LOpV.Ok (w : World) (x : LOpV) : Prop where
  kind : I64 x.kind
  task : I64 x.task
  sem : I64 x.sem
  cycles : I64 x.cycles
theorem LOpV.Ok.ext {w w' : World} {x : LOpV} (h : x.Ok w) (hb : Ext w w') : x.Ok w' := ⟨h.kind, h.task, h.sem, h.cycles⟩
abbrev LOpsOk (w : World) (s : Sl LOpV) : Prop := s.Ok LOpV.enc LOpV.Ok 32 w
theorem LOpV.row {w : World} {A : Option Addr} {xs : List LOpV} (h : Row w A (xs.flatMap LOpV.enc)) (i : Nat) (hi : i < xs.length) :
    ∃ b o, A = some ⟨b, o, none⟩ ∧ b < w.heap.size ∧ w.cell? ⟨b, o + i * 4, none⟩ = some (.int .i64 xs[i].kind) ∧ w.cell? ⟨b, o + i * 4 + 1, none⟩ = some (.int .i64 xs[i].task) ∧ w.cell? ⟨b, o + i * 4 + 2, none⟩ = some (.int .i64 xs[i].sem) ∧ w.cell? ⟨b, o + i * 4 + 3, none⟩ = some (.int .i64 xs[i].cycles) := by
  obtain ⟨b, o, e, g⟩ := h.cells 4 LOpV.enc_len (by omega) i hi
  exact ⟨b, o, e, World.block_lt_of_cell? w _ (g 0 _ rfl), g 0 _ rfl, g 1 _ rfl, g 2 _ rfl, g 3 _ rfl⟩
theorem LOpsOk.ext {w w' : World} {s : Sl LOpV} (h : LOpsOk w s) (hb : Ext w w') : LOpsOk w' s := Sl.Ok.ext h hb (fun _ q => q.ext hb)
structure LOpV.Arg (w : World) (x : LOpV) : Prop where
  ok : x.Ok w

structure AOpV where
  kind : Int
  task : Int
  mom : Int
  cycles : Int
def AOpV.enc (x : AOpV) : List Value := [.int .i64 x.kind, .int .i64 x.task, .int .i64 x.mom, .int .i64 x.cycles]
theorem AOpV.enc_len (x : AOpV) : x.enc.length = 4 := rfl
def AOpV.val (x : AOpV) : Value := .agg #[.int .i64 x.kind, .int .i64 x.task, .int .i64 x.mom, .int .i64 x.cycles]
def AOpV.arr (x : AOpV) : Array Value := #[.int .i64 x.kind, .int .i64 x.task, .int .i64 x.mom, .int .i64 x.cycles]
theorem AOpV.boxed (w : World) (x : AOpV) (t : TypeId) : (w.alloc (.cells x.arr t)).cell? ⟨w.heap.size, 0, none⟩ = some (.int .i64 x.kind) ∧ (w.alloc (.cells x.arr t)).cell? ⟨w.heap.size, 1, none⟩ = some (.int .i64 x.task) ∧ (w.alloc (.cells x.arr t)).cell? ⟨w.heap.size, 2, none⟩ = some (.int .i64 x.mom) ∧ (w.alloc (.cells x.arr t)).cell? ⟨w.heap.size, 3, none⟩ = some (.int .i64 x.cycles) :=
  ⟨new_cell w _ t 0 _ rfl, new_cell w _ t 1 _ rfl, new_cell w _ t 2 _ rfl, new_cell w _ t 3 _ rfl⟩
structure AOpV.Ok (w : World) (x : AOpV) : Prop where
  kind : I64 x.kind
  task : I64 x.task
  mom : I64 x.mom
  cycles : I64 x.cycles
theorem AOpV.Ok.ext {w w' : World} {x : AOpV} (h : x.Ok w) (hb : Ext w w') : x.Ok w' := ⟨h.kind, h.task, h.mom, h.cycles⟩
abbrev AOpsOk (w : World) (s : Sl AOpV) : Prop := s.Ok AOpV.enc AOpV.Ok 32 w
theorem AOpV.row {w : World} {A : Option Addr} {xs : List AOpV} (h : Row w A (xs.flatMap AOpV.enc)) (i : Nat) (hi : i < xs.length) :
    ∃ b o, A = some ⟨b, o, none⟩ ∧ b < w.heap.size ∧ w.cell? ⟨b, o + i * 4, none⟩ = some (.int .i64 xs[i].kind) ∧ w.cell? ⟨b, o + i * 4 + 1, none⟩ = some (.int .i64 xs[i].task) ∧ w.cell? ⟨b, o + i * 4 + 2, none⟩ = some (.int .i64 xs[i].mom) ∧ w.cell? ⟨b, o + i * 4 + 3, none⟩ = some (.int .i64 xs[i].cycles) := by
  obtain ⟨b, o, e, g⟩ := h.cells 4 AOpV.enc_len (by omega) i hi
  exact ⟨b, o, e, World.block_lt_of_cell? w _ (g 0 _ rfl), g 0 _ rfl, g 1 _ rfl, g 2 _ rfl, g 3 _ rfl⟩
theorem AOpsOk.ext {w w' : World} {s : Sl AOpV} (h : AOpsOk w s) (hb : Ext w w') : AOpsOk w' s := Sl.Ok.ext h hb (fun _ q => q.ext hb)
structure AOpV.Arg (w : World) (x : AOpV) : Prop where
  ok : x.Ok w

structure ROpV where
  kind : Int
  task : Int
  job : JobV
def ROpV.enc (x : ROpV) : List Value := [.int .i64 x.kind, .int .i64 x.task, .int .i64 x.job.task, .int .i64 x.job.release, .int .i64 x.job.deadline, .int .i64 x.job.left, .int .i64 x.job.real, .bool x.job.started]
theorem ROpV.enc_len (x : ROpV) : x.enc.length = 8 := rfl
def ROpV.val (x : ROpV) : Value := .agg #[.int .i64 x.kind, .int .i64 x.task, .int .i64 x.job.task, .int .i64 x.job.release, .int .i64 x.job.deadline, .int .i64 x.job.left, .int .i64 x.job.real, .bool x.job.started]
def ROpV.arr (x : ROpV) : Array Value := #[.int .i64 x.kind, .int .i64 x.task, .int .i64 x.job.task, .int .i64 x.job.release, .int .i64 x.job.deadline, .int .i64 x.job.left, .int .i64 x.job.real, .bool x.job.started]
theorem ROpV.boxed (w : World) (x : ROpV) (t : TypeId) : (w.alloc (.cells x.arr t)).cell? ⟨w.heap.size, 0, none⟩ = some (.int .i64 x.kind) ∧ (w.alloc (.cells x.arr t)).cell? ⟨w.heap.size, 1, none⟩ = some (.int .i64 x.task) ∧ (w.alloc (.cells x.arr t)).cell? ⟨w.heap.size, 2, none⟩ = some (.int .i64 x.job.task) ∧ (w.alloc (.cells x.arr t)).cell? ⟨w.heap.size, 3, none⟩ = some (.int .i64 x.job.release) ∧ (w.alloc (.cells x.arr t)).cell? ⟨w.heap.size, 4, none⟩ = some (.int .i64 x.job.deadline) ∧ (w.alloc (.cells x.arr t)).cell? ⟨w.heap.size, 5, none⟩ = some (.int .i64 x.job.left) ∧ (w.alloc (.cells x.arr t)).cell? ⟨w.heap.size, 6, none⟩ = some (.int .i64 x.job.real) ∧ (w.alloc (.cells x.arr t)).cell? ⟨w.heap.size, 7, none⟩ = some (.bool x.job.started) :=
  ⟨new_cell w _ t 0 _ rfl, new_cell w _ t 1 _ rfl, new_cell w _ t 2 _ rfl, new_cell w _ t 3 _ rfl, new_cell w _ t 4 _ rfl, new_cell w _ t 5 _ rfl, new_cell w _ t 6 _ rfl, new_cell w _ t 7 _ rfl⟩
structure ROpV.Ok (w : World) (x : ROpV) : Prop where
  kind : I64 x.kind
  task : I64 x.task
  job : x.job.Ok w
theorem ROpV.Ok.ext {w w' : World} {x : ROpV} (h : x.Ok w) (hb : Ext w w') : x.Ok w' := ⟨h.kind, h.task, h.job.ext hb⟩
abbrev ROpsOk (w : World) (s : Sl ROpV) : Prop := s.Ok ROpV.enc ROpV.Ok 64 w
theorem ROpV.row {w : World} {A : Option Addr} {xs : List ROpV} (h : Row w A (xs.flatMap ROpV.enc)) (i : Nat) (hi : i < xs.length) :
    ∃ b o, A = some ⟨b, o, none⟩ ∧ b < w.heap.size ∧ w.cell? ⟨b, o + i * 8, none⟩ = some (.int .i64 xs[i].kind) ∧ w.cell? ⟨b, o + i * 8 + 1, none⟩ = some (.int .i64 xs[i].task) ∧ w.cell? ⟨b, o + i * 8 + 2, none⟩ = some (.int .i64 xs[i].job.task) ∧ w.cell? ⟨b, o + i * 8 + 3, none⟩ = some (.int .i64 xs[i].job.release) ∧ w.cell? ⟨b, o + i * 8 + 4, none⟩ = some (.int .i64 xs[i].job.deadline) ∧ w.cell? ⟨b, o + i * 8 + 5, none⟩ = some (.int .i64 xs[i].job.left) ∧ w.cell? ⟨b, o + i * 8 + 6, none⟩ = some (.int .i64 xs[i].job.real) ∧ w.cell? ⟨b, o + i * 8 + 7, none⟩ = some (.bool xs[i].job.started) := by
  obtain ⟨b, o, e, g⟩ := h.cells 8 ROpV.enc_len (by omega) i hi
  exact ⟨b, o, e, World.block_lt_of_cell? w _ (g 0 _ rfl), g 0 _ rfl, g 1 _ rfl, g 2 _ rfl, g 3 _ rfl, g 4 _ rfl, g 5 _ rfl, g 6 _ rfl, g 7 _ rfl⟩
theorem ROpsOk.ext {w w' : World} {s : Sl ROpV} (h : ROpsOk w s) (hb : Ext w w') : ROpsOk w' s := Sl.Ok.ext h hb (fun _ q => q.ext hb)
structure ROpV.Arg (w : World) (x : ROpV) : Prop where
  ok : x.Ok w
  jobA : x.job.Arg w

structure StepV where
  kind : Int
  A : Int
  B : Int
  C : Int
  task : TaskV
def StepV.enc (x : StepV) : List Value := [.int .i64 x.kind, .int .i64 x.A, .int .i64 x.B, .int .i64 x.C, .int .i64 x.task.period, .int .i64 x.task.cycles, .slice x.task.sec.A x.task.sec.xs.length x.task.sec.c, .slice x.task.devs.A x.task.devs.xs.length x.task.devs.c]
theorem StepV.enc_len (x : StepV) : x.enc.length = 8 := rfl
def StepV.val (x : StepV) : Value := .agg #[.int .i64 x.kind, .int .i64 x.A, .int .i64 x.B, .int .i64 x.C, .int .i64 x.task.period, .int .i64 x.task.cycles, .slice x.task.sec.A x.task.sec.xs.length x.task.sec.c, .slice x.task.devs.A x.task.devs.xs.length x.task.devs.c]
def StepV.arr (x : StepV) : Array Value := #[.int .i64 x.kind, .int .i64 x.A, .int .i64 x.B, .int .i64 x.C, .int .i64 x.task.period, .int .i64 x.task.cycles, .slice x.task.sec.A x.task.sec.xs.length x.task.sec.c, .slice x.task.devs.A x.task.devs.xs.length x.task.devs.c]
theorem StepV.boxed (w : World) (x : StepV) (t : TypeId) : (w.alloc (.cells x.arr t)).cell? ⟨w.heap.size, 0, none⟩ = some (.int .i64 x.kind) ∧ (w.alloc (.cells x.arr t)).cell? ⟨w.heap.size, 1, none⟩ = some (.int .i64 x.A) ∧ (w.alloc (.cells x.arr t)).cell? ⟨w.heap.size, 2, none⟩ = some (.int .i64 x.B) ∧ (w.alloc (.cells x.arr t)).cell? ⟨w.heap.size, 3, none⟩ = some (.int .i64 x.C) ∧ (w.alloc (.cells x.arr t)).cell? ⟨w.heap.size, 4, none⟩ = some (.int .i64 x.task.period) ∧ (w.alloc (.cells x.arr t)).cell? ⟨w.heap.size, 5, none⟩ = some (.int .i64 x.task.cycles) ∧ (w.alloc (.cells x.arr t)).cell? ⟨w.heap.size, 6, none⟩ = some (.slice x.task.sec.A x.task.sec.xs.length x.task.sec.c) ∧ (w.alloc (.cells x.arr t)).cell? ⟨w.heap.size, 7, none⟩ = some (.slice x.task.devs.A x.task.devs.xs.length x.task.devs.c) :=
  ⟨new_cell w _ t 0 _ rfl, new_cell w _ t 1 _ rfl, new_cell w _ t 2 _ rfl, new_cell w _ t 3 _ rfl, new_cell w _ t 4 _ rfl, new_cell w _ t 5 _ rfl, new_cell w _ t 6 _ rfl, new_cell w _ t 7 _ rfl⟩
structure StepV.Ok (w : World) (x : StepV) : Prop where
  kind : I64 x.kind
  A : I64 x.A
  B : I64 x.B
  C : I64 x.C
  task : x.task.Ok w
theorem StepV.Ok.ext {w w' : World} {x : StepV} (h : x.Ok w) (hb : Ext w w') : x.Ok w' := ⟨h.kind, h.A, h.B, h.C, h.task.ext hb⟩
abbrev StepsOk (w : World) (s : Sl StepV) : Prop := s.Ok StepV.enc StepV.Ok 96 w
theorem StepV.row {w : World} {A : Option Addr} {xs : List StepV} (h : Row w A (xs.flatMap StepV.enc)) (i : Nat) (hi : i < xs.length) :
    ∃ b o, A = some ⟨b, o, none⟩ ∧ b < w.heap.size ∧ w.cell? ⟨b, o + i * 8, none⟩ = some (.int .i64 xs[i].kind) ∧ w.cell? ⟨b, o + i * 8 + 1, none⟩ = some (.int .i64 xs[i].A) ∧ w.cell? ⟨b, o + i * 8 + 2, none⟩ = some (.int .i64 xs[i].B) ∧ w.cell? ⟨b, o + i * 8 + 3, none⟩ = some (.int .i64 xs[i].C) ∧ w.cell? ⟨b, o + i * 8 + 4, none⟩ = some (.int .i64 xs[i].task.period) ∧ w.cell? ⟨b, o + i * 8 + 5, none⟩ = some (.int .i64 xs[i].task.cycles) ∧ w.cell? ⟨b, o + i * 8 + 6, none⟩ = some (.slice xs[i].task.sec.A xs[i].task.sec.xs.length xs[i].task.sec.c) ∧ w.cell? ⟨b, o + i * 8 + 7, none⟩ = some (.slice xs[i].task.devs.A xs[i].task.devs.xs.length xs[i].task.devs.c) := by
  obtain ⟨b, o, e, g⟩ := h.cells 8 StepV.enc_len (by omega) i hi
  exact ⟨b, o, e, World.block_lt_of_cell? w _ (g 0 _ rfl), g 0 _ rfl, g 1 _ rfl, g 2 _ rfl, g 3 _ rfl, g 4 _ rfl, g 5 _ rfl, g 6 _ rfl, g 7 _ rfl⟩
theorem StepsOk.ext {w w' : World} {s : Sl StepV} (h : StepsOk w s) (hb : Ext w w') : StepsOk w' s := Sl.Ok.ext h hb (fun _ q => q.ext hb)
structure StepV.Arg (w : World) (x : StepV) : Prop where
  ok : x.Ok w
  taskA : x.task.Arg w

structure EventV where
  kind : Int
  task : Int
  mom : Int
  due : Int
def EventV.enc (x : EventV) : List Value := [.int .i64 x.kind, .int .i64 x.task, .int .i64 x.mom, .int .i64 x.due]
theorem EventV.enc_len (x : EventV) : x.enc.length = 4 := rfl
def EventV.val (x : EventV) : Value := .agg #[.int .i64 x.kind, .int .i64 x.task, .int .i64 x.mom, .int .i64 x.due]
def EventV.arr (x : EventV) : Array Value := #[.int .i64 x.kind, .int .i64 x.task, .int .i64 x.mom, .int .i64 x.due]
theorem EventV.boxed (w : World) (x : EventV) (t : TypeId) : (w.alloc (.cells x.arr t)).cell? ⟨w.heap.size, 0, none⟩ = some (.int .i64 x.kind) ∧ (w.alloc (.cells x.arr t)).cell? ⟨w.heap.size, 1, none⟩ = some (.int .i64 x.task) ∧ (w.alloc (.cells x.arr t)).cell? ⟨w.heap.size, 2, none⟩ = some (.int .i64 x.mom) ∧ (w.alloc (.cells x.arr t)).cell? ⟨w.heap.size, 3, none⟩ = some (.int .i64 x.due) :=
  ⟨new_cell w _ t 0 _ rfl, new_cell w _ t 1 _ rfl, new_cell w _ t 2 _ rfl, new_cell w _ t 3 _ rfl⟩
structure EventV.Ok (w : World) (x : EventV) : Prop where
  kind : I64 x.kind
  task : I64 x.task
  mom : I64 x.mom
  due : I64 x.due
theorem EventV.Ok.ext {w w' : World} {x : EventV} (h : x.Ok w) (hb : Ext w w') : x.Ok w' := ⟨h.kind, h.task, h.mom, h.due⟩
abbrev EventsOk (w : World) (s : Sl EventV) : Prop := s.Ok EventV.enc EventV.Ok 32 w
theorem EventV.row {w : World} {A : Option Addr} {xs : List EventV} (h : Row w A (xs.flatMap EventV.enc)) (i : Nat) (hi : i < xs.length) :
    ∃ b o, A = some ⟨b, o, none⟩ ∧ b < w.heap.size ∧ w.cell? ⟨b, o + i * 4, none⟩ = some (.int .i64 xs[i].kind) ∧ w.cell? ⟨b, o + i * 4 + 1, none⟩ = some (.int .i64 xs[i].task) ∧ w.cell? ⟨b, o + i * 4 + 2, none⟩ = some (.int .i64 xs[i].mom) ∧ w.cell? ⟨b, o + i * 4 + 3, none⟩ = some (.int .i64 xs[i].due) := by
  obtain ⟨b, o, e, g⟩ := h.cells 4 EventV.enc_len (by omega) i hi
  exact ⟨b, o, e, World.block_lt_of_cell? w _ (g 0 _ rfl), g 0 _ rfl, g 1 _ rfl, g 2 _ rfl, g 3 _ rfl⟩
theorem EventsOk.ext {w w' : World} {s : Sl EventV} (h : EventsOk w s) (hb : Ext w w') : EventsOk w' s := Sl.Ok.ext h hb (fun _ q => q.ext hb)
structure EventV.Arg (w : World) (x : EventV) : Prop where
  ok : x.Ok w

end Go.Proofs.Ytfaeemahdkobfaa
