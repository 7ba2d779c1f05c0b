/- part 1 of the proof: contracts of the functions that the law reaches, and plain laws. -/
import Derived.WalkKit
import Derived.Lib.Hide
import Derived.SizedLaws
import Derived.ChangeArms
import Derived.DataReads
import Derived.ChangeSlices
import Derived.WideShapes
import Derived.Deep.Draws
import Derived.Test.YtflgnpidelkkpaaGreatProg
import Derived.KernelRfl
namespace Go.Proofs.YtflgnpidelkkpaaGreat
set_option maxRecDepth 8000
open Go.RowKit
def I64 (n : Int) : Prop := -9223372036854775808 ≤ n ∧ n ≤ 9223372036854775807
def Ext (w w' : World) : Prop := Below w.heap.size w w'
def Row (w : World) (A : Option Addr) (cs : List Value) : Prop :=
  ∀ j v, cs[j]? = some v → ∃ b o, A = some ⟨b, o, none⟩ ∧ w.cell? ⟨b, o + j, none⟩ = some v
theorem Row.nil (w : World) (A : Option Addr) : Row w A [] := fun j v h => by simp at h
theorem flat_get {α : Type} (f : α → List Value) (sz : Nat) (hsz : ∀ x, (f x).length = sz) : ∀ (xs : List α) (i j : Nat) (x : α) (v : Value),
    xs[i]? = some x → (f x)[j]? = some v → (xs.flatMap f)[i * sz + j]? = some v := by
  intro xs
  induction xs with
  | nil => intro i j x v h; simp at h
  | cons y ys ih =>
    intro i j x v h hj
    have hlt : j < sz := by have := (List.getElem?_eq_some_iff.1 hj).1; rw [hsz] at this; exact this
    cases i with
    | zero =>
      simp only [List.getElem?_cons_zero, Option.some.injEq] at h
      subst h
      rw [List.flatMap_cons, List.getElem?_append_left (by rw [hsz]; omega)]
      simpa using hj
    | succ i =>
      simp only [List.getElem?_cons_succ] at h
      rw [List.flatMap_cons, List.getElem?_append_right (by rw [hsz, Nat.add_mul]; omega)]
      have := ih i j x v h hj
      rw [hsz]
      have e : (i + 1) * sz + j - sz = i * sz + j := by rw [Nat.add_mul]; omega
      rw [e]; exact this
theorem flat_len {α : Type} (f : α → List Value) (sz : Nat) (hsz : ∀ x, (f x).length = sz) (xs : List α) : (xs.flatMap f).length = xs.length * sz := by
  induction xs with
  | nil => simp
  | cons y ys ih => rw [List.flatMap_cons, List.length_append, ih, hsz, List.length_cons, Nat.add_mul]; omega
theorem flat_inv {α : Type} (f : α → List Value) (sz : Nat) (hpos : 0 < sz) (hsz : ∀ x, (f x).length = sz) (xs : List α) (j : Nat) (v : Value) (h : (xs.flatMap f)[j]? = some v) :
    ∃ x, xs[j / sz]? = some x ∧ (f x)[j % sz]? = some v := by
  have hl := (List.getElem?_eq_some_iff.1 h).1
  rw [flat_len f sz hsz] at hl
  have hi : j / sz < xs.length := by rw [Nat.div_lt_iff_lt_mul hpos]; exact hl
  have hm : j % sz < (f xs[j / sz]).length := by rw [hsz]; exact Nat.mod_lt _ hpos
  refine ⟨xs[j / sz], List.getElem?_eq_getElem hi, ?_⟩
  have := flat_get f sz hsz xs (j / sz) (j % sz) xs[j / sz] _ (List.getElem?_eq_getElem hi) (List.getElem?_eq_getElem hm)
  rw [Nat.mul_comm, Nat.div_add_mod, h] at this
  rw [List.getElem?_eq_getElem hm, this]
structure Sl (α : Type) where
  A : Option Addr
  c : Nat
  xs : List α
def Sl.val {α : Type} (s : Sl α) : Value := .slice s.A s.xs.length s.c
structure Sl.Ok {α : Type} (enc : α → List Value) (ok : World → α → Prop) (bytes : Nat) (w : World) (s : Sl α) : Prop where
  row : Row w s.A (s.xs.flatMap enc)
  each : ∀ x ∈ s.xs, ok w x
  cap : s.xs.length ≤ s.c
  fit : s.xs.length * bytes ≤ 140737488351232
def encI (n : Int) : List Value := [.int .i64 n]
def okI (_ : World) (n : Int) : Prop := I64 n
theorem encI_len (n : Int) : (encI n).length = 1 := rfl
def Opens (P : Program) (t : TypeId) {α : Type} (enc : α → List Value) (ok : World → α → Prop) : Prop :=
  ∀ (H : Type) (e : TypeId × Value → H) (w : World) (fuel : Nat) (cs : List Value) (x : DataW H × List MemPlace), DataW.trod e P w 0 (fun _ => true) true fuel t cs = some x →
    (x.1.weights P t).all (· ≤ reachBytes) = true → ∃ a, cs = enc a ∧ ok w a
theorem opens_int {P : Program} {t : TypeId} (ht : P.underlying t = some (.int .i64)) : Opens P t encI okI := by
  intro H e w fuel cs x h _
  obtain ⟨n, rfl, _, hw⟩ := DataW.trod_int ht h
  exact ⟨n, rfl, by
    simp only [Lit.wf, Bool.and_eq_true, decide_eq_true_eq] at hw
    exact hw⟩
theorem weightsAll_mem {H : Type} {P : Program} {e : TypeId} {q : Nat → Bool} : ∀ {ds : List (DataW H)}, (DataW.weightsAll P e ds).all q = true → ∀ d ∈ ds, (d.weights P e).all q = true := by
  intro ds
  induction ds with
  | nil => intro _ d hd; simp at hd
  | cons y ys ih =>
    intro h d hd
    simp only [DataW.weightsAll, List.all_append, Bool.and_eq_true] at h
    rcases List.mem_cons.1 hd with rfl | hd
    · exact h.1
    · exact ih h.2 d hd
theorem opens_slice {P : Program} {t e : TypeId} {α : Type} {enc : α → List Value} {ok : World → α → Prop} (sz bytes : Nat) (ht : P.underlying t = some (.slice e)) (hc : P.cellsOf e = sz) (hb : P.bytesOf e = bytes)
    (hp : 0 < sz) (hsz : ∀ a, (enc a).length = sz) (he : Opens P e enc ok) :
    Opens P t (fun s : Sl α => [s.val]) (fun w s => s.Ok enc ok bytes w ∧ s.c * bytes ≤ 140737488351232) := by
  intro H en w fuel cs x h hz
  rcases DataW.trod_slice ht h with ⟨rfl, _⟩ | ⟨a, len, cap, elems, rest, n, rfl, rfl, rfl, _, hl, hm, hlen, hel, hsp, _⟩
  · exact ⟨⟨none, 0, []⟩, rfl, ⟨Row.nil _ _, by simp, by simp, by simp⟩, by simp⟩
  · have hr := (hsp rfl).1
    simp only [DataW.weights, ht, List.all_cons, Bool.and_eq_true, List.all_append, List.length_map, hb, hlen, hr, reachBytes] at hz
    obtain ⟨hz0, hz1, _⟩ := hz
    replace hz0 := of_decide_eq_true hz0
    rw [show len + (cap - len) = cap by omega] at hz0
    have key : ∀ i, i < len → ∃ a', (∃ cs', w.cells? 0 (a.add (i * sz)) sz = some cs' ∧ cs' = enc a') ∧ ok w a' := by
      intro i hi
      have h1 := hel i hi
      rw [List.getElem?_eq_getElem (by omega)] at h1
      obtain ⟨cs', h2, h3⟩ := Option.bind_eq_some_iff.1 h1
      obtain ⟨a', rfl, h4⟩ := he H en w n cs' _ h3 (weightsAll_mem hz1 _ (List.mem_map_of_mem (List.getElem_mem _)))
      rw [hc] at h2
      exact ⟨a', ⟨_, h2, rfl⟩, h4⟩
    obtain ⟨xs, hxl, hxs⟩ : ∃ xs : List α, xs.length = len ∧ ∀ i x, xs[i]? = some x → (w.cells? 0 (a.add (i * sz)) sz = some (enc x)) ∧ ok w x := by
      clear hel hsp hz0 hz1 hr hlen h
      clear hl
      induction len with
      | zero => exact ⟨[], rfl, by simp⟩
      | succ m ih =>
        obtain ⟨xs, h1, h2⟩ := ih (fun i hi => key i (by omega))
        obtain ⟨a', ⟨cs', h3, rfl⟩, h4⟩ := key m (by omega)
        refine ⟨xs ++ [a'], by simp [h1], fun i x hx => ?_⟩
        rcases Nat.lt_or_ge i xs.length with hi | hi
        · rw [List.getElem?_append_left hi] at hx
          exact h2 i x hx
        · rw [List.getElem?_append_right hi] at hx
          have : i - xs.length = 0 := by
            rcases Nat.eq_zero_or_pos (i - xs.length) with h | h
            · exact h
            · rw [List.getElem?_eq_none (by simp; omega)] at hx; cases hx
          rw [this] at hx
          simp only [List.getElem?_cons_zero, Option.some.injEq] at hx
          subst hx
          obtain rfl : i = m := by omega
          exact ⟨h3, h4⟩
    refine ⟨⟨some a, cap, xs⟩, by simp [Sl.val, hxl], ⟨fun j v hj => ?_, fun x hx => ?_, by simp only; omega, ?_⟩, hz0⟩
    · obtain ⟨x, h1, h2⟩ := flat_inv enc sz hp hsz xs j v hj
      obtain ⟨h3, _⟩ := hxs _ _ h1
      obtain ⟨_, h4, h5⟩ := World.cells?_some h3
      have hlt : j % sz < sz := Nat.mod_lt _ hp
      have h6 := h5 (j % sz) hlt
      rw [h2] at h6
      have hadd : (a.add (j / sz * sz)).add (j % sz) = a.add j := by
        have e : j / sz * sz + j % sz = j := by rw [Nat.mul_comm]; exact Nat.div_add_mod j sz
        unfold Addr.add
        by_cases q1 : j / sz * sz = 0 <;> by_cases q2 : j % sz = 0
        · simp only [q1, q2, if_true]; rw [if_pos (by omega)]
        · simp only [q1, q2, if_true, if_false]; rw [if_neg (by omega)]; congr 1; omega
        · simp only [q1, q2, if_true, if_false]; rw [if_neg (by omega)]; congr 1; omega
        · simp only [q1, q2, if_false]; rw [if_neg (by omega)]; simp only [Nat.add_assoc, e]
      rw [hadd] at h6
      have hspot := World.cell?_spot h6
      obtain ⟨b, o, sp⟩ := a
      by_cases hj0 : j = 0
      · subst hj0
        simp only [Addr.add, if_true] at h6 hspot
        subst hspot
        exact ⟨b, o, rfl, h6⟩
      · have h7 := hxs 0 _ (List.getElem?_eq_getElem (show 0 < xs.length from Nat.lt_of_le_of_lt (Nat.zero_le _) (List.getElem?_eq_some_iff.1 h1).1))
        obtain ⟨_, h8, h9⟩ := World.cells?_some h7.1
        have h10 := h9 0 hp
        rw [List.getElem?_eq_getElem (by rw [hsz]; exact hp)] at h10
        have h11 := World.cell?_spot h10
        simp only [Nat.zero_mul, Addr.add, if_true] at h11
        subst h11
        simp only [Addr.add, if_neg hj0] at h6
        exact ⟨b, o, rfl, h6⟩
    · obtain ⟨i, hi, rfl⟩ := List.mem_iff_getElem.1 hx
      exact (hxs i _ (List.getElem?_eq_getElem hi)).2
    · simp only [hxl]
      exact Nat.le_trans (Nat.mul_le_mul_right _ hl) (Nat.le_trans hz0 (by decide))
theorem list2 {α : Type} {l : List α} (h : l.length = 2) : ∃ a b, l = [a, b] := by match l, h with | [a, b], _ => exact ⟨a, b, rfl⟩
theorem list4 {α : Type} {l : List α} (h : l.length = 4) : ∃ a b c d, l = [a, b, c, d] := by match l, h with | [a, b, c, d], _ => exact ⟨a, b, c, d, rfl⟩
theorem list5 {α : Type} {l : List α} (h : l.length = 5) : ∃ a b c d e, l = [a, b, c, d, e] := by match l, h with | [a, b, c, d, e], _ => exact ⟨a, b, c, d, e, rfl⟩
theorem list6 {α : Type} {l : List α} (h : l.length = 6) : ∃ a b c d e f, l = [a, b, c, d, e, f] := by match l, h with | [a, b, c, d, e, f], _ => exact ⟨a, b, c, d, e, f, rfl⟩
theorem list7 {α : Type} {l : List α} (h : l.length = 7) : ∃ a b c d e f g, l = [a, b, c, d, e, f, g] := by match l, h with | [a, b, c, d, e, f, g], _ => exact ⟨a, b, c, d, e, f, g, rfl⟩
theorem list9 {α : Type} {l : List α} (h : l.length = 9) : ∃ a b c d e f g i j, l = [a, b, c, d, e, f, g, i, j] := by match l, h with | [a, b, c, d, e, f, g, i, j], _ => exact ⟨a, b, c, d, e, f, g, i, j, rfl⟩
theorem list8 {α : Type} {l : List α} (h : l.length = 8) : ∃ a b c d e f g i, l = [a, b, c, d, e, f, g, i] := by match l, h with | [a, b, c, d, e, f, g, i], _ => exact ⟨a, b, c, d, e, f, g, i, rfl⟩
theorem each_all {H : Type} {P : Program} {q : Nat → Bool} {ts : List TypeId} {ds : List (DataW H)} (h : (DataW.weightsEach P ts ds).all q = true) {j : Nat} {t : TypeId} {d : DataW H} (ht : ts[j]? = some t) (hd : ds[j]? = some d) :
    (d.weights P t).all q = true := List.all_eq_true.2 fun n hn => List.all_eq_true.1 h n (DataW.weights_mem_each ht hd n hn)
theorem i64_of_wf {n : Int} (h : (Lit.int .i64 n).wf = true) : I64 n := by
  simp only [Lit.wf, Bool.and_eq_true, decide_eq_true_eq] at h
  exact h
theorem u8_of_wf {n : Int} (h : (Lit.int .u8 n).wf = true) : 0 ≤ n ∧ n ≤ 255 := by
  simp only [Lit.wf, Bool.and_eq_true, decide_eq_true_eq] at h
  exact h
theorem u16_of_wf {n : Int} (h : (Lit.int .u16 n).wf = true) : 0 ≤ n ∧ n ≤ 65535 := by
  simp only [Lit.wf, Bool.and_eq_true, decide_eq_true_eq] at h
  exact h
theorem slice_of_cells {α : Type} {A : Option Addr} {n c : Nat} {s : Sl α} (h : (Value.slice A n c).cells.toList = [s.val]) : Value.slice A n c = s.val := by simpa [Value.cells] using h
theorem agg_of_cells {cs : Array Value} {l : List Value} (h : (Value.agg cs).cells.toList = l) : Value.agg cs = .agg l.toArray := by
  simp only [Value.cells] at h
  subst h
  simp
end Go.Proofs.YtflgnpidelkkpaaGreat
namespace Go.Proofs.YtflgnpidelkkpaaGreat
set_option maxRecDepth 8000
open Go.RowKit
set_option linter.unusedVariables false
structure LevelV where
  P : Int
  E : Int
def LevelV.enc (x : LevelV) : List Value := [.int .i64 x.P, .int .i64 x.E]
theorem LevelV.enc_len (x : LevelV) : x.enc.length = 2 := rfl
structure LevelV.Ok (w : World) (x : LevelV) : Prop where
  P : I64 x.P
  E : I64 x.E
structure LevelV.Arg (w : World) (x : LevelV) : Prop where
  ok : x.Ok w
structure SleepV where
  power : Int
  enter : Int
  exit : Int
  enterE : Int
  exitE : Int
  even : Int
def SleepV.enc (x : SleepV) : List Value := [.int .i64 x.power, .int .i64 x.enter, .int .i64 x.exit, .int .i64 x.enterE, .int .i64 x.exitE, .int .i64 x.even]
theorem SleepV.enc_len (x : SleepV) : x.enc.length = 6 := rfl
structure SleepV.Ok (w : World) (x : SleepV) : Prop where
  power : I64 x.power
  enter : I64 x.enter
  exit : I64 x.exit
  enterE : I64 x.enterE
  exitE : I64 x.exitE
  even : I64 x.even
structure SleepV.Arg (w : World) (x : SleepV) : Prop where
  ok : x.Ok w
structure DeviceV where
  on : Int
  off : Int
  down : Int
  up : Int
  downE : Int
  upE : Int
  even : Int
def DeviceV.enc (x : DeviceV) : List Value := [.int .i64 x.on, .int .i64 x.off, .int .i64 x.down, .int .i64 x.up, .int .i64 x.downE, .int .i64 x.upE, .int .i64 x.even]
theorem DeviceV.enc_len (x : DeviceV) : x.enc.length = 7 := rfl
structure DeviceV.Ok (w : World) (x : DeviceV) : Prop where
  on : I64 x.on
  off : I64 x.off
  down : I64 x.down
  up : I64 x.up
  downE : I64 x.downE
  upE : I64 x.upE
  even : I64 x.even
structure DeviceV.Arg (w : World) (x : DeviceV) : Prop where
  ok : x.Ok w
structure PlatV where
  levels : Sl LevelV
  sleeps : Sl SleepV
  devices : Sl DeviceV
  idle : Int
  crit : Int
  switch : Int
  switchE : Int
  sems : Int
  horizon : Int
def PlatV.enc (x : PlatV) : List Value := [.slice x.levels.A x.levels.xs.length x.levels.c, .slice x.sleeps.A x.sleeps.xs.length x.sleeps.c, .slice x.devices.A x.devices.xs.length x.devices.c, .int .i64 x.idle, .int .i64 x.crit, .int .i64 x.switch, .int .i64 x.switchE, .int .i64 x.sems, .int .i64 x.horizon]
def PlatV.val (x : PlatV) : Value := .agg #[.slice x.levels.A x.levels.xs.length x.levels.c, .slice x.sleeps.A x.sleeps.xs.length x.sleeps.c, .slice x.devices.A x.devices.xs.length x.devices.c, .int .i64 x.idle, .int .i64 x.crit, .int .i64 x.switch, .int .i64 x.switchE, .int .i64 x.sems, .int .i64 x.horizon]
structure PlatV.Ok (w : World) (x : PlatV) : Prop where
  levels : x.levels.Ok LevelV.enc LevelV.Ok 16 w
  sleeps : x.sleeps.Ok SleepV.enc SleepV.Ok 48 w
  devices : x.devices.Ok DeviceV.enc DeviceV.Ok 56 w
  idle : I64 x.idle
  crit : I64 x.crit
  switch : I64 x.switch
  switchE : I64 x.switchE
  sems : I64 x.sems
  horizon : I64 x.horizon
structure PlatV.Arg (w : World) (x : PlatV) : Prop where
  ok : x.Ok w
  levelsC : x.levels.c * 16 ≤ 140737488351232
  sleepsC : x.sleeps.c * 48 ≤ 140737488351232
  devicesC : x.devices.c * 56 ≤ 140737488351232
structure TaskV where
  period : Int
  cycles : Int
  sec : Sl Int
  devs : Sl Int
def TaskV.enc (x : TaskV) : List Value := [.int .i64 x.period, .int .i64 x.cycles, .slice x.sec.A x.sec.xs.length x.sec.c, .slice x.devs.A x.devs.xs.length x.devs.c]
theorem TaskV.enc_len (x : TaskV) : x.enc.length = 4 := rfl
def TaskV.val (x : TaskV) : Value := .agg #[.int .i64 x.period, .int .i64 x.cycles, .slice x.sec.A x.sec.xs.length x.sec.c, .slice x.devs.A x.devs.xs.length x.devs.c]
structure TaskV.Ok (w : World) (x : TaskV) : Prop where
  period : I64 x.period
  cycles : I64 x.cycles
  sec : x.sec.Ok encI okI 8 w
  devs : x.devs.Ok encI okI 8 w
structure TaskV.Arg (w : World) (x : TaskV) : Prop where
  ok : x.Ok w
  secC : x.sec.c * 8 ≤ 140737488351232
  devsC : x.devs.c * 8 ≤ 140737488351232
structure JobV where
  task : Int
  release : Int
  deadline : Int
  left : Int
  real : Int
  started : Bool
def JobV.enc (x : JobV) : List Value := [.int .i64 x.task, .int .i64 x.release, .int .i64 x.deadline, .int .i64 x.left, .int .i64 x.real, .bool x.started]
theorem JobV.enc_len (x : JobV) : x.enc.length = 6 := rfl
structure HeldV where
  task : Int
  sem : Int
  left : Int
def HeldV.enc (x : HeldV) : List Value := [.int .i64 x.task, .int .i64 x.sem, .int .i64 x.left]
theorem HeldV.enc_len (x : HeldV) : x.enc.length = 3 := rfl
structure IntervalV where
  kind : Int
  start : Int
  len : Int
  arg : Int
  task : Int
  cycles : Int
def IntervalV.enc (x : IntervalV) : List Value := [.int .i64 x.kind, .int .i64 x.start, .int .i64 x.len, .int .i64 x.arg, .int .i64 x.task, .int .i64 x.cycles]
theorem IntervalV.enc_len (x : IntervalV) : x.enc.length = 6 := rfl
def IntervalV.val (x : IntervalV) : Value := .agg #[.int .i64 x.kind, .int .i64 x.start, .int .i64 x.len, .int .i64 x.arg, .int .i64 x.task, .int .i64 x.cycles]
structure TimerV where
  id : Int
  mom : Int
  every : Int
structure StepV where
  kind : Int
  A : Int
  B : Int
  C : Int
  task : TaskV
def StepV.enc (x : StepV) : List Value := [.int .i64 x.kind, .int .i64 x.A, .int .i64 x.B, .int .i64 x.C, .int .i64 x.task.period, .int .i64 x.task.cycles, .slice x.task.sec.A x.task.sec.xs.length x.task.sec.c, .slice x.task.devs.A x.task.devs.xs.length x.task.devs.c]
theorem StepV.enc_len (x : StepV) : x.enc.length = 8 := rfl
def StepV.val (x : StepV) : Value := .agg #[.int .i64 x.kind, .int .i64 x.A, .int .i64 x.B, .int .i64 x.C, .int .i64 x.task.period, .int .i64 x.task.cycles, .slice x.task.sec.A x.task.sec.xs.length x.task.sec.c, .slice x.task.devs.A x.task.devs.xs.length x.task.devs.c]
structure StepV.Ok (w : World) (x : StepV) : Prop where
  kind : I64 x.kind
  A : I64 x.A
  B : I64 x.B
  C : I64 x.C
  task : x.task.Ok w
structure StepV.Arg (w : World) (x : StepV) : Prop where
  ok : x.Ok w
  taskA : x.task.Arg w
structure EventV where
  kind : Int
  task : Int
  mom : Int
  due : Int
def EventV.enc (x : EventV) : List Value := [.int .i64 x.kind, .int .i64 x.task, .int .i64 x.mom, .int .i64 x.due]
theorem EventV.enc_len (x : EventV) : x.enc.length = 4 := rfl
end Go.Proofs.YtflgnpidelkkpaaGreat
namespace Go.Proofs.YtflgnpidelkkpaaGreat
open Go.RowKit
set_option maxRecDepth 10000
theorem Tryz.cells_int : Tryz.prog.cellsOf 3 = 1 := by kernel_rfl
theorem Tryz.bytes_int : Tryz.prog.bytesOf 3 = 8 := by kernel_rfl
theorem Tryz.cells_LevelV : Tryz.prog.cellsOf 64 = 2 := by kernel_rfl
theorem Tryz.bytes_LevelV : Tryz.prog.bytesOf 64 = 16 := by kernel_rfl
theorem opens_LevelV : Opens Tryz.prog 64 LevelV.enc LevelV.Arg := by
  intro H e w fuel cs x h hz
  obtain ⟨xs, n, rfl, rfl, hl, hn, hf⟩ := DataW.trod_struct Tryz.underlying64 h
  rw [Tryz.cells_LevelV] at hl
  obtain ⟨c0, c1, rfl⟩ := list2 hl
  obtain ⟨x0, x1, rfl⟩ := list2 (show xs.length = 2 from hn)
  have f0 : DataW.trod e Tryz.prog w 0 (fun _ => true) true n 3 [c0] = some x0 := hf 0 _ rfl
  have f1 : DataW.trod e Tryz.prog w 0 (fun _ => true) true n 3 [c1] = some x1 := hf 1 _ rfl
  simp only [DataW.weights, Tryz.underlying64, DataW.weightsEach, List.map_cons, List.map_nil, List.all_append, Bool.and_eq_true, List.all_nil] at hz
  obtain ⟨z0, z1, _⟩ := hz
  obtain ⟨a0, e0, k0⟩ := (opens_int Tryz.underlying3) H e w n _ _ f0 z0
  obtain rfl := List.head_eq_of_cons_eq e0
  obtain ⟨a1, e1, k1⟩ := (opens_int Tryz.underlying3) H e w n _ _ f1 z1
  obtain rfl := List.head_eq_of_cons_eq e1
  exact ⟨⟨a0, a1⟩, rfl, ⟨⟨k0, k1⟩⟩⟩
theorem Tryz.cells_SleepV : Tryz.prog.cellsOf 84 = 6 := by kernel_rfl
theorem Tryz.bytes_SleepV : Tryz.prog.bytesOf 84 = 48 := by kernel_rfl
theorem opens_SleepV : Opens Tryz.prog 84 SleepV.enc SleepV.Arg := by
  intro H e w fuel cs x h hz
  obtain ⟨xs, n, rfl, rfl, hl, hn, hf⟩ := DataW.trod_struct Tryz.underlying84 h
  rw [Tryz.cells_SleepV] at hl
  obtain ⟨c0, c1, c2, c3, c4, c5, rfl⟩ := list6 hl
  obtain ⟨x0, x1, x2, x3, x4, x5, rfl⟩ := list6 (show xs.length = 6 from hn)
  have f0 : DataW.trod e Tryz.prog w 0 (fun _ => true) true n 3 [c0] = some x0 := hf 0 _ rfl
  have f1 : DataW.trod e Tryz.prog w 0 (fun _ => true) true n 3 [c1] = some x1 := hf 1 _ rfl
  have f2 : DataW.trod e Tryz.prog w 0 (fun _ => true) true n 3 [c2] = some x2 := hf 2 _ rfl
  have f3 : DataW.trod e Tryz.prog w 0 (fun _ => true) true n 3 [c3] = some x3 := hf 3 _ rfl
  have f4 : DataW.trod e Tryz.prog w 0 (fun _ => true) true n 3 [c4] = some x4 := hf 4 _ rfl
  have f5 : DataW.trod e Tryz.prog w 0 (fun _ => true) true n 3 [c5] = some x5 := hf 5 _ rfl
  simp only [DataW.weights, Tryz.underlying84, DataW.weightsEach, List.map_cons, List.map_nil, List.all_append, Bool.and_eq_true, List.all_nil] at hz
  obtain ⟨z0, z1, z2, z3, z4, z5, _⟩ := hz
  obtain ⟨a0, e0, k0⟩ := (opens_int Tryz.underlying3) H e w n _ _ f0 z0
  obtain rfl := List.head_eq_of_cons_eq e0
  obtain ⟨a1, e1, k1⟩ := (opens_int Tryz.underlying3) H e w n _ _ f1 z1
  obtain rfl := List.head_eq_of_cons_eq e1
  obtain ⟨a2, e2, k2⟩ := (opens_int Tryz.underlying3) H e w n _ _ f2 z2
  obtain rfl := List.head_eq_of_cons_eq e2
  obtain ⟨a3, e3, k3⟩ := (opens_int Tryz.underlying3) H e w n _ _ f3 z3
  obtain rfl := List.head_eq_of_cons_eq e3
  obtain ⟨a4, e4, k4⟩ := (opens_int Tryz.underlying3) H e w n _ _ f4 z4
  obtain rfl := List.head_eq_of_cons_eq e4
  obtain ⟨a5, e5, k5⟩ := (opens_int Tryz.underlying3) H e w n _ _ f5 z5
  obtain rfl := List.head_eq_of_cons_eq e5
  exact ⟨⟨a0, a1, a2, a3, a4, a5⟩, rfl, ⟨⟨k0, k1, k2, k3, k4, k5⟩⟩⟩
theorem Tryz.cells_DeviceV : Tryz.prog.cellsOf 86 = 7 := by kernel_rfl
theorem Tryz.bytes_DeviceV : Tryz.prog.bytesOf 86 = 56 := by kernel_rfl
theorem opens_DeviceV : Opens Tryz.prog 86 DeviceV.enc DeviceV.Arg := by
  intro H e w fuel cs x h hz
  obtain ⟨xs, n, rfl, rfl, hl, hn, hf⟩ := DataW.trod_struct Tryz.underlying86 h
  rw [Tryz.cells_DeviceV] at hl
  obtain ⟨c0, c1, c2, c3, c4, c5, c6, rfl⟩ := list7 hl
  obtain ⟨x0, x1, x2, x3, x4, x5, x6, rfl⟩ := list7 (show xs.length = 7 from hn)
  have f0 : DataW.trod e Tryz.prog w 0 (fun _ => true) true n 3 [c0] = some x0 := hf 0 _ rfl
  have f1 : DataW.trod e Tryz.prog w 0 (fun _ => true) true n 3 [c1] = some x1 := hf 1 _ rfl
  have f2 : DataW.trod e Tryz.prog w 0 (fun _ => true) true n 3 [c2] = some x2 := hf 2 _ rfl
  have f3 : DataW.trod e Tryz.prog w 0 (fun _ => true) true n 3 [c3] = some x3 := hf 3 _ rfl
  have f4 : DataW.trod e Tryz.prog w 0 (fun _ => true) true n 3 [c4] = some x4 := hf 4 _ rfl
  have f5 : DataW.trod e Tryz.prog w 0 (fun _ => true) true n 3 [c5] = some x5 := hf 5 _ rfl
  have f6 : DataW.trod e Tryz.prog w 0 (fun _ => true) true n 3 [c6] = some x6 := hf 6 _ rfl
  simp only [DataW.weights, Tryz.underlying86, DataW.weightsEach, List.map_cons, List.map_nil, List.all_append, Bool.and_eq_true, List.all_nil] at hz
  obtain ⟨z0, z1, z2, z3, z4, z5, z6, _⟩ := hz
  obtain ⟨a0, e0, k0⟩ := (opens_int Tryz.underlying3) H e w n _ _ f0 z0
  obtain rfl := List.head_eq_of_cons_eq e0
  obtain ⟨a1, e1, k1⟩ := (opens_int Tryz.underlying3) H e w n _ _ f1 z1
  obtain rfl := List.head_eq_of_cons_eq e1
  obtain ⟨a2, e2, k2⟩ := (opens_int Tryz.underlying3) H e w n _ _ f2 z2
  obtain rfl := List.head_eq_of_cons_eq e2
  obtain ⟨a3, e3, k3⟩ := (opens_int Tryz.underlying3) H e w n _ _ f3 z3
  obtain rfl := List.head_eq_of_cons_eq e3
  obtain ⟨a4, e4, k4⟩ := (opens_int Tryz.underlying3) H e w n _ _ f4 z4
  obtain rfl := List.head_eq_of_cons_eq e4
  obtain ⟨a5, e5, k5⟩ := (opens_int Tryz.underlying3) H e w n _ _ f5 z5
  obtain rfl := List.head_eq_of_cons_eq e5
  obtain ⟨a6, e6, k6⟩ := (opens_int Tryz.underlying3) H e w n _ _ f6 z6
  obtain rfl := List.head_eq_of_cons_eq e6
  exact ⟨⟨a0, a1, a2, a3, a4, a5, a6⟩, rfl, ⟨⟨k0, k1, k2, k3, k4, k5, k6⟩⟩⟩
theorem Tryz.cells_PlatV : Tryz.prog.cellsOf 26 = 9 := by kernel_rfl
theorem opens_PlatV : Opens Tryz.prog 26 PlatV.enc PlatV.Arg := by
  intro H e w fuel cs x h hz
  obtain ⟨xs, n, rfl, rfl, hl, hn, hf⟩ := DataW.trod_struct Tryz.underlying26 h
  rw [Tryz.cells_PlatV] at hl
  obtain ⟨c0, c1, c2, c3, c4, c5, c6, c7, c8, rfl⟩ := list9 hl
  obtain ⟨x0, x1, x2, x3, x4, x5, x6, x7, x8, rfl⟩ := list9 (show xs.length = 9 from hn)
  have f0 : DataW.trod e Tryz.prog w 0 (fun _ => true) true n 22 [c0] = some x0 := hf 0 _ rfl
  have f1 : DataW.trod e Tryz.prog w 0 (fun _ => true) true n 23 [c1] = some x1 := hf 1 _ rfl
  have f2 : DataW.trod e Tryz.prog w 0 (fun _ => true) true n 24 [c2] = some x2 := hf 2 _ rfl
  have f3 : DataW.trod e Tryz.prog w 0 (fun _ => true) true n 3 [c3] = some x3 := hf 3 _ rfl
  have f4 : DataW.trod e Tryz.prog w 0 (fun _ => true) true n 3 [c4] = some x4 := hf 4 _ rfl
  have f5 : DataW.trod e Tryz.prog w 0 (fun _ => true) true n 3 [c5] = some x5 := hf 5 _ rfl
  have f6 : DataW.trod e Tryz.prog w 0 (fun _ => true) true n 3 [c6] = some x6 := hf 6 _ rfl
  have f7 : DataW.trod e Tryz.prog w 0 (fun _ => true) true n 3 [c7] = some x7 := hf 7 _ rfl
  have f8 : DataW.trod e Tryz.prog w 0 (fun _ => true) true n 3 [c8] = some x8 := hf 8 _ rfl
  simp only [DataW.weights, Tryz.underlying26, DataW.weightsEach, List.map_cons, List.map_nil, List.all_append, Bool.and_eq_true, List.all_nil] at hz
  obtain ⟨z0, z1, z2, z3, z4, z5, z6, z7, z8, _⟩ := hz
  obtain ⟨a0, e0, k0⟩ := (opens_slice 2 16 Tryz.underlying22 Tryz.cells_LevelV Tryz.bytes_LevelV (by omega) LevelV.enc_len opens_LevelV) H e w n _ _ f0 z0
  obtain rfl := List.head_eq_of_cons_eq e0
  obtain ⟨a1, e1, k1⟩ := (opens_slice 6 48 Tryz.underlying23 Tryz.cells_SleepV Tryz.bytes_SleepV (by omega) SleepV.enc_len opens_SleepV) H e w n _ _ f1 z1
  obtain rfl := List.head_eq_of_cons_eq e1
  obtain ⟨a2, e2, k2⟩ := (opens_slice 7 56 Tryz.underlying24 Tryz.cells_DeviceV Tryz.bytes_DeviceV (by omega) DeviceV.enc_len opens_DeviceV) H e w n _ _ f2 z2
  obtain rfl := List.head_eq_of_cons_eq e2
  obtain ⟨a3, e3, k3⟩ := (opens_int Tryz.underlying3) H e w n _ _ f3 z3
  obtain rfl := List.head_eq_of_cons_eq e3
  obtain ⟨a4, e4, k4⟩ := (opens_int Tryz.underlying3) H e w n _ _ f4 z4
  obtain rfl := List.head_eq_of_cons_eq e4
  obtain ⟨a5, e5, k5⟩ := (opens_int Tryz.underlying3) H e w n _ _ f5 z5
  obtain rfl := List.head_eq_of_cons_eq e5
  obtain ⟨a6, e6, k6⟩ := (opens_int Tryz.underlying3) H e w n _ _ f6 z6
  obtain rfl := List.head_eq_of_cons_eq e6
  obtain ⟨a7, e7, k7⟩ := (opens_int Tryz.underlying3) H e w n _ _ f7 z7
  obtain rfl := List.head_eq_of_cons_eq e7
  obtain ⟨a8, e8, k8⟩ := (opens_int Tryz.underlying3) H e w n _ _ f8 z8
  obtain rfl := List.head_eq_of_cons_eq e8
  exact ⟨⟨a0, a1, a2, a3, a4, a5, a6, a7, a8⟩, rfl, ⟨⟨⟨k0.1.row, fun x hx => (k0.1.each x hx).ok, k0.1.cap, k0.1.fit⟩, ⟨k1.1.row, fun x hx => (k1.1.each x hx).ok, k1.1.cap, k1.1.fit⟩, ⟨k2.1.row, fun x hx => (k2.1.each x hx).ok, k2.1.cap, k2.1.fit⟩, k3, k4, k5, k6, k7, k8⟩, k0.2, k1.2, k2.2⟩⟩
theorem Tryz.cells_TaskV : Tryz.prog.cellsOf 33 = 4 := by kernel_rfl
theorem opens_TaskV : Opens Tryz.prog 33 TaskV.enc TaskV.Arg := by
  intro H e w fuel cs x h hz
  obtain ⟨xs, n, rfl, rfl, hl, hn, hf⟩ := DataW.trod_struct Tryz.underlying33 h
  rw [Tryz.cells_TaskV] at hl
  obtain ⟨c0, c1, c2, c3, rfl⟩ := list4 hl
  obtain ⟨x0, x1, x2, x3, rfl⟩ := list4 (show xs.length = 4 from hn)
  have f0 : DataW.trod e Tryz.prog w 0 (fun _ => true) true n 3 [c0] = some x0 := hf 0 _ rfl
  have f1 : DataW.trod e Tryz.prog w 0 (fun _ => true) true n 3 [c1] = some x1 := hf 1 _ rfl
  have f2 : DataW.trod e Tryz.prog w 0 (fun _ => true) true n 31 [c2] = some x2 := hf 2 _ rfl
  have f3 : DataW.trod e Tryz.prog w 0 (fun _ => true) true n 31 [c3] = some x3 := hf 3 _ rfl
  simp only [DataW.weights, Tryz.underlying33, DataW.weightsEach, List.map_cons, List.map_nil, List.all_append, Bool.and_eq_true, List.all_nil] at hz
  obtain ⟨z0, z1, z2, z3, _⟩ := hz
  obtain ⟨a0, e0, k0⟩ := (opens_int Tryz.underlying3) H e w n _ _ f0 z0
  obtain rfl := List.head_eq_of_cons_eq e0
  obtain ⟨a1, e1, k1⟩ := (opens_int Tryz.underlying3) H e w n _ _ f1 z1
  obtain rfl := List.head_eq_of_cons_eq e1
  obtain ⟨a2, e2, k2⟩ := (opens_slice 1 8 Tryz.underlying31 Tryz.cells_int Tryz.bytes_int (by omega) encI_len (opens_int Tryz.underlying3)) H e w n _ _ f2 z2
  obtain rfl := List.head_eq_of_cons_eq e2
  obtain ⟨a3, e3, k3⟩ := (opens_slice 1 8 Tryz.underlying31 Tryz.cells_int Tryz.bytes_int (by omega) encI_len (opens_int Tryz.underlying3)) H e w n _ _ f3 z3
  obtain rfl := List.head_eq_of_cons_eq e3
  exact ⟨⟨a0, a1, a2, a3⟩, rfl, ⟨⟨k0, k1, k2.1, k3.1⟩, k2.2, k3.2⟩⟩
theorem Tryz.cells_StepV : Tryz.prog.cellsOf 35 = 8 := by kernel_rfl
theorem Tryz.bytes_StepV : Tryz.prog.bytesOf 35 = 96 := by kernel_rfl
theorem opens_StepV : Opens Tryz.prog 35 StepV.enc StepV.Arg := by
  intro H e w fuel cs x h hz
  obtain ⟨xs, n, rfl, rfl, hl, hn, hf⟩ := DataW.trod_struct Tryz.underlying35 h
  rw [Tryz.cells_StepV] at hl
  obtain ⟨c0, c1, c2, c3, c4, c5, c6, c7, rfl⟩ := list8 hl
  obtain ⟨x0, x1, x2, x3, x4, rfl⟩ := list5 (show xs.length = 5 from hn)
  have f0 : DataW.trod e Tryz.prog w 0 (fun _ => true) true n 3 [c0] = some x0 := hf 0 _ rfl
  have f1 : DataW.trod e Tryz.prog w 0 (fun _ => true) true n 3 [c1] = some x1 := hf 1 _ rfl
  have f2 : DataW.trod e Tryz.prog w 0 (fun _ => true) true n 3 [c2] = some x2 := hf 2 _ rfl
  have f3 : DataW.trod e Tryz.prog w 0 (fun _ => true) true n 3 [c3] = some x3 := hf 3 _ rfl
  have f4 : DataW.trod e Tryz.prog w 0 (fun _ => true) true n 33 [c4, c5, c6, c7] = some x4 := hf 4 _ rfl
  simp only [DataW.weights, Tryz.underlying35, DataW.weightsEach, List.map_cons, List.map_nil, List.all_append, Bool.and_eq_true, List.all_nil] at hz
  obtain ⟨z0, z1, z2, z3, z4, _⟩ := hz
  obtain ⟨a0, e0, k0⟩ := (opens_int Tryz.underlying3) H e w n _ _ f0 z0
  obtain rfl := List.head_eq_of_cons_eq e0
  obtain ⟨a1, e1, k1⟩ := (opens_int Tryz.underlying3) H e w n _ _ f1 z1
  obtain rfl := List.head_eq_of_cons_eq e1
  obtain ⟨a2, e2, k2⟩ := (opens_int Tryz.underlying3) H e w n _ _ f2 z2
  obtain rfl := List.head_eq_of_cons_eq e2
  obtain ⟨a3, e3, k3⟩ := (opens_int Tryz.underlying3) H e w n _ _ f3 z3
  obtain rfl := List.head_eq_of_cons_eq e3
  obtain ⟨a4, e4, k4⟩ := opens_TaskV H e w n _ _ f4 z4
  simp only [TaskV.enc, List.cons.injEq, and_true] at e4
  obtain ⟨rfl, rfl, rfl, rfl⟩ := e4
  exact ⟨⟨a0, a1, a2, a3, a4⟩, rfl, ⟨⟨k0, k1, k2, k3, k4.ok⟩, k4⟩⟩
end Go.Proofs.YtflgnpidelkkpaaGreat
