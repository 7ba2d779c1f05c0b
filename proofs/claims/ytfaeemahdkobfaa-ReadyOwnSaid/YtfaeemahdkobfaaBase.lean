/- Memory as lists: rows of cells, worlds that grow. -/
import Derived.WalkKit
import Derived.Lib.Hide
import Derived.SizedLaws
import Derived.ChangeArms
import Derived.DataReads
import Derived.ChangeSlices
import Derived.WideShapes
import Derived.Deep.Draws
namespace Go.Proofs.Ytfaeemahdkobfaa
open Go.RowKit

/-- a number of 64 bits -/
def I64 (n : Int) : Prop := -9223372036854775808 ≤ n ∧ n ≤ 9223372036854775807
theorem ret_int {k : IntKind} {a b : Int} (h : a = b) : Ending.returned (.int k a) = .returned (.int k b) := by rw [h]
theorem ret_bool {a b : Bool} (h : a = b) : Ending.returned (.bool a) = .returned (.bool b) := by rw [h]
theorem wrap_in {n : Int} (h : I64 n) : wrap64 n = n := by unfold I64 at h; unfold wrap64; omega

/-- w' is w, but for new blocks. -/
def Ext (w w' : World) : Prop := Below w.heap.size w w'
theorem Ext.refl (w : World) : Ext w w := Below.refl _ _
theorem Ext.size {w w' : World} (h : Ext w w') : w.heap.size ≤ w'.heap.size := Below.size h
theorem Ext.trans {a b c : World} (h : Ext a b) (k : Ext b c) : Ext a c := Below.trans h (Below.mono k h.size)
theorem Ext.alloc {a b : World} (h : Ext a b) (o : Obj) : Ext a (b.alloc o) := Below.alloc h h.size o
theorem Ext.drew {a b : World} (h : Ext a b) : Ext a b.drew := Below.drew h
theorem Ext.drewN {a b : World} (h : Ext a b) (n : Nat) : Ext a (b.drewN n) := by
  have h : Below _ _ _ := h
  exact ⟨h.os, h.tape, h.output, h.size, h.block⟩
theorem Ext.set {a b : World} (h : Ext a b) {p : Addr} (hp : a.heap.size ≤ p.block) (u : Value) : Ext a (b.setCell p u) := Below.setCell h hp u
theorem Ext.cell {w w' : World} (h : Ext w w') {a : Addr} {v : Value} (hc : w.cell? a = some v) : w'.cell? a = some v :=
  (Below.cell h (World.block_lt_of_cell? w a hc)).trans hc
theorem Ext.rules {W w1 : World} (h : Ext W w1) : (∀ b o, b < W.heap.size → w1.cell? ⟨b, o, none⟩ = W.cell? ⟨b, o, none⟩) ∧
    (∀ b o, b < W.heap.size → w1.frozen? ⟨b, o, none⟩ = W.frozen? ⟨b, o, none⟩) ∧ W.heap.size ≤ w1.heap.size :=
  ⟨fun b o hb => Below.cell (p := ⟨b, o, none⟩) h hb, fun b o hb => Below.frozen (p := ⟨b, o, none⟩) h hb, h.size⟩
theorem Ext.block {W w1 : World} (h : Ext W w1) {k : Nat} {o : Obj} (hk : W.heap[k]? = some o) : w1.heap[k]? = some o :=
  (Below.block h k (Array.getElem?_eq_some_iff.1 hk).1).trans hk
theorem Ext.grown {a w w' : World} {row : Option Nat} (h : Ext a w) (hg : w.grownBy w' row) (hr : ∀ k, row = some k → a.heap.size ≤ k) : Ext a w' := Below.grown h hg h.size hr

/-- cells from an address on -/
def Row (w : World) (A : Option Addr) (cs : List Value) : Prop :=
  ∀ j v, cs[j]? = some v → ∃ b o, A = some ⟨b, o, none⟩ ∧ w.cell? ⟨b, o + j, none⟩ = some v
theorem Row.ext {w w' : World} {A : Option Addr} {cs : List Value} (h : Row w A cs) (hb : Ext w w') : Row w' A cs := fun j v hj => by
  obtain ⟨b, o, e, hc⟩ := h j v hj
  exact ⟨b, o, e, hb.cell hc⟩
theorem Row.nil (w : World) (A : Option Addr) : Row w A [] := fun j v h => by simp at h
theorem Row.left {w : World} {A : Option Addr} {cs ds : List Value} (h : Row w A (cs ++ ds)) : Row w A cs := fun j v hj =>
  h j v (by rw [List.getElem?_append_left (List.getElem?_eq_some_iff.1 hj).1]; exact hj)
theorem Row.of_block {w : World} {g : Nat} {cs : Array Value} {t : TypeId} {fr : Nat × Nat} (h : w.heap[g]? = some (.cells cs t fr)) : Row w (some ⟨g, 0, none⟩) cs.toList := fun j v hj =>
  ⟨g, 0, rfl, by simp only [World.cell?, h, Nat.zero_add]; simpa using hj⟩

theorem flat_get {α : Type} (f : α → List Value) (sz : Nat) (hsz : ∀ x, (f x).length = sz) : ∀ (xs : List α) (i j : Nat) (x : α) (v : Value),
    xs[i]? = some x → (f x)[j]? = some v → (xs.flatMap f)[i * sz + j]? = some v := by
  intro xs
  induction xs with
  | nil => intro i j x v h; simp at h
  | cons y ys ih =>
    intro i j x v h hj
    have hlt : j < sz := by have := (List.getElem?_eq_some_iff.1 hj).1; rw [hsz] at this; exact this
    cases i with
    | zero =>
      simp only [List.getElem?_cons_zero, Option.some.injEq] at h
      subst h
      rw [List.flatMap_cons, List.getElem?_append_left (by rw [hsz]; omega)]
      simpa using hj
    | succ i =>
      simp only [List.getElem?_cons_succ] at h
      rw [List.flatMap_cons, List.getElem?_append_right (by rw [hsz, Nat.add_mul]; omega)]
      have := ih i j x v h hj
      rw [hsz]
      have e : (i + 1) * sz + j - sz = i * sz + j := by rw [Nat.add_mul]; omega
      rw [e]; exact this
theorem flat_len {α : Type} (f : α → List Value) (sz : Nat) (hsz : ∀ x, (f x).length = sz) (xs : List α) : (xs.flatMap f).length = xs.length * sz := by
  induction xs with
  | nil => simp
  | cons y ys ih => rw [List.flatMap_cons, List.length_append, ih, hsz, List.length_cons, Nat.add_mul]; omega
theorem flat_inv {α : Type} (f : α → List Value) (sz : Nat) (hpos : 0 < sz) (hsz : ∀ x, (f x).length = sz) (xs : List α) (j : Nat) (v : Value) (h : (xs.flatMap f)[j]? = some v) :
    ∃ x, xs[j / sz]? = some x ∧ (f x)[j % sz]? = some v := by
  have hl := (List.getElem?_eq_some_iff.1 h).1
  rw [flat_len f sz hsz] at hl
  have hi : j / sz < xs.length := by rw [Nat.div_lt_iff_lt_mul hpos]; exact hl
  have hm : j % sz < (f xs[j / sz]).length := by rw [hsz]; exact Nat.mod_lt _ hpos
  refine ⟨xs[j / sz], List.getElem?_eq_getElem hi, ?_⟩
  have := flat_get f sz hsz xs (j / sz) (j % sz) xs[j / sz] _ (List.getElem?_eq_getElem hi) (List.getElem?_eq_getElem hm)
  rw [Nat.mul_comm, Nat.div_add_mod, h] at this
  rw [List.getElem?_eq_getElem hm, this]
theorem Row.cells {α : Type} {w : World} {A : Option Addr} {f : α → List Value} {xs : List α} (h : Row w A (xs.flatMap f)) (sz : Nat) (hsz : ∀ x, (f x).length = sz) (hp : 0 < sz) (i : Nat) (hi : i < xs.length) :
    ∃ b o, A = some ⟨b, o, none⟩ ∧ ∀ j v, (f xs[i])[j]? = some v → w.cell? ⟨b, o + i * sz + j, none⟩ = some v := by
  have g := fun j v (hj : (f xs[i])[j]? = some v) => h (i * sz + j) v (flat_get f sz hsz xs i j xs[i] v (List.getElem?_eq_getElem hi) hj)
  obtain ⟨b, o, rfl, _⟩ := g 0 _ (List.getElem?_eq_getElem (by rw [hsz]; exact hp))
  refine ⟨b, o, rfl, fun j v hj => ?_⟩
  obtain ⟨_, _, e, hc⟩ := g j v hj
  cases e
  rw [Nat.add_assoc]; exact hc

/-- a slice, and what it reads as -/
structure Sl (α : Type) where
  A : Option Addr
  c : Nat
  xs : List α
def Sl.val {α : Type} (s : Sl α) : Value := .slice s.A s.xs.length s.c
structure Sl.Ok {α : Type} (enc : α → List Value) (ok : World → α → Prop) (bytes : Nat) (w : World) (s : Sl α) : Prop where
  row : Row w s.A (s.xs.flatMap enc)
  each : ∀ x ∈ s.xs, ok w x
  cap : s.xs.length ≤ s.c
  fit : s.xs.length * bytes ≤ 140737488351232
theorem Sl.Ok.ext {α : Type} {enc : α → List Value} {ok : World → α → Prop} {bytes : Nat} {w w' : World} {s : Sl α} (h : s.Ok enc ok bytes w) (hb : Ext w w') (hok : ∀ x, ok w x → ok w' x) : s.Ok enc ok bytes w' :=
  ⟨h.row.ext hb, fun x hx => hok x (h.each x hx), h.cap, h.fit⟩

/-! ### whole numbers, bools -/
def encI (n : Int) : List Value := [.int .i64 n]
def okI (_ : World) (n : Int) : Prop := I64 n
theorem encI_len (n : Int) : (encI n).length = 1 := rfl
abbrev IntsOk (w : World) (s : Sl Int) : Prop := s.Ok encI okI 8 w
theorem ints_at {w : World} {A : Option Addr} {xs : List Int} (h : Row w A (xs.flatMap encI)) (i : Nat) (hi : i < xs.length) : ∃ b o, A = some ⟨b, o, none⟩ ∧ b < w.heap.size ∧ w.cell? ⟨b, o + i, none⟩ = some (.int .i64 xs[i]) := by
  obtain ⟨b, o, e, g⟩ := h.cells 1 encI_len (by omega) i hi
  exact ⟨b, o, e, World.block_lt_of_cell? w _ (g 0 _ rfl), by simpa using g 0 _ rfl⟩

/-! ### from a reading to a list -/
/-- whatever reads at type t is some a, its cells enc a -/
def Opens (P : Program) (t : TypeId) {α : Type} (enc : α → List Value) (ok : World → α → Prop) : Prop :=
  ∀ (H : Type) (e : TypeId × Value → H) (w : World) (fuel : Nat) (cs : List Value) (x : DataW H × List MemPlace), DataW.trod e P w 0 (fun _ => true) true fuel t cs = some x →
    (x.1.weights P t).all (· ≤ reachBytes) = true → ∃ a, cs = enc a ∧ ok w a
def encB (b : Bool) : List Value := [.bool b]
def okB (_ : World) (_ : Bool) : Prop := True
theorem opens_int {P : Program} {t : TypeId} (ht : P.underlying t = some (.int .i64)) : Opens P t encI okI := by
  intro H e w fuel cs x h _
  obtain ⟨n, rfl, _, hw⟩ := DataW.trod_int ht h
  exact ⟨n, rfl, by
    simp only [Lit.wf, Bool.and_eq_true, decide_eq_true_eq] at hw
    exact hw⟩
theorem opens_bool {P : Program} {t : TypeId} (ht : P.underlying t = some .bool) : Opens P t encB okB := by
  intro H e w fuel cs x h _
  obtain ⟨n, rfl, _⟩ := DataW.trod_bool ht h
  exact ⟨n, rfl, trivial⟩
theorem weightsAll_mem {H : Type} {P : Program} {e : TypeId} {q : Nat → Bool} : ∀ {ds : List (DataW H)}, (DataW.weightsAll P e ds).all q = true → ∀ d ∈ ds, (d.weights P e).all q = true := by
  intro ds
  induction ds with
  | nil => intro _ d hd; simp at hd
  | cons y ys ih =>
    intro h d hd
    simp only [DataW.weightsAll, List.all_append, Bool.and_eq_true] at h
    rcases List.mem_cons.1 hd with rfl | hd
    · exact h.1
    · exact ih h.2 d hd
theorem opens_slice {P : Program} {t e : TypeId} {α : Type} {enc : α → List Value} {ok : World → α → Prop} (sz bytes : Nat) (ht : P.underlying t = some (.slice e)) (hc : P.cellsOf e = sz) (hb : P.bytesOf e = bytes)
    (hp : 0 < sz) (hsz : ∀ a, (enc a).length = sz) (he : Opens P e enc ok) :
    Opens P t (fun s : Sl α => [s.val]) (fun w s => s.Ok enc ok bytes w ∧ s.c * bytes ≤ 140737488351232) := by
  intro H en w fuel cs x h hz
  rcases DataW.trod_slice ht h with ⟨rfl, _⟩ | ⟨a, len, cap, elems, rest, n, rfl, rfl, rfl, _, hl, hm, hlen, hel, hsp, _⟩
  · exact ⟨⟨none, 0, []⟩, rfl, ⟨Row.nil _ _, by simp, by simp, by simp⟩, by simp⟩
  · have hr := (hsp rfl).1
    simp only [DataW.weights, ht, List.all_cons, Bool.and_eq_true, List.all_append, List.length_map, hb, hlen, hr, reachBytes] at hz
    obtain ⟨hz0, hz1, _⟩ := hz
    replace hz0 := of_decide_eq_true hz0
    rw [show len + (cap - len) = cap by omega] at hz0
    have key : ∀ i, i < len → ∃ a', (∃ cs', w.cells? 0 (a.add (i * sz)) sz = some cs' ∧ cs' = enc a') ∧ ok w a' := by
      intro i hi
      have h1 := hel i hi
      rw [List.getElem?_eq_getElem (by omega)] at h1
      obtain ⟨cs', h2, h3⟩ := Option.bind_eq_some_iff.1 h1
      obtain ⟨a', rfl, h4⟩ := he H en w n cs' _ h3 (weightsAll_mem hz1 _ (List.mem_map_of_mem (List.getElem_mem _)))
      rw [hc] at h2
      exact ⟨a', ⟨_, h2, rfl⟩, h4⟩
    obtain ⟨xs, hxl, hxs⟩ : ∃ xs : List α, xs.length = len ∧ ∀ i x, xs[i]? = some x → (w.cells? 0 (a.add (i * sz)) sz = some (enc x)) ∧ ok w x := by
      clear hel hsp hz0 hz1 hr hlen h
      clear hl
      induction len with
      | zero => exact ⟨[], rfl, by simp⟩
      | succ m ih =>
        obtain ⟨xs, h1, h2⟩ := ih (fun i hi => key i (by omega))
        obtain ⟨a', ⟨cs', h3, rfl⟩, h4⟩ := key m (by omega)
        refine ⟨xs ++ [a'], by simp [h1], fun i x hx => ?_⟩
        rcases Nat.lt_or_ge i xs.length with hi | hi
        · rw [List.getElem?_append_left hi] at hx
          exact h2 i x hx
        · rw [List.getElem?_append_right hi] at hx
          have : i - xs.length = 0 := by
            rcases Nat.eq_zero_or_pos (i - xs.length) with h | h
            · exact h
            · rw [List.getElem?_eq_none (by simp; omega)] at hx; cases hx
          rw [this] at hx
          simp only [List.getElem?_cons_zero, Option.some.injEq] at hx
          subst hx
          obtain rfl : i = m := by omega
          exact ⟨h3, h4⟩
    refine ⟨⟨some a, cap, xs⟩, by simp [Sl.val, hxl], ⟨fun j v hj => ?_, fun x hx => ?_, by simp only; omega, ?_⟩, hz0⟩
    · obtain ⟨x, h1, h2⟩ := flat_inv enc sz hp hsz xs j v hj
      obtain ⟨h3, _⟩ := hxs _ _ h1
      obtain ⟨_, h4, h5⟩ := World.cells?_some h3
      have hlt : j % sz < sz := Nat.mod_lt _ hp
      have h6 := h5 (j % sz) hlt
      rw [h2] at h6
      have hadd : (a.add (j / sz * sz)).add (j % sz) = a.add j := by
        have e : j / sz * sz + j % sz = j := by rw [Nat.mul_comm]; exact Nat.div_add_mod j sz
        unfold Addr.add
        by_cases q1 : j / sz * sz = 0 <;> by_cases q2 : j % sz = 0
        · simp only [q1, q2, if_true]; rw [if_pos (by omega)]
        · simp only [q1, q2, if_true, if_false]; rw [if_neg (by omega)]; congr 1; omega
        · simp only [q1, q2, if_true, if_false]; rw [if_neg (by omega)]; congr 1; omega
        · simp only [q1, q2, if_false]; rw [if_neg (by omega)]; simp only [Nat.add_assoc, e]
      rw [hadd] at h6
      have hspot := World.cell?_spot h6
      obtain ⟨b, o, sp⟩ := a
      by_cases hj0 : j = 0
      · subst hj0
        simp only [Addr.add, if_true] at h6 hspot
        subst hspot
        exact ⟨b, o, rfl, h6⟩
      · have h7 := hxs 0 _ (List.getElem?_eq_getElem (show 0 < xs.length from Nat.lt_of_le_of_lt (Nat.zero_le _) (List.getElem?_eq_some_iff.1 h1).1))
        obtain ⟨_, h8, h9⟩ := World.cells?_some h7.1
        have h10 := h9 0 hp
        rw [List.getElem?_eq_getElem (by rw [hsz]; exact hp)] at h10
        have h11 := World.cell?_spot h10
        simp only [Nat.zero_mul, Addr.add, if_true] at h11
        subst h11
        simp only [Addr.add, if_neg hj0] at h6
        exact ⟨b, o, rfl, h6⟩
    · obtain ⟨i, hi, rfl⟩ := List.mem_iff_getElem.1 hx
      exact (hxs i _ (List.getElem?_eq_getElem hi)).2
    · simp only [hxl]
      exact Nat.le_trans (Nat.mul_le_mul_right _ hl) (Nat.le_trans hz0 (by decide))

theorem list1 {α : Type} {l : List α} (h : l.length = 1) : ∃ a, l = [a] := by match l, h with | [a], _ => exact ⟨a, rfl⟩
theorem list2 {α : Type} {l : List α} (h : l.length = 2) : ∃ a b, l = [a, b] := by match l, h with | [a, b], _ => exact ⟨a, b, rfl⟩
theorem list3 {α : Type} {l : List α} (h : l.length = 3) : ∃ a b c, l = [a, b, c] := by match l, h with | [a, b, c], _ => exact ⟨a, b, c, rfl⟩
theorem list4 {α : Type} {l : List α} (h : l.length = 4) : ∃ a b c d, l = [a, b, c, d] := by match l, h with | [a, b, c, d], _ => exact ⟨a, b, c, d, rfl⟩
theorem list5 {α : Type} {l : List α} (h : l.length = 5) : ∃ a b c d e, l = [a, b, c, d, e] := by match l, h with | [a, b, c, d, e], _ => exact ⟨a, b, c, d, e, rfl⟩
theorem list6 {α : Type} {l : List α} (h : l.length = 6) : ∃ a b c d e f, l = [a, b, c, d, e, f] := by match l, h with | [a, b, c, d, e, f], _ => exact ⟨a, b, c, d, e, f, rfl⟩
theorem list7 {α : Type} {l : List α} (h : l.length = 7) : ∃ a b c d e f g, l = [a, b, c, d, e, f, g] := by match l, h with | [a, b, c, d, e, f, g], _ => exact ⟨a, b, c, d, e, f, g, rfl⟩
theorem list9 {α : Type} {l : List α} (h : l.length = 9) : ∃ a b c d e f g i j, l = [a, b, c, d, e, f, g, i, j] := by match l, h with | [a, b, c, d, e, f, g, i, j], _ => exact ⟨a, b, c, d, e, f, g, i, j, rfl⟩
theorem list8 {α : Type} {l : List α} (h : l.length = 8) : ∃ a b c d e f g i, l = [a, b, c, d, e, f, g, i] := by match l, h with | [a, b, c, d, e, f, g, i], _ => exact ⟨a, b, c, d, e, f, g, i, rfl⟩
theorem list15 {α : Type} {l : List α} (h : l.length = 15) : ∃ a1 a2 a3 a4 a5 a6 a7 a8 a9 a10 a11 a12 a13 a14 a15, l = [a1, a2, a3, a4, a5, a6, a7, a8, a9, a10, a11, a12, a13, a14, a15] := by
  match l, h with | [a1, a2, a3, a4, a5, a6, a7, a8, a9, a10, a11, a12, a13, a14, a15], _ => exact ⟨a1, a2, a3, a4, a5, a6, a7, a8, a9, a10, a11, a12, a13, a14, a15, rfl⟩
theorem new_cell (w : World) (cs : Array Value) (t : TypeId) (j : Nat) (v : Value) (h : cs[j]? = some v) : (w.alloc (.cells cs t)).cell? ⟨w.heap.size, j, none⟩ = some v := by
  simp only [World.cell?, heap_alloc_new]
  simpa using h
theorem each_all {H : Type} {P : Program} {q : Nat → Bool} {ts : List TypeId} {ds : List (DataW H)} (h : (DataW.weightsEach P ts ds).all q = true) {j : Nat} {t : TypeId} {d : DataW H} (ht : ts[j]? = some t) (hd : ds[j]? = some d) :
    (d.weights P t).all q = true := List.all_eq_true.2 fun n hn => List.all_eq_true.1 h n (DataW.weights_mem_each ht hd n hn)
theorem i64_of_wf {n : Int} (h : (Lit.int .i64 n).wf = true) : I64 n := by
  simp only [Lit.wf, Bool.and_eq_true, decide_eq_true_eq] at h
  exact h
theorem u8_of_wf {n : Int} (h : (Lit.int .u8 n).wf = true) : 0 ≤ n ∧ n ≤ 255 := by
  simp only [Lit.wf, Bool.and_eq_true, decide_eq_true_eq] at h
  exact h
theorem u16_of_wf {n : Int} (h : (Lit.int .u16 n).wf = true) : 0 ≤ n ∧ n ≤ 65535 := by
  simp only [Lit.wf, Bool.and_eq_true, decide_eq_true_eq] at h
  exact h
theorem slice_of_cells {α : Type} {A : Option Addr} {n c : Nat} {s : Sl α} (h : (Value.slice A n c).cells.toList = [s.val]) : Value.slice A n c = s.val := by simpa [Value.cells] using h
theorem agg_of_cells {cs : Array Value} {l : List Value} (h : (Value.agg cs).cells.toList = l) : Value.agg cs = .agg l.toArray := by
  simp only [Value.cells] at h
  subst h
  simp
end Go.Proofs.Ytfaeemahdkobfaa
