/- part 4 of the proof: contracts of the functions that the law reaches, and plain laws. -/
import Derived.Laws.CopyRow
import Derived.Laws.Slices
import Derived.Maps.AppendAt
import Derived.Laws.ResultCell
import Derived.Test.YtflgnpidelkkpaaGreatMq3
import Derived.Test.YtflgnpidelkkpaaGreatMq1
namespace Go.Proofs.YtflgnpidelkkpaaGreat
set_option maxRecDepth 8000
set_option linter.unusedVariables false
set_option linter.unusedSimpArgs false
def aggOf (P : Program) (t : TypeId) : Option Bool := (P.underlying t).map fun | .struct _ | .array .. => true | _ => false
def sizeB (P : Program) (t : TypeId) : Option (Nat × Nat) := (P.info? t).map fun i => (i.size, i.bytes)
def zeroOf (P : Program) (t : TypeId) : Option Value := (P.info? t).bind (·.zero)
def fieldOf (P : Program) (s f : Nat) : Option (TypeId × Nat) := match P.underlying s with
  | some (.struct fs) => (fs[f]?).bind fun d => match sizeB P d.type with
    | some (0, _) => none
    | some _ => some (d.type, d.offset)
    | none => none
  | _ => none
class NA (P : Program) (t : TypeId) : Prop where
  eq : aggOf P t = some false
class AG (P : Program) (t : TypeId) : Prop where
  eq : aggOf P t = some true
class UT (P : Program) (t : TypeId) (d : outParam TypeDesc) : Prop where
  eq : P.underlying t = some d
class SZ (P : Program) (t : TypeId) (sz : outParam Nat) (bytes : outParam Nat) : Prop where
  eq : sizeB P t = some (sz, bytes)
class ZR (P : Program) (t : TypeId) (z : outParam Value) (cs : outParam (List Value)) : Prop where
  eq : zeroOf P t = some z
  cells : z.cells = cs.toArray
class FO (P : Program) (s f : Nat) (t : outParam TypeId) (off : outParam Nat) : Prop where
  eq : fieldOf P s f = some (t, off)
theorem run_agg {P : Program} {t : TypeId} {b : Bool} (h : aggOf P t = some b) (w : World) : (isAgg t).run P w = .ok b w := by
  unfold aggOf at h
  cases hu : P.underlying t with
  | none => rw [hu] at h; cases h
  | some d =>
    rw [hu] at h
    simp only [Option.map_some, Option.some.injEq] at h
    subst h
    unfold isAgg
    simp only [Sem.run_bind, run_underlying hu, Result.andThen_ok]
    cases d <;> rfl
theorem run_size {P : Program} {t : TypeId} {sz by' : Nat} (h : sizeB P t = some (sz, by')) (w : World) : (sizeOf t).run P w = .ok sz w := by
  unfold sizeB at h
  cases hi : P.info? t with
  | none => rw [hi] at h; cases h
  | some i =>
    rw [hi] at h
    simp only [Option.map_some, Option.some.injEq, Prod.mk.injEq] at h
    simp [sizeOf, typeInfo, hi, h.1]
theorem run_zero {P : Program} {t : TypeId} {z : Value} (h : zeroOf P t = some z) (w : World) : (zeroValue t).run P w = .ok z w := by
  unfold zeroOf at h
  cases hi : P.info? t with
  | none => rw [hi] at h; cases h
  | some i =>
    rw [hi] at h
    simp only [Option.bind_some] at h
    simp [zeroValue, typeInfo, hi, h]
theorem run_fieldAt {P : Program} {s f t off : Nat} (h : fieldOf P s f = some (t, off)) (b o : Nat) (w : World) : (Instr.fieldAt s (.pointer (some ⟨b, o, none⟩)) f).run P w = .ok (.pointer (some ⟨b, o + off, none⟩)) w := by
  unfold fieldOf at h
  split at h
  · next fs hu =>
    cases hf : fs[f]? with
    | none => rw [hf] at h; cases h
    | some d =>
      rw [hf] at h
      simp only [Option.bind_some] at h
      split at h
      · cases h
      · next x hne hs =>
        simp only [Option.some.injEq, Prod.mk.injEq] at h
        obtain ⟨rfl, rfl⟩ := h
        obtain ⟨sz, by'⟩ := x
        have hz : sz ≠ 0 := fun e => by subst e; exact hne _ rfl
        unfold Instr.fieldAt
        simp only [Sem.run_bind, run_underlying hu, Result.andThen_ok, hf, Instr.sureAddr, Sem.run_pure, fieldPlace, run_size hs, if_neg hz]
        simp only [Addr.add, Sem.run_pure]
        by_cases h0 : d.offset = 0
        · simp [h0]
        · simp [h0]
      · cases h
  · cases h
abbrev cells (l : List Value) (t : TypeId) : Obj := .cells l.toArray t (0, 0)
def CellAt (F : Hp) (hs : List Hp) (b o : Nat) (v : Value) : Prop := ∃ cs t fz, At F hs b (.cells cs t fz) ∧ cs[o]? = some v
theorem CellAt.mk {F : Hp} {hs : List Hp} {b o : Nat} {v : Value} {l : List Value} {t : TypeId} (h : At F hs b (cells l t)) (hv : l[o]? = some v) : CellAt F hs b o v := ⟨_, _, _, h, by simpa using hv⟩
theorem CellAt.get {B : World} {F : Hp} {hs : List Hp} {b o : Nat} {v : Value} (h : CellAt F hs b o v) {w : World} (H : Own B F hs w) : w.cell? ⟨b, o, none⟩ = some v := by
  obtain ⟨cs, t, fz, h1, h2⟩ := h
  simp only [World.cell?, h1.get H]
  simpa using h2
def CellsAt (F : Hp) (hs : List Hp) (b o : Nat) (vs : List Value) : Prop := ∀ j v, vs[j]? = some v → CellAt F hs b (o + j) v
theorem CellsAt.mk {F : Hp} {hs : List Hp} {b o : Nat} {l vs : List Value} {t : TypeId} (h : At F hs b (cells l t)) (hv : ∀ j v, vs[j]? = some v → l[o + j]? = some v) : CellsAt F hs b o vs := fun j v e => CellAt.mk h (hv j v e)
theorem CellsAt.all {F : Hp} {hs : List Hp} {b : Nat} {l : List Value} {t : TypeId} (h : At F hs b (cells l t)) : CellsAt F hs b 0 l := CellsAt.mk h fun j v e => by simpa using e
section
variable {P : Program} {n : Nat} {B : World} {F : Hp} {hs : List Hp} {env : Env} {ty : TypeId}
theorem Rn.move {x : Operand} {v : Value} (hx : ev env x = some v) : Rn P F hs (.move x) ty env v := fun o h1 h2 n B a w he ho => by
  unfold execOp; simp only [h1, he.ev hx]; rfl
theorem Rn.assign {x : Operand} {v : Value} (hx : ev env x = some v) : Rn P F hs (.assign x) ty env v := fun o h1 h2 n B a w he ho => by
  unfold execOp; simp only [h1, he.ev hx]; rfl
theorem Rn.pickT {c x y : Operand} {v : Value} (hc : ev env c = some (.bool true)) (hx : ev env x = some v) : Rn P F hs (.pick c x y) ty env v := fun o h1 h2 n B a w he ho => by
  unfold execOp; simp only [h1, he.ev hc, he.ev hx]; rfl
theorem Rn.pickF {c x y : Operand} {v : Value} (hc : ev env c = some (.bool false)) (hx : ev env y = some v) : Rn P F hs (.pick c x y) ty env v := fun o h1 h2 n B a w he ho => by
  unfold execOp; simp only [h1, he.ev hc, he.ev hx]; rfl
theorem Rn.extract {x : Operand} {vs : Array Value} {i : Nat} {v : Value} (hx : ev env x = some (.tuple vs)) (hi : vs[i]? = some v) : Rn P F hs (.extract x i) ty env v := fun o h1 h2 n B a w he ho => by
  unfold execOp; simp [h1, he.ev hx, Instr.extract, hi]
theorem Rn.nilCheck {x : Operand} {a : Addr} (hx : ev env x = some (.pointer (some a))) : Rn P F hs (.nilCheck x) ty env (.pointer (some a)) := fun o h1 h2 n B a w he ho => by
  unfold execOp; simp only [h1, he.ev hx]; rfl
theorem Rn.load {t : TypeId} {x : Operand} {b o : Nat} {v : Value} [hn : NA P t] (hx : ev env x = some (.pointer (some ⟨b, o, none⟩))) (hc : CellAt F hs b o v) : Rn P F hs (.load t x) ty env v := fun op h1 h2 n B a w he ho => by
  unfold execOp
  simp only [h1, he.ev hx, Instr.loadAt, Instr.sureAddr, loadVar, Sem.run_bind, Sem.run_pure, Result.andThen_ok, run_agg hn.eq, Bool.false_eq_true, if_false, run_load, hc.get ho]
theorem Rn.loadS {t : TypeId} {x : Operand} {b o sz by' : Nat} {vs : List Value} [hn : AG P t] [hs' : SZ P t sz by'] (hx : ev env x = some (.pointer (some ⟨b, o, none⟩))) (hc : CellsAt F hs b o vs) (hl : vs.length = sz) :
    Rn P F hs (.load t x) ty env (.agg vs.toArray) := fun op h1 h2 n B a w he ho => by
  unfold execOp
  have hcells : (loadCells ⟨b, o, none⟩ vs.length).run P w = .ok vs.toArray w := run_loadCells_list (P := P) w ⟨b, o, none⟩ vs fun j v e => by
    have := (hc j v e).get ho
    unfold Addr.add
    by_cases h0 : j = 0
    · subst h0; simpa using this
    · simpa [h0] using this
  simp only [h1, he.ev hx, Instr.loadAt, Instr.sureAddr, loadVar, Sem.run_bind, Sem.run_pure, Result.andThen_ok, run_agg hn.eq, if_true, run_size hs'.eq, ← hl, hcells]
theorem Rn.fieldAddr {s f t off b o : Nat} {x : Operand} [hf : FO P s f t off] (hx : ev env x = some (.pointer (some ⟨b, o, none⟩))) : Rn P F hs (.fieldAddr s x f) ty env (.pointer (some ⟨b, o + off, none⟩)) := fun op h1 h2 n B a w he ho => by
  unfold execOp
  simp only [h1, he.ev hx, Sem.run_bind, run_fieldAt hf.eq, Result.andThen_ok, Sem.run_pure]
theorem Rn.fieldAddr0 {s f t off b : Nat} {x : Operand} [hf : FO P s f t off] (hx : ev env x = some (.pointer (some ⟨b, 0, none⟩))) : Rn P F hs (.fieldAddr s x f) ty env (.pointer (some ⟨b, off, none⟩)) := fun op h1 h2 n B a w he ho => by
  have := Rn.fieldAddr (P := P) (F := F) (hs := hs) (ty := ty) (hf := hf) hx op h1 h2 n B a w he ho
  rwa [Nat.zero_add] at this
theorem Rn.indexAddr {t e sz by' b o m c : Nat} {x y : Operand} {k : IntKind} {i : Int} (j : Nat) [hu : UT P t (.slice e)] [hz : SZ P e sz by'] (hx : ev env x = some (.slice (some ⟨b, o, none⟩) m c)) (hy : ev env y = some (.int k i)) (hi : i = (j : Int)) (hj : j < m) :
    Rn P F hs (.indexAddr t x y) ty env (.pointer (some ⟨b, o + j * sz, none⟩)) := fun op h1 h2 n B a w he ho => by
  unfold execOp
  subst hi
  have hj' : (0 : Int) ≤ (j : Int) ∧ (j : Int) < (m : Int) := ⟨by omega, by omega⟩
  simp only [h1, he.ev hx, he.ev hy, Instr.indexAt, asIntOf, Sem.run_bind, Sem.run_pure, Result.andThen_ok, run_underlying hu.eq, if_pos hj', run_size hz.eq, Int.toNat_natCast, Addr.add]
  by_cases h0 : j * sz = 0
  · simp [h0]
  · simp [h0]
theorem WO.box {t : TypeId} {x : Operand} {v : Value} {l : List Value} {K : Value → List Hp → Prop} (hx : ev env x = some v) (hc : v.cells = l.toArray) (k : ∀ b, K (.pointer (some ⟨b, 0, none⟩)) (one b (cells l t) :: hs)) : WO P n B F (.box t x) ty env hs K :=
  fun o h1 h2 a w he ho next Q hn => by
    unfold Oper.wp execOp
    simp only [h1, he.ev hx, Instr.box, newVar, newRow, Sem.run_bind, run_newObj, Result.andThen_ok, Sem.run_pure, Oper.upon_value, hc]
    exact hn _ _ (w.alloc (cells l t)) (k w.heap.size) (ho.alloc _)
theorem WO.alloc {t : TypeId} {z : Value} {l : List Value} {K : Value → List Hp → Prop} [hz : ZR P t z l] (k : ∀ b, K (.pointer (some ⟨b, 0, none⟩)) (one b (cells l t) :: hs)) : WO P n B F (.alloc t) ty env hs K :=
  fun o h1 h2 a w he ho next Q hn => by
    unfold Oper.wp execOp
    simp only [h1, Instr.alloc, newVar, newRow, Sem.run_bind, run_newObj, run_zero hz.eq, Result.andThen_ok, Sem.run_pure, Oper.upon_value, hz.cells]
    exact hn _ _ (w.alloc (cells l t)) (k w.heap.size) (ho.alloc _)
def splice (l : List Value) (o : Nat) (vs : List Value) : List Value := l.take o ++ vs ++ l.drop (o + vs.length)
theorem WO.storeC {t : TypeId} {x y : Operand} {b o sz by' : Nat} {v : Value} {l vs : List Value} {u : TypeId} {hs' : List Hp} {K : Value → List Hp → Prop} [hz : SZ P t sz by'] (hx : ev env x = some (.pointer (some ⟨b, o, none⟩))) (hy : ev env y = some v)
    (hv : v.cells = vs.toArray) (hl : vs.length = sz) (h1c : vs.all (·.oneCell') = true) (hr : Repl hs (one b (cells l u)) (one b (cells (splice l o vs) u)) hs') (hin : o + vs.length ≤ l.length) (k : K undef hs') : WO P n B F (.store t x y) ty env hs K :=
  fun op h1 h2 a w he ho next Q hn => by
    obtain ⟨r, p1, p2⟩ := hr.perm
    have H := ho.perm p1
    have hg : w.heap[b]? = some (.cells l.toArray u (0, 0)) := H.all _ (.head _) _ _ (one_get _ _)
    have hst := run_storeCells_at P b o u vs 0 l.toArray w hg (by simpa using hin) (fun v hv => List.all_eq_true.1 h1c v hv)
    have hsz : vs.toArray.size = sz := by simpa using hl
    unfold Oper.wp execOp
    simp only [h1, he.ev hx, he.ev hy, Instr.storeAt, Instr.sureAddr, storeVar, Sem.run_bind, Sem.run_pure, Result.andThen_ok, run_size hz.eq, hv, hsz, ne_eq, not_true_eq_false, if_false, hst, Oper.upon_skip]
    have H' : Own B F (one b (cells (splice l o vs) u) :: r) (w.setRow b (List.take (o + 0) l ++ vs ++ List.drop (o + 0 + vs.length) l).toArray) := H.upd ?_ ?_ rfl rfl rfl
    · exact hn _ hs' _ k (H'.perm p2.symm)
    · have := setRow_heap w b l.toArray (splice l o vs).toArray u (0, 0) hg
      simpa [splice] using this
    · intro q hq
      simp only [World.setRow, Array.getElem?_modify]
      rw [if_neg (Ne.symm hq)]
inductive SetAt : List Value → Nat → Value → List Value → Prop where
  | zero {x v : Value} {l : List Value} : SetAt (x :: l) 0 v (v :: l)
  | succ {x v : Value} {l l' : List Value} {i : Nat} : SetAt l i v l' → SetAt (x :: l) (i + 1) v (x :: l')
theorem SetAt.eq {l l' : List Value} {i : Nat} {v : Value} (h : SetAt l i v l') : splice l i [v] = l' ∧ i + 1 ≤ l.length := by
  induction h with
  | zero => simp [splice]
  | succ _ ih =>
    obtain ⟨h1, h2⟩ := ih
    refine ⟨?_, by simp only [List.length_cons]; omega⟩
    simp only [splice, List.length_cons, List.length_nil, Nat.zero_add, List.take_succ_cons, List.cons_append, List.drop_succ_cons] at h1 ⊢
    rw [h1]
theorem WO.store {t : TypeId} {x y : Operand} {b o by' : Nat} {v : Value} {l l' : List Value} {u : TypeId} {hs' : List Hp} {K : Value → List Hp → Prop} [hz : SZ P t 1 by'] (hx : ev env x = some (.pointer (some ⟨b, o, none⟩))) (hy : ev env y = some v)
    (h1c : v.oneCell' = true) (hr : Repl hs (one b (cells l u)) (one b (cells l' u)) hs') (hset : SetAt l o v l') (k : K undef hs') : WO P n B F (.store t x y) ty env hs K := by
  obtain ⟨e1, e2⟩ := hset.eq
  subst e1
  refine WO.storeC (vs := [v]) hx hy ?_ rfl (by simp [h1c]) hr e2 k
  cases v <;> first | rfl | (simp [Value.oneCell'] at h1c)
theorem WO.storeAll {t : TypeId} {x y : Operand} {b sz by' : Nat} {vs l : List Value} {u : TypeId} {hs' : List Hp} {K : Value → List Hp → Prop} [hz : SZ P t sz by'] (hx : ev env x = some (.pointer (some ⟨b, 0, none⟩))) (hy : ev env y = some (.agg vs.toArray))
    (hl : vs.length = sz) (hl' : l.length = sz) (h1c : vs.all (·.oneCell') = true) (hr : Repl hs (one b (cells l u)) (one b (cells vs u)) hs') (k : K undef hs') : WO P n B F (.store t x y) ty env hs K := by
  have e : splice l 0 vs = vs := by simp [splice, hl, ← hl']
  exact WO.storeC (vs := vs) (l := l) (u := u) hx hy rfl hl h1c (hs' := hs') (by rw [e]; exact hr) (by omega) k
theorem WO.store' {t : TypeId} {x y : Operand} {b o by' : Nat} {v : Value} {l l' : List Value} {u : TypeId} {hs' : List Hp} {K : Value → List Hp → Prop} [hz : SZ P t 1 by'] (hx : ev env x = some (.pointer (some ⟨b, o, none⟩))) (hy : ev env y = some v)
    (hl : At F hs b (cells l u)) (h1c : v.oneCell' = true) (hset : SetAt l o v l') (hr : Repl hs (one b (cells l u)) (one b (cells l' u)) hs') (k : K undef hs') : WO P n B F (.store t x y) ty env hs K := WO.store hx hy h1c hr hset k
theorem WO.storeA' {t : TypeId} {x y : Operand} {b sz by' : Nat} {vs l : List Value} {u : TypeId} {hs' : List Hp} {K : Value → List Hp → Prop} [hz : SZ P t sz by'] (hx : ev env x = some (.pointer (some ⟨b, 0, none⟩))) (hy : ev env y = some (.agg vs.toArray))
    (hl : At F hs b (cells l u)) (hl' : l.length = sz) (hlv : vs.length = sz) (h1c : vs.all (·.oneCell') = true) (hr : Repl hs (one b (cells l u)) (one b (cells vs u)) hs') (k : K undef hs') : WO P n B F (.store t x y) ty env hs K := WO.storeAll hx hy hlv hl' h1c hr k
theorem Rn.cmp {op : BinOp} {xt yt : TypeId} {x y : Operand} {k : IntKind} {i j : Int} {b : Bool} (hx : ev env x = some (.int k i)) (hy : ev env y = some (.int k j))
    (hb : (match op with | .eql => some (i == j) | .neq => some (i != j) | .lss => some (decide (i < j)) | .leq => some (decide (i ≤ j)) | .gtr => some (decide (j < i)) | .geq => some (decide (j ≤ i)) | _ => none) = some b) :
    Rn P F hs (.binOp op xt x y yt) ty env (.bool b) := fun o h1 h2 n B a w he ho => by
  unfold execOp
  simp only [h1, he.ev hx, he.ev hy]
  cases op <;> simp at hb <;> subst hb <;> simp [eqGuard, binOp, Op.intCmp]
theorem Rn.addW {xt yt : TypeId} {x y : Operand} {k : IntKind} {i j : Int} (hx : ev env x = some (.int k i)) (hy : ev env y = some (.int k j)) : Rn P F hs (.binOp .add xt x y yt) ty env (.int k (k.wrap (i + j))) := fun o h1 h2 n B a w he ho => by
  unfold execOp; simp [h1, he.ev hx, he.ev hy, eqGuard, binOp, Op.intArith]
theorem Rn.subW {xt yt : TypeId} {x y : Operand} {k : IntKind} {i j : Int} (hx : ev env x = some (.int k i)) (hy : ev env y = some (.int k j)) : Rn P F hs (.binOp .sub xt x y yt) ty env (.int k (k.wrap (i - j))) := fun o h1 h2 n B a w he ho => by
  unfold execOp; simp [h1, he.ev hx, he.ev hy, eqGuard, binOp, Op.intArith]
theorem Rn.mulW {xt yt : TypeId} {x y : Operand} {k : IntKind} {i j : Int} (hx : ev env x = some (.int k i)) (hy : ev env y = some (.int k j)) : Rn P F hs (.binOp .mul xt x y yt) ty env (.int k (k.wrap (i * j))) := fun o h1 h2 n B a w he ho => by
  unfold execOp; simp [h1, he.ev hx, he.ev hy, eqGuard, binOp, Op.intArith]
theorem wrap_i64 {i : Int} (h : -9223372036854775808 ≤ i ∧ i ≤ 9223372036854775807) : IntKind.i64.wrap i = i := by
  simp only [IntKind.wrap, IntKind.bits, IntKind.signed]
  have : (2 : Int) ^ 64 = 18446744073709551616 := by decide
  have h2 : (2 : Int) ^ (64 - 1) = 9223372036854775808 := by decide
  simp [this, h2]
  omega
theorem Rn.add {xt yt : TypeId} {x y : Operand} {i j : Int} (hx : ev env x = some (.int .i64 i)) (hy : ev env y = some (.int .i64 j)) (h : -9223372036854775808 ≤ i + j ∧ i + j ≤ 9223372036854775807) : Rn P F hs (.binOp .add xt x y yt) ty env (.int .i64 (i + j)) := by
  have := Rn.addW (P := P) (F := F) (hs := hs) (ty := ty) (xt := xt) (yt := yt) hx hy
  rwa [wrap_i64 h] at this
theorem Rn.sub {xt yt : TypeId} {x y : Operand} {i j : Int} (hx : ev env x = some (.int .i64 i)) (hy : ev env y = some (.int .i64 j)) (h : -9223372036854775808 ≤ i - j ∧ i - j ≤ 9223372036854775807) : Rn P F hs (.binOp .sub xt x y yt) ty env (.int .i64 (i - j)) := by
  have := Rn.subW (P := P) (F := F) (hs := hs) (ty := ty) (xt := xt) (yt := yt) hx hy
  rwa [wrap_i64 h] at this
theorem Rn.mul {xt yt : TypeId} {x y : Operand} {i j : Int} (hx : ev env x = some (.int .i64 i)) (hy : ev env y = some (.int .i64 j)) (h : -9223372036854775808 ≤ i * j ∧ i * j ≤ 9223372036854775807) : Rn P F hs (.binOp .mul xt x y yt) ty env (.int .i64 (i * j)) := by
  have := Rn.mulW (P := P) (F := F) (hs := hs) (ty := ty) (xt := xt) (yt := yt) hx hy
  rwa [wrap_i64 h] at this
theorem Rn.quo {xt yt : TypeId} {x y : Operand} {i j : Int} (hx : ev env x = some (.int .i64 i)) (hy : ev env y = some (.int .i64 j)) (h0 : j ≠ 0) (h : -9223372036854775808 ≤ i.tdiv j ∧ i.tdiv j ≤ 9223372036854775807) : Rn P F hs (.binOp .quo xt x y yt) ty env (.int .i64 (i.tdiv j)) := fun o h1 h2 n B a w he ho => by
  unfold execOp; simp [h1, he.ev hx, he.ev hy, eqGuard, binOp, Op.intDiv, h0, wrap_i64 h]
theorem Rn.rem {xt yt : TypeId} {x y : Operand} {i j : Int} (hx : ev env x = some (.int .i64 i)) (hy : ev env y = some (.int .i64 j)) (h0 : j ≠ 0) : Rn P F hs (.binOp .rem xt x y yt) ty env (.int .i64 (i.tmod j)) := fun o h1 h2 n B a w he ho => by
  unfold execOp; simp [h1, he.ev hx, he.ev hy, eqGuard, binOp, Op.intDiv, h0]
theorem Rn.not {t : TypeId} {x : Operand} {b : Bool} (hx : ev env x = some (.bool b)) : Rn P F hs (.unOp .not t x) ty env (.bool (!b)) := fun o h1 h2 n B a w he ho => by
  unfold execOp; simp [h1, he.ev hx, Op.unary]
theorem run_equal {t : TypeId} {x y : Value} {w : World} {r : Result Bool} (h : ∀ d, (Op.equalIn (d + 1) t x y).run P w = r) : (Op.equal t x y).run P w = r := h 9999
theorem Rn.eqB {xt yt : TypeId} {x y : Operand} {b c : Bool} [hu : UT P xt .bool] (hx : ev env x = some (.bool b)) (hy : ev env y = some (.bool c)) : Rn P F hs (.binOp .eql xt x y yt) ty env (.bool (b == c)) := fun o h1 h2 n B a w he ho => by
  have e : (Op.equal xt (.bool b) (.bool c)).run P w = .ok (b == c) w := run_equal fun d => by simp [Op.equalIn, run_underlying hu.eq]
  unfold execOp; simp [h1, he.ev hx, he.ev hy, eqGuard, binOp, e]
theorem Rn.neB {xt yt : TypeId} {x y : Operand} {b c : Bool} [hu : UT P xt .bool] (hx : ev env x = some (.bool b)) (hy : ev env y = some (.bool c)) : Rn P F hs (.binOp .neq xt x y yt) ty env (.bool (!(b == c))) := fun o h1 h2 n B a w he ho => by
  have e : (Op.equal xt (.bool b) (.bool c)).run P w = .ok (b == c) w := run_equal fun d => by simp [Op.equalIn, run_underlying hu.eq]
  unfold execOp; simp [h1, he.ev hx, he.ev hy, eqGuard, binOp, e]
theorem Rn.eqP {xt yt e : TypeId} {x y : Operand} {a : Option Addr} [hu : UT P xt (.pointer e)] (hx : ev env x = some (.pointer a)) (hy : ev env y = some (.pointer none)) : Rn P F hs (.binOp .eql xt x y yt) ty env (.bool a.isNone) := fun o h1 h2 n B ac w he ho => by
  have e : (Op.equal xt (.pointer a) (.pointer none)).run P w = .ok a.isNone w := run_equal fun d => by cases a <;> simp [Op.equalIn, run_underlying hu.eq]
  unfold execOp; simp [h1, he.ev hx, he.ev hy, eqGuard, binOp, e]
theorem Rn.neP {xt yt e : TypeId} {x y : Operand} {a : Option Addr} [hu : UT P xt (.pointer e)] (hx : ev env x = some (.pointer a)) (hy : ev env y = some (.pointer none)) : Rn P F hs (.binOp .neq xt x y yt) ty env (.bool (!a.isNone)) := fun o h1 h2 n B ac w he ho => by
  have e : (Op.equal xt (.pointer a) (.pointer none)).run P w = .ok a.isNone w := run_equal fun d => by cases a <;> simp [Op.equalIn, run_underlying hu.eq]
  unfold execOp; simp [h1, he.ev hx, he.ev hy, eqGuard, binOp, e]
theorem Rn.eqS {xt yt e : TypeId} {x y : Operand} {a : Option Addr} {m c m' c' : Nat} [hu : UT P xt (.slice e)] (hx : ev env x = some (.slice a m c)) (hy : ev env y = some (.slice none m' c')) : Rn P F hs (.binOp .eql xt x y yt) ty env (.bool a.isNone) := fun o h1 h2 n B ac w he ho => by
  have e : (Op.equal xt (.slice a m c) (.slice none m' c')).run P w = .ok a.isNone w := run_equal fun d => by cases a <;> simp [Op.equalIn, run_underlying hu.eq]
  unfold execOp; simp [h1, he.ev hx, he.ev hy, eqGuard, binOp, e]
theorem Rn.min {x y : Operand} {ts : Array TypeId} {k : IntKind} {i j : Int} (hx : ev env x = some (.int k i)) (hy : ev env y = some (.int k j)) : Rn P F hs (.call ⟨.builtin .min, #[x, y], ts⟩) ty env (.int k (if j < i then j else i)) := fun o h1 h2 n B a w he ho => by
  unfold execOp; simp [h1, resolve, invoke, builtin, he.ev hx, he.ev hy, Builtin.min_, Builtin.min2]
theorem Rn.max {x y : Operand} {ts : Array TypeId} {k : IntKind} {i j : Int} (hx : ev env x = some (.int k i)) (hy : ev env y = some (.int k j)) : Rn P F hs (.call ⟨.builtin .max, #[x, y], ts⟩) ty env (.int k (if i < j then j else i)) := fun o h1 h2 n B a w he ho => by
  unfold execOp; simp [h1, resolve, invoke, builtin, he.ev hx, he.ev hy, Builtin.max_, Builtin.max2]
theorem Rn.len {x : Operand} {t e m c : Nat} {a : Option Addr} [hu : UT P t (.slice e)] (hx : ev env x = some (.slice a m c)) : Rn P F hs (.call ⟨.builtin .len, #[x], #[t]⟩) ty env (.int .i64 m) := fun o h1 h2 n B a w he ho => by
  unfold execOp; simp [h1, resolve, invoke, builtin, he.ev hx, Builtin.len_, run_underlying hu.eq, goInt]
theorem WL.loadA {ops : Array Oper} {Q : Post} {rest : List Oper} {d : Nat} {pos : String} {aft : Array Edge} {t u sz by' : TypeId} {x : Operand} {b : Nat} {l : List Value} [hn : AG P t] [hz : SZ P t sz by'] (hd : Nat.blt d n = true)
    (hx : ev env x = some (.pointer (some ⟨b, 0, none⟩))) (hc : At F hs b (cells l u)) (hv : l.length = sz) (k : WL P n B F ops Q rest ((d, some (.agg l.toArray)) :: env) hs) : WL P n B F ops Q (⟨some d, .load t x, ty, pos, aft, none⟩ :: rest) env hs :=
  WL.rd hd (Rn.loadS hx (CellsAt.all hc) hv) k
theorem WL.store {ops : Array Oper} {Q : Post} {rest : List Oper} {pos : String} {aft : Array Edge} {t u by' : TypeId} {x y : Operand} {b o : Nat} {v : Value} {l l' : List Value} {hs' : List Hp} [hz : SZ P t 1 by'] (hx : ev env x = some (.pointer (some ⟨b, o, none⟩))) (hy : ev env y = some v)
    (hl : At F hs b (cells l u)) (h1c : v.oneCell' = true) (hset : SetAt l o v l') (hr : Repl hs (one b (cells l u)) (one b (cells l' u)) hs') (k : WL P n B F ops Q rest env hs') : WL P n B F ops Q (⟨none, .store t x y, ty, pos, aft, none⟩ :: rest) env hs :=
  WL.ex0 (WO.store hx hy h1c hr hset k)
theorem WL.storeA {ops : Array Oper} {Q : Post} {rest : List Oper} {pos : String} {aft : Array Edge} {t u sz by' : TypeId} {x y : Operand} {b : Nat} {l vs : List Value} {hs' : List Hp} [hz : SZ P t sz by'] (hx : ev env x = some (.pointer (some ⟨b, 0, none⟩))) (hy : ev env y = some (.agg vs.toArray))
    (hl : At F hs b (cells l u)) (hl' : l.length = sz) (hlv : vs.length = sz) (h1c : vs.all (·.oneCell') = true) (hr : Repl hs (one b (cells l u)) (one b (cells vs u)) hs') (k : WL P n B F ops Q rest env hs') : WL P n B F ops Q (⟨none, .store t x y, ty, pos, aft, none⟩ :: rest) env hs :=
  WL.ex0 (WO.storeAll hx hy hlv hl' h1c hr k)
end
end Go.Proofs.YtflgnpidelkkpaaGreat
namespace Go.Proofs.YtflgnpidelkkpaaGreat
set_option maxRecDepth 8000
set_option linter.unusedVariables false
set_option linter.unusedSimpArgs false
section
variable {P : Program} {n : Nat} {B : World} {F : Hp} {hs : List Hp} {env : Env} {ty : TypeId} {fn : Func} {K : Value → List Hp → Prop}
theorem X.ret0 (hr : fn.results = #[]) (k : ∃ ks, Keep hs ks ∧ K (.tuple #[]) ks) : X n B F (bodyPost P fn (RR B F K)) .ret env hs := fun a w he ho =>
  bodyPost_ret (results_none hr a.tmps P w) he.defers (by obtain ⟨ks, hk, k⟩ := k; exact ⟨_, ks, rfl, k, hk.own ho⟩)
theorem X.end0 (hr : fn.results = #[]) (k : ∃ ks, Keep hs ks ∧ K (.tuple #[]) ks) : X n B F (bodyPost P fn (RR B F K)) .normal env hs := fun a w he ho =>
  bodyPost_end (results_none hr a.tmps P w) he.defers (by obtain ⟨ks, hk, k⟩ := k; exact ⟨_, ks, rfl, k, hk.own ho⟩)
theorem X.ret1 {t : Tmp} {v : Value} (hr : fn.results = #[.tmp t]) (hv : lk env t = some v) (k : ∃ ks, Keep hs ks ∧ K v ks) : X n B F (bodyPost P fn (RR B F K)) .ret env hs := fun a w he ho => by
  refine bodyPost_ret (results_tmp hr a.tmps P w) he.defers ?_
  obtain ⟨ks, hk, k⟩ := k
  refine ⟨_, ks, rfl, ?_, hk.own ho⟩
  rw [he.val _ _ hv]; exact k
theorem X.ret2 {t u : Tmp} {v v' : Value} (hr : fn.results = #[.tmp t, .tmp u]) (hv : lk env t = some v) (hv' : lk env u = some v') (k : ∃ ks, Keep hs ks ∧ K (.tuple #[v, v']) ks) : X n B F (bodyPost P fn (RR B F K)) .ret env hs := fun a w he ho => by
  refine bodyPost_ret (results_tmp2 hr a.tmps P w) he.defers ?_
  obtain ⟨ks, hk, k⟩ := k
  refine ⟨_, ks, rfl, ?_, hk.own ho⟩
  rw [he.val _ _ hv, he.val _ _ hv']; exact k
theorem X.ret3 {t u s : Tmp} {v v' v'' : Value} (hr : fn.results = #[.tmp t, .tmp u, .tmp s]) (hv : lk env t = some v) (hv' : lk env u = some v') (hv'' : lk env s = some v'') (k : ∃ ks, Keep hs ks ∧ K (.tuple #[v, v', v'']) ks) : X n B F (bodyPost P fn (RR B F K)) .ret env hs := fun a w he ho => by
  refine bodyPost_ret (v := .tuple #[v, v', v'']) ?_ he.defers (by obtain ⟨ks, hk, k⟩ := k; exact ⟨_, ks, rfl, k, hk.own ho⟩)
  have e1 := he.val _ _ hv; have e2 := he.val _ _ hv'; have e3 := he.val _ _ hv''
  simp only [Array.getD_eq_getD_getElem?] at e1 e2 e3
  simp [results, hr, e1, e2, e3]
theorem X.ret4 {t u s r : Tmp} {v v' v'' v3 : Value} (hr : fn.results = #[.tmp t, .tmp u, .tmp s, .tmp r]) (hv : lk env t = some v) (hv' : lk env u = some v') (hv'' : lk env s = some v'') (hv3 : lk env r = some v3) (k : ∃ ks, Keep hs ks ∧ K (.tuple #[v, v', v'', v3]) ks) : X n B F (bodyPost P fn (RR B F K)) .ret env hs := fun a w he ho => by
  refine bodyPost_ret (v := .tuple #[v, v', v'', v3]) ?_ he.defers (by obtain ⟨ks, hk, k⟩ := k; exact ⟨_, ks, rfl, k, hk.own ho⟩)
  have e1 := he.val _ _ hv; have e2 := he.val _ _ hv'; have e3 := he.val _ _ hv''; have e4 := he.val _ _ hv3
  simp only [Array.getD_eq_getD_getElem?] at e1 e2 e3 e4
  simp [results, hr, e1, e2, e3, e4]
theorem run_loadVarS {t b sz by' : Nat} {vs : List Value} [hn : AG P t] [hz : SZ P t sz by'] {w : World} (hl : vs.length = sz) (hc : CellsAt F hs b 0 vs) (ho : Own B F hs w) : (loadVar t ⟨b, 0, none⟩).run P w = .ok (.agg vs.toArray) w := by
  have hcells : (loadCells ⟨b, 0, none⟩ vs.length).run P w = .ok vs.toArray w := run_loadCells_list (P := P) w ⟨b, 0, none⟩ vs fun j v e => by
    have := (hc j v e).get ho
    unfold Addr.add
    by_cases h0 : j = 0
    · subst h0; simpa using this
    · simpa [h0] using this
  simp only [loadVar, Sem.run_bind, run_agg hn.eq, Result.andThen_ok, if_true, run_size hz.eq, ← hl, hcells, Sem.run_pure]
theorem X.retS {p : Tmp} {t b sz by' : Nat} {l : List Value} {u : TypeId} (hr : fn.results = #[.cell p t]) (hn : AG P t) (hz : SZ P t sz by') (hv : lk env p = some (.pointer (some ⟨b, 0, none⟩))) (hc : At F hs b (cells l u)) (hl : l.length = sz) (k : ∃ ks, Keep hs ks ∧ K (.agg l.toArray) ks) : X n B F (bodyPost P fn (RR B F K)) .ret env hs := fun a w he ho => by
  refine bodyPost_ret (v := .agg l.toArray) ?_ he.defers (by obtain ⟨ks, hk, k⟩ := k; exact ⟨_, ks, rfl, k, hk.own ho⟩)
  have e1 := he.val _ _ hv
  simp only [Array.getD_eq_getD_getElem?] at e1
  have := run_loadVarS (P := P) (t := t) hl (CellsAt.all hc) ho
  simp [results, hr, e1, asAddr, this]
theorem X.retSt {p q : Tmp} {t b sz by' : Nat} {l : List Value} {v : Value} {u : TypeId} (hr : fn.results = #[.cell p t, .tmp q]) (hn : AG P t) (hz : SZ P t sz by') (hv : lk env p = some (.pointer (some ⟨b, 0, none⟩))) (hq : lk env q = some v) (hc : At F hs b (cells l u)) (hl : l.length = sz) (k : ∃ ks, Keep hs ks ∧ K (.tuple #[.agg l.toArray, v]) ks) : X n B F (bodyPost P fn (RR B F K)) .ret env hs := fun a w he ho => by
  refine bodyPost_ret (v := .tuple #[.agg l.toArray, v]) ?_ he.defers (by obtain ⟨ks, hk, k⟩ := k; exact ⟨_, ks, rfl, k, hk.own ho⟩)
  have e1 := he.val _ _ hv; have e2 := he.val _ _ hq
  have := run_loadVarS (P := P) (t := t) hl (CellsAt.all hc) ho
  rw [results_cell_tmp hr, e1, e2]
  simp [asAddr, this, Result.andThen]
theorem WO.call0 {f : FuncId} {fn : Func} {c : Code} {xs : Array Operand} {ts : Array TypeId} {args : List Value} {K' : Value → List Hp → Prop} (hf : P.funcs[f]? = some fn) (hb : fn.body = some c) (hnm : (fn.name == "runtime.NumGoroutine") = false)
    (hx : evs env xs.toList = some args) (hc : ∀ G, F.le G → (∀ h ∈ hs, h.le G) → Spec P f args G [] K') (hk : ∀ v own', K' v own' → K v (own' ++ hs)) : WO P n B F (.call ⟨.value (.func f), xs, ts⟩) ty env hs K := by
  intro o h1 h2 a w he ho next Q hn
  exact WO.call (K := fun v hs' => ∃ own', K' v own' ∧ hs' = hs ++ own') hf hb hnm hx (own := []) (rest' := hs) (by simp) hc (fun v own' h => ⟨own', h, rfl⟩) o h1 h2 a w he ho next Q fun v hs' w' ⟨own', k1, e⟩ o' => by
    subst e
    exact hn v _ w' (hk v own' k1) (o'.perm List.perm_append_comm)
theorem At.up {G : Hp} {b : Nat} {o : Obj} (h : At F hs b o) (hF : F.le G) (hr : ∀ k ∈ hs, k.le G) : G.get b = some o := by
  induction h with
  | ro h => exact hF _ _ h
  | here h => exact hr _ (.head _) _ _ h
  | one => exact hr _ (.head _) _ _ (one_get _ _)
  | there _ ih => exact ih fun k hk => hr k (.tail _ hk)
inductive SpAt : List Value → Nat → List Value → List Value → Prop where
  | nil {l : List Value} : SpAt l 0 [] l
  | put {x v : Value} {l l' vs : List Value} : SpAt l 0 vs l' → SpAt (x :: l) 0 (v :: vs) (v :: l')
  | skip {x : Value} {l l' vs : List Value} {i : Nat} : SpAt l i vs l' → SpAt (x :: l) (i + 1) vs (x :: l')
theorem SpAt.eq {l l' vs : List Value} {i : Nat} (h : SpAt l i vs l') : splice l i vs = l' ∧ i + vs.length ≤ l.length := by
  induction h with
  | nil => simp [splice]
  | put _ ih =>
    obtain ⟨h1, h2⟩ := ih
    refine ⟨?_, by simp only [List.length_cons]; omega⟩
    simp only [splice, List.take_zero, List.nil_append, Nat.zero_add, List.length_cons, List.drop_succ_cons, List.cons_append] at h1 ⊢
    rw [h1]
  | skip _ ih =>
    obtain ⟨h1, h2⟩ := ih
    refine ⟨?_, by simp only [List.length_cons]; omega⟩
    simp only [splice, List.length_cons, List.take_succ_cons, List.cons_append, Nat.succ_add, List.drop_succ_cons] at h1 ⊢
    rw [h1]
theorem fold_splice (off : Nat) : ∀ (vs : List Value) (k : Nat) (l : List Value), off + k + vs.length ≤ l.length → (vs.zipIdx k).foldl (fun cs x => cs.set (off + x.2) x.1) l = splice l (off + k) vs
  | [], k, l, _ => by simp [splice]
  | v :: vs, k, l, h => by
    simp only [List.length_cons] at h
    rw [List.zipIdx_cons, List.foldl_cons, fold_splice off vs (k + 1) _ (by simp; omega)]
    have := list_seg_step l (off + k) v vs (by omega)
    unfold splice
    simpa [Nat.add_assoc, Nat.add_comm, Nat.add_left_comm] using this
theorem fold_arr (off : Nat) (vs l : List Value) (h : off + vs.length ≤ l.length) : vs.toArray.zipIdx.foldl (fun cs x => cs.setIfInBounds (off + x.2) x.1) l.toArray = (splice l off vs).toArray := by
  have e := fold_splice off vs 0 l (by omega)
  rw [Nat.add_zero] at e
  rw [← e, ← Array.foldl_toList]
  have hz : vs.toArray.zipIdx.toList = vs.zipIdx := by simp
  rw [hz]
  generalize vs.zipIdx = zs
  clear e h hz
  induction zs generalizing l with
  | nil => rfl
  | cons z zs ih =>
    simp only [List.foldl_cons]
    rw [show l.toArray.setIfInBounds (off + z.2) z.1 = (l.set (off + z.2) z.1).toArray by simp]
    exact ih _
def placesOf (P : Program) (t : TypeId) : Option (List (Nat × Nat)) := match P.underlying t with
  | some (.struct fs) => fs.toList.mapM fun f => (P.info? f.type).map fun i => (f.offset, i.size)
  | _ => none
class PL (P : Program) (t : TypeId) (pl : outParam (List (Nat × Nat))) : Prop where
  eq : placesOf P t = some pl
inductive Fill (pl : List (Nat × Nat)) (env : Env) : List (Nat × Operand) → List Value → List Value → Prop where
  | nil {l : List Value} : Fill pl env [] l l
  | cell {f : Nat} {x : Operand} {r : List (Nat × Operand)} {off : Nat} {v : Value} {l l' l'' : List Value} : pl[f]? = some (off, 1) → ev env x = some v → v.oneCell' = true → SetAt l off v l' → Fill pl env r l' l'' → Fill pl env ((f, x) :: r) l l''
  | part {f : Nat} {x : Operand} {r : List (Nat × Operand)} {off sz : Nat} {vs l l' l'' : List Value} : pl[f]? = some (off, sz) → ev env x = some (.agg vs.toArray) → vs.length = sz → SpAt l off vs l' → Fill pl env r l' l'' → Fill pl env ((f, x) :: r) l l''
theorem Fill.run {pl : List (Nat × Nat)} {place : Nat → Option (Nat × Nat)} (hpl : ∀ f q, pl[f]? = some q → place f = some q) {a : Act} (he : E n env a) {ps : List (Nat × Operand)} {l l' : List Value} (h : Fill pl env ps l l') : Instr.fill place l.toArray (ps.map fun p => (p.1, a.eval p.2)) = some l'.toArray := by
  have key : ∀ {f : Nat} {x : Operand} {r : List (Nat × Operand)} {off sz : Nat} {v : Value} {vs l l' : List Value} {q : Option (Array Value)}, pl[f]? = some (off, sz) → a.eval x = v → v.cells = vs.toArray → vs.length = sz → splice l off vs = l' → off + vs.length ≤ l.length →
      Instr.fill place l'.toArray (r.map fun p => (p.1, a.eval p.2)) = q → Instr.fill place l.toArray (((f, x) :: r).map fun p => (p.1, a.eval p.2)) = q := by
    intro f x r off sz v vs l l' q hp hx hc hl hs hle ih
    have hp' := hpl _ _ hp
    simp only [List.map_cons, Instr.fill, hp', hx, hc]
    rw [if_neg (by simp; omega)]
    have e2 := fold_arr off vs l hle
    rw [hs] at e2
    exact (congrArg (fun z => Instr.fill place z (r.map fun p => (p.1, a.eval p.2))) e2).trans ih
  induction h with
  | nil => rfl
  | @cell f x r off v l l' l'' hp hx h1 hset _ ih =>
    obtain ⟨e1, e2⟩ := hset.eq
    exact key hp (he.ev hx) (vs := [v]) (by cases v <;> first | rfl | (simp [Value.oneCell'] at h1)) rfl e1 e2 ih
  | @part f x r off sz vs l l' l'' hp hx hl hset _ ih =>
    obtain ⟨e1, e2⟩ := hset.eq
    exact key hp (he.ev hx) (vs := vs) rfl hl e1 e2 ih
theorem Rn.build {t : Nat} {ps : Array (Nat × Operand)} {z : Value} {pl : List (Nat × Nat)} {l l' : List Value} [hz : ZR P t z l] [hp : PL P t pl] (hf : Fill pl env ps.toList l l') : Rn P F hs (.build t ps) ty env (.agg l'.toArray) := fun o h1 h2 n B a w he ho => by
  have hb : P.built t (ps.map fun p => (p.1, a.eval p.2)).toList = some l'.toArray := by
    have h1 := hz.eq
    have h2 := hp.eq
    unfold zeroOf at h1
    unfold placesOf at h2
    unfold Program.built
    cases hi : P.info? t with
    | none => rw [hi] at h1; cases h1
    | some it =>
      rw [hi] at h1
      simp only [Option.bind_some] at h1
      split at h2
      · next fs hu =>
        simp only [hu, h1, h2, hz.cells]
        have := Fill.run (place := (pl.toArray[·]?)) (fun f q h => by simpa using h) he hf
        simpa using this
      · cases h2
  unfold execOp
  have := run_build (P := P) w t (ps.map fun p => (p.1, a.eval p.2)) _ hb
  simp only [h1, Sem.run_bind]
  rw [show (ps.map fun x => match x with | (i, x) => (i, a.eval x)) = ps.map fun p => (p.1, a.eval p.2) from rfl, this]
  rfl
end
end Go.Proofs.YtflgnpidelkkpaaGreat
