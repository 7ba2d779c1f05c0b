/- Still more operations: equality of structs, copy. -/
import Derived.Test.YtfaeemahdkobfaaOps3
import Derived.Laws.StructEq
namespace Go.Proofs.Ytfaeemahdkobfaa
set_option linter.unusedVariables false
set_option linter.unusedSimpArgs false
/-- a struct of numbers and bools, a cell each: for each field, is it a bool? -/
def flatFrom (P : Program) : Nat → List Field → Option (List Bool)
  | _, [] => some []
  | i, f :: fs => if f.name ≠ "_" ∧ f.offset = i then
      match P.underlying f.type, flatFrom P (i + 1) fs with
      | some (.int _), some ks => some (false :: ks)
      | some .bool, some ks => some (true :: ks)
      | _, _ => none
    else none
def flatOf (P : Program) (t : TypeId) : Option (List Bool) := match P.underlying t with
  | some (.struct fs) => flatFrom P 0 fs.toList
  | _ => none
class EQ (P : Program) (t : TypeId) (ks : outParam (List Bool)) : Prop where
  eq : flatOf P t = some ks
  st : P.stoodInHeld t = false
  gd : P.eqGuardType P.depth t = false
def eqV : Value → Value → Bool
  | .int _ a, .int _ b => a == b
  | .bool a, .bool b => a == b
  | _, _ => false
def eqL : List Value → List Value → Bool
  | x :: xs, y :: ys => eqV x y && eqL xs ys
  | _, _ => true
def fits : List Bool → List Value → List Value → Bool
  | [], [], [] => true
  | false :: ks, .int k _ :: xs, .int k' _ :: ys => decide (k = k') && fits ks xs ys
  | true :: ks, .bool _ :: xs, .bool _ :: ys => fits ks xs ys
  | _, _, _ => false
theorem run_partCell {P : Program} {t : TypeId} (h : aggOf P t = some false) {cs : Array Value} {i : Nat} {v : Value} (hv : cs[i]? = some v) (w : World) : (part t cs i).run P w = .ok v w := by
  unfold part
  simp only [Sem.run_bind, run_agg h, Result.andThen_ok, Bool.false_eq_true, if_false, hv, Sem.run_pure]
theorem run_eqFlat {P : Program} (d : Nat) (w : World) : ∀ (fs : List Field) (ks : List Bool) (pre pre' xs ys : List Value), flatFrom P pre.length fs = some ks → pre'.length = pre.length → fits ks xs ys = true →
    (Op.eqFields (d + 1) (pre ++ xs).toArray (pre' ++ ys).toArray fs).run P w = .ok (eqL xs ys) w
  | [], ks, pre, pre', xs, ys, h, hl, hf => by
    simp only [flatFrom, Option.some.injEq] at h
    subst h
    cases xs <;> cases ys <;> simp_all [fits, Op.eqFields, eqL]
  | f :: fs, ks, pre, pre', xs, ys, h, hl, hf => by
    simp only [flatFrom] at h
    split at h
    · next hn =>
      have hcell : ∀ (x : Value) (xs : List Value), (pre ++ x :: xs).toArray[f.offset]? = some x := fun x xs => by rw [hn.2]; simp
      have hcell' : ∀ (x : Value) (xs : List Value), (pre' ++ x :: xs).toArray[f.offset]? = some x := fun x xs => by rw [hn.2, ← hl]; simp
      split at h
      · next k ks' hu hk =>
        simp only [Option.some.injEq] at h
        subst h
        have hag : aggOf P f.type = some false := by unfold aggOf; rw [hu]; rfl
        cases xs with
        | nil => simp [fits] at hf
        | cons x xs =>
          cases ys with
          | nil => cases x <;> simp [fits] at hf
          | cons y ys =>
            cases x <;> cases y <;> simp only [fits, Bool.and_eq_true, decide_eq_true_eq, Bool.false_eq_true] at hf
            next k1 a k2 b =>
            obtain ⟨rfl, hf⟩ := hf
            have ih := run_eqFlat d w fs ks' (pre ++ [.int k1 a]) (pre' ++ [.int k1 b]) xs ys (by simpa using hk) (by simp [hl]) hf
            simp only [List.append_assoc, List.singleton_append] at ih
            simp only [Op.eqFields]
            rw [if_pos hn.1]
            simp only [Sem.run_bind, run_partCell hag (hcell _ _), run_partCell hag (hcell' _ _), Result.andThen_ok, run_equalIn_int _ _ _ _ _ _ _ hu, Sem.run_ite, ih, eqL, eqV]
            cases hab : a == b <;> simp
      · next ks' hu hk =>
        simp only [Option.some.injEq] at h
        subst h
        have hag : aggOf P f.type = some false := by unfold aggOf; rw [hu]; rfl
        cases xs with
        | nil => simp [fits] at hf
        | cons x xs =>
          cases ys with
          | nil => cases x <;> simp [fits] at hf
          | cons y ys =>
            cases x <;> cases y <;> simp only [fits, Bool.false_eq_true] at hf
            next a b =>
            have ih := run_eqFlat d w fs ks' (pre ++ [.bool a]) (pre' ++ [.bool b]) xs ys (by simpa using hk) (by simp [hl]) hf
            simp only [List.append_assoc, List.singleton_append] at ih
            simp only [Op.eqFields]
            rw [if_pos hn.1]
            simp only [Sem.run_bind, run_partCell hag (hcell _ _), run_partCell hag (hcell' _ _), Result.andThen_ok, run_equalIn_bool' _ _ _ _ _ hu, Sem.run_ite, ih, eqL, eqV]
            cases hab : a == b <;> simp
      · cases h
    · cases h
section
variable {P : Program} {n : Nat} {B : World} {F : Hp} {hs : List Hp} {env : Env} {ty : TypeId} {K : Value → List Hp → Prop}
theorem run_eqAgg {t : TypeId} {ks : List Bool} [hq : EQ P t ks] {xs ys : List Value} (hf : fits ks xs ys = true) (w : World) : (Op.equal t (.agg xs.toArray) (.agg ys.toArray)).run P w = .ok (eqL xs ys) w := by
  have h := hq.eq
  unfold flatOf at h
  split at h
  · next fs hu =>
    have hfo : P.fieldsOf t = fs := by unfold Program.fieldsOf; rw [hu]
    have := run_equalIn_struct (P := P) w 9999 t xs.toArray ys.toArray (by rw [hfo]; exact hu) hq.st
    rw [hfo] at this
    exact this.trans (run_eqFlat 9998 w fs.toList ks [] [] xs ys h rfl hf)
  · cases h
theorem run_guardAgg {t : TypeId} {ks : List Bool} [hq : EQ P t ks] {op : BinOp} {x y : Operand} {xs ys : Array Value} (w : World) : (eqGuard op t x y (.agg xs) (.agg ys)).run P w = .ok () w := by
  unfold eqGuard
  cases op <;> simp [hq.gd]
theorem Rn.eqA {t yt : TypeId} {ks : List Bool} {x y : Operand} {xs ys : List Value} [hq : EQ P t ks] (hx : ev env x = some (.agg xs.toArray)) (hy : ev env y = some (.agg ys.toArray)) (hf : fits ks xs ys = true) : Rn P F hs (.binOp .eql t x y yt) ty env (.bool (eqL xs ys)) := fun o h1 h2 n B a w he ho => by
  unfold execOp
  simp only [h1, he.ev hx, he.ev hy, Sem.run_bind, run_guardAgg (P := P) (t := t) w, Result.andThen_ok, binOp, run_eqAgg (P := P) (t := t) hf w, Sem.run_pure]
theorem Rn.neA {t yt : TypeId} {ks : List Bool} {x y : Operand} {xs ys : List Value} [hq : EQ P t ks] (hx : ev env x = some (.agg xs.toArray)) (hy : ev env y = some (.agg ys.toArray)) (hf : fits ks xs ys = true) : Rn P F hs (.binOp .neq t x y yt) ty env (.bool (!(eqL xs ys))) := fun o h1 h2 n B a w he ho => by
  unfold execOp
  simp only [h1, he.ev hx, he.ev hy, Sem.run_bind, run_guardAgg (P := P) (t := t) w, Result.andThen_ok, binOp, run_eqAgg (P := P) (t := t) hf w, Sem.run_pure]
/-- copy into a slice of the call's own -/
theorem WO.copy {t e sz by' : Nat} {s x : Operand} {b o nn c m c2 mm : Nat} {A2 : Option Addr} {l cs : List Value} {u : TypeId} {hs' : List Hp} [hu : UT P t (.slice e)] [hz : SZ P e sz by'] (hs1 : ev env s = some (.slice (some ⟨b, o, none⟩) nn c)) (hx : ev env x = some (.slice A2 m c2))
    (hm : Nat.min m nn = mm) (hl : cs.length = mm * sz) (hr : RowAt F hs A2 cs) (h1c : cs.all (·.oneCell') = true) (hrp : Repl hs (one b (cells l u)) (one b (cells (splice l o cs) u)) hs') (hin : o + cs.length ≤ l.length) (k : K (.int .i64 mm) hs') : WO P n B F (.call ⟨.builtin .copy, #[s, x], #[t, t]⟩) ty env hs K :=
  fun op h1 h2 a w he ho next Q hn => by
    obtain ⟨r, p1, p2⟩ := hrp.perm
    have H := ho.perm p1
    have hrow := hr.get ho
    have hg : w.heap[b]? = some (.cells l.toArray u (0, 0)) := H.all _ (.head _) _ _ (one_get _ _)
    have hst := run_storeCells_at P b o u cs 0 l.toArray w hg (by simpa using hin) (fun v hv => List.all_eq_true.1 h1c v hv)
    have hfc : (Builtin.firstCells sz mm (.slice A2 m c2)).run P w = .ok cs.toArray w := by
      cases A2 with
      | none =>
        have : cs = [] := by
          cases cs with
          | nil => rfl
          | cons v vs => obtain ⟨_, _, h, _⟩ := hrow 0 v rfl; cases h
        subst this; rfl
      | some ad =>
        unfold Builtin.firstCells
        simp only
        rw [← hl]
        refine run_loadCells_list w ad cs fun j v hj => ?_
        obtain ⟨b', o', e1, e2⟩ := hrow j v hj
        cases e1
        unfold Addr.add
        split
        · next h => subst h; exact e2
        · exact e2
    have H' : Own B F (one b (cells (splice l o cs) u) :: r) (w.setRow b (List.take (o + 0) l ++ cs ++ List.drop (o + 0 + cs.length) l).toArray) := H.upd (by
      have := setRow_heap w b l.toArray (splice l o cs).toArray u (0, 0) hg
      simpa [splice] using this) (by
      intro q hq
      simp only [World.setRow, Array.getElem?_modify]
      rw [if_neg (Ne.symm hq)]) rfl rfl rfl
    unfold Oper.wp execOp
    simp only [h1, resolve, invoke, builtin, Sem.run_bind, Sem.run_pure, Result.andThen_ok, List.map_toArray, List.map_cons, List.map_nil, he.ev hs1, he.ev hx, Builtin.copy_, run_underlying hu.eq, run_size hz.eq]
    simp [Builtin.lenOf, run_underlying hu.eq, run_size hz.eq, hfc, hm, hst, goInt]
    have := hn _ hs' _ k (H'.perm p2.symm)
    rw [Oper.upon_value]
    simpa using this
theorem splice_len (l : List Value) (o : Nat) (vs : List Value) (h : o + vs.length ≤ l.length) : (splice l o vs).length = l.length := by
  unfold splice; simp only [List.length_append, List.length_take, List.length_drop]; omega
theorem splice_mid (pre mid post vs : List Value) (o : Nat) (h : o + vs.length ≤ mid.length) : splice (pre ++ mid ++ post) (pre.length + o) vs = pre ++ splice mid o vs ++ post := by
  unfold splice
  have e : pre ++ mid ++ post = pre ++ (mid ++ post) := List.append_assoc _ _ _
  have e1 : (pre ++ (mid ++ post)).take (pre.length + o) = pre ++ mid.take o := by
    rw [List.take_append, List.take_of_length_le (l := pre) (by omega), show pre.length + o - pre.length = o by omega, List.take_append_of_le_length (by omega)]
  have e2 : (pre ++ (mid ++ post)).drop (pre.length + o + vs.length) = mid.drop (o + vs.length) ++ post := by
    rw [List.drop_append, List.drop_eq_nil_of_le (by omega), show pre.length + o + vs.length - pre.length = o + vs.length by omega, List.drop_append_of_le_length (by omega), List.nil_append]
  rw [e, e1, e2]
  simp
/-! ### elements of slices -/
theorem splice_all (l vs : List Value) (h : vs.length = l.length) : splice l 0 vs = vs := by simp [splice, h]
theorem set_flatI {α : Type} (f : α → List Value) (sz : Nat) (hsz : ∀ x, (f x).length = sz) (arr : List α) (i : Nat) (hi : i < arr.length) (x : α) (sp : List Value) : splice (arr.flatMap f ++ sp) (0 + i * sz) (f x) = (arr.set i x).flatMap f ++ sp := by
  have e1 : arr = arr.take i ++ arr[i] :: arr.drop (i + 1) := by rw [List.getElem_cons_drop, List.take_append_drop]
  have hl : ((arr.take i).flatMap f).length = i * sz := by rw [flat_len f sz hsz, List.length_take, Nat.min_eq_left (by omega)]
  have e2 : arr.flatMap f ++ sp = (arr.take i).flatMap f ++ f arr[i] ++ ((arr.drop (i + 1)).flatMap f ++ sp) := by
    have e1' : arr.flatMap f = (arr.take i).flatMap f ++ (f arr[i] ++ (arr.drop (i + 1)).flatMap f) := by
      conv => lhs; rw [e1]
      rw [List.flatMap_append, List.flatMap_cons]
    rw [e1', List.append_assoc, List.append_assoc, List.append_assoc]
  have e3 : (arr.set i x).flatMap f ++ sp = (arr.take i).flatMap f ++ f x ++ ((arr.drop (i + 1)).flatMap f ++ sp) := by
    rw [List.set_eq_take_append_cons_drop, if_pos hi]
    simp
  rw [e2, e3, Nat.zero_add, ← hl]
  have := splice_mid ((arr.take i).flatMap f) (f arr[i]) ((arr.drop (i + 1)).flatMap f ++ sp) (f x) 0 (by rw [hsz, hsz]; omega)
  simp only [Nat.add_zero] at this
  rw [this, splice_all _ _ (by rw [hsz, hsz])]
theorem get_flat' {α : Type} (f : α → List Value) (sz : Nat) (hsz : ∀ x, (f x).length = sz) (xs : List α) (i : Nat) (x : α) (sp : List Value) (h : xs[i]? = some x) : ∀ j v, (f x)[j]? = some v → (xs.flatMap f ++ sp)[0 + i * sz + j]? = some v := fun j v hv => by
  have := flat_get f sz hsz xs i j x v h hv
  rw [Nat.zero_add, List.getElem?_append_left (List.getElem?_eq_some_iff.1 this).1]
  exact this
theorem flat_room {α : Type} (f : α → List Value) (sz : Nat) (hsz : ∀ x, (f x).length = sz) (xs : List α) (i : Nat) (hi : i < xs.length) (sp : List Value) : 0 + i * sz + sz ≤ (xs.flatMap f ++ sp).length := by
  rw [List.length_append, flat_len f sz hsz]
  have : (i + 1) * sz ≤ xs.length * sz := Nat.mul_le_mul_right _ hi
  rw [Nat.add_mul] at this
  omega
theorem RowAt.elem {α : Type} {A : Option Addr} {f : α → List Value} {xs : List α} (h : RowAt F hs A (xs.flatMap f)) (sz : Nat) (hsz : ∀ x, (f x).length = sz) (hp : 0 < sz) (i : Nat) (x : α) (hi : xs[i]? = some x) : ∃ b o, A = some ⟨b, o, none⟩ ∧ CellsAt F hs b (o + i * sz) (f x) := by
  have g := fun j v (hj : (f x)[j]? = some v) => h (i * sz + j) v (flat_get f sz hsz xs i j x v hi hj)
  obtain ⟨b, o, rfl, _⟩ := g 0 _ (List.getElem?_eq_getElem (by rw [hsz]; exact hp))
  refine ⟨b, o, rfl, fun j v hj => ?_⟩
  obtain ⟨_, _, e, hc⟩ := g j v hj
  cases e
  rw [Nat.add_assoc]; exact hc
theorem RowAt.up {A : Option Addr} {vs : List Value} {G : Hp} {hs' : List Hp} (h : RowAt F hs A vs) (hF : F.le G) (hr : ∀ k ∈ hs, k.le G) : RowAt G hs' A vs := fun j v e => by
  obtain ⟨b, o, h1, cs, t, fz, h2, h3⟩ := h j v e
  exact ⟨b, o, h1, cs, t, fz, .ro (h2.up hF hr), h3⟩
theorem RowAt.weak {A : Option Addr} {vs : List Value} {hs' : List Hp} (h : RowAt F hs A vs) (hm : ∀ k, k ∈ hs → k ∈ hs') : RowAt F hs' A vs := fun j v e => by
  obtain ⟨b, o, h1, cs, t, fz, h2, h3⟩ := h j v e
  exact ⟨b, o, h1, cs, t, fz, h2.weak hm, h3⟩
theorem CellsAt.weak {b o : Nat} {vs : List Value} {hs' : List Hp} (h : CellsAt F hs b o vs) (hm : ∀ k, k ∈ hs → k ∈ hs') : CellsAt F hs' b o vs := fun j v e => by
  obtain ⟨cs, t, fz, h2, h3⟩ := h j v e
  exact ⟨cs, t, fz, h2.weak hm, h3⟩
end
end Go.Proofs.Ytfaeemahdkobfaa
