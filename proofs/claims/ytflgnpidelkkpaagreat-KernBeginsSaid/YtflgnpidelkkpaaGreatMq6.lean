/- part 6 of the proof: contracts of the functions that the law reaches, and plain laws. -/
import Derived.Test.YtflgnpidelkkpaaGreatMq5
namespace Go.Proofs.YtflgnpidelkkpaaGreat
set_option maxRecDepth 8000
set_option linter.unusedVariables false
set_option linter.unusedSimpArgs false
abbrev KV := Int × Value × Nat
def ent (x : KV) : MapEntry := { key := .int .i64 x.1, val := x.2.1, born := x.2.2 }
abbrev mapO (xs : List KV) (ck : Nat) : Obj := .map (xs.map ent).toArray ck
def look (xs : List KV) (k : Int) : Option Value := (xs.find? fun x => x.1 == k).map (·.2.1)
theorem findNow_int {kk : IntKind} (k : Int) : ∀ (xs : List KV) (i : Nat), Instr.findNow (.int kk) (.int .i64 k) (xs.map ent) i =
    some (match xs.findIdx? (fun x => x.1 == k) with | some j => (xs[j]?).map fun x => (i + j, x.2.1) | none => none)
  | [], i => rfl
  | x :: xs, i => by
    simp only [List.map_cons, Instr.findNow, ent, Instr.sameNow, if_true, List.findIdx?_cons]
    have hc : (k == x.1) = (x.1 == k) := Bool.beq_comm
    rw [hc]
    cases hx : x.1 == k with
    | true => simp
    | false =>
      have ih := findNow_int (kk := kk) k xs (i + 1)
      simp only [Bool.false_eq_true, if_false]
      rw [ih]
      cases xs.findIdx? (fun x => x.1 == k) with
      | none => rfl
      | some j => simp [Nat.add_assoc, Nat.add_comm 1 j]
theorem findIdx_find {xs : List KV} {k : Int} : (match xs.findIdx? (fun x => x.1 == k) with | some j => (xs[j]?).map (·.2.1) | none => none) = look xs k := by
  induction xs with
  | nil => rfl
  | cons x xs ih =>
    simp only [List.findIdx?_cons, look, List.find?_cons]
    cases hx : x.1 == k with
    | true => simp
    | false =>
      simp only [Bool.false_eq_true, if_false]
      rw [show (xs.find? fun x => x.1 == k).map (·.2.1) = look xs k from rfl, ← ih]
      cases xs.findIdx? (fun x => x.1 == k) with
      | none => rfl
      | some j => simp
def MapI (D : Int → Option Value) (m : Nat) (h : Hp) : Prop := ∃ xs ck, h = one m (mapO xs ck) ∧ (xs.map (·.1)).Nodup ∧ (xs.map (·.2.2)).Nodup ∧ (∀ x ∈ xs, x.2.2 < ck) ∧ ∀ k, look xs k = D k
class MT (P : Program) (t : TypeId) (e : outParam TypeId) (z : outParam Value) : Prop where
  key : ∃ k, P.underlying t = some (.map k e) ∧ ∃ kk, P.underlying k = some (.int kk)
  zero : zeroOf P e = some z
section
variable {P : Program} {n : Nat} {B : World} {F : Hp} {hs : List Hp} {env : Env} {ty : TypeId} {K : Value → List Hp → Prop}
theorem run_checkKey {k : TypeId} {kk : IntKind} (hk : P.underlying k = some (.int kk)) (b : Bool) (v : Int) (w : World) : (Instr.checkKey b 10000 k (.int .i64 v)).run P w = .ok () w := by
  have : ∀ d, (Instr.checkKey b (d + 1) k (.int .i64 v)).run P w = .ok () w := fun d => by simp [Instr.checkKey, run_underlying hk]
  exact this 9999
theorem run_findKey {k : TypeId} {kk : IntKind} (hk : P.underlying k = some (.int kk)) (v : Int) (xs : List KV) (w : World) :
    (Instr.findKey k (.int .i64 v) (xs.map ent).toArray.toList).run P w = .ok (match xs.findIdx? (fun x => x.1 == v) with | some j => (xs[j]?).map fun x => (j, x.2.1) | none => none) w := by
  unfold Instr.findKey
  simp only [Sem.run_bind, run_underlying hk, Result.andThen_ok, List.toList_toArray]
  rw [findNow_int v xs 0]
  simp only [Nat.zero_add]
  rfl
theorem run_getObj {r : Nat} {w : World} {xs : List KV} {ck : Nat} (h : w.heap[r]? = some (mapO xs ck)) : (getObj r).run P w = .ok (mapO xs ck) w := by
  unfold getObj
  simp only [Sem.run, h]
theorem run_setObj {r : Nat} {w : World} {xs : List KV} {ck : Nat} {o : Obj} (h : w.heap[r]? = some (mapO xs ck)) : (setObj r o).run P w = .ok () { w with heap := w.heap.setIfInBounds r o } := by
  unfold setObj
  simp only [Sem.run, h]
theorem Own.setMap {r : Nat} {xs ys : List KV} {ck ck' : Nat} {rest : List Hp} {w : World} (H : Own B F (one r (mapO xs ck) :: rest) w) : Own B F (one r (mapO ys ck') :: rest) { w with heap := w.heap.setIfInBounds r (mapO ys ck') } :=
  H.upd (by
    have := H.lt
    simp [this]) (fun k hk => by simp [Array.getElem?_setIfInBounds_ne (Ne.symm hk)]) rfl rfl rfl
theorem Rn.lookup {t e m : Nat} {z : Value} {x y : Operand} {k : Int} {D : Int → Option Value} {h : Hp} [hm : MT P t e z] (hx : ev env x = some (.map (some m))) (hy : ev env y = some (.int .i64 k)) (hin : h ∈ hs) (hd : MapI D m h) : Rn P F hs (.lookup t x y false) ty env ((D k).getD z) := fun o h1 h2 n B a w he ho => by
  obtain ⟨xs, ck, rfl, _, _, _, hD⟩ := hd
  obtain ⟨kt, hk, kk, hkk⟩ := hm.key
  have hg := ho.all _ hin _ _ (one_get _ _)
  unfold execOp
  simp only [h1, he.ev hx, he.ev hy, Instr.lookup, Sem.run_bind, run_underlying hk, Result.andThen_ok, run_getObj hg, Sem.run_pure, run_checkKey hkk, run_findKey hkk]
  rw [← hD k, ← findIdx_find]
  cases hf : xs.findIdx? (fun x => x.1 == k) with
  | none => simp [run_zero hm.zero]
  | some j =>
    have hj := (List.findIdx?_eq_some_iff_findIdx_eq.1 hf).1
    simp [List.getElem?_eq_getElem hj]
theorem Rn.lookupOk {t e m : Nat} {z : Value} {x y : Operand} {k : Int} {D : Int → Option Value} {h : Hp} [hm : MT P t e z] (hx : ev env x = some (.map (some m))) (hy : ev env y = some (.int .i64 k)) (hin : h ∈ hs) (hd : MapI D m h) : Rn P F hs (.lookup t x y true) ty env (.tuple #[(D k).getD z, .bool (D k).isSome]) := fun o h1 h2 n B a w he ho => by
  obtain ⟨xs, ck, rfl, _, _, _, hD⟩ := hd
  obtain ⟨kt, hk, kk, hkk⟩ := hm.key
  have hg := ho.all _ hin _ _ (one_get _ _)
  unfold execOp
  simp only [h1, he.ev hx, he.ev hy, Instr.lookup, Sem.run_bind, run_underlying hk, Result.andThen_ok, run_getObj hg, Sem.run_pure, run_checkKey hkk, run_findKey hkk]
  rw [← hD k, ← findIdx_find]
  cases hf : xs.findIdx? (fun x => x.1 == k) with
  | none => simp [run_zero hm.zero]
  | some j =>
    have hj := (List.findIdx?_eq_some_iff_findIdx_eq.1 hf).1
    simp [List.getElem?_eq_getElem hj]
theorem WO.makeMap {t : TypeId} (k : ∀ m h, MapI (fun _ => none) m h → K (.map (some m)) (h :: hs)) : WO P n B F (.makeMap t none) ty env hs K :=
  fun o h1 h2 a w he ho next Q hn => by
    unfold Oper.wp execOp
    simp only [h1, Instr.makeMap, Option.map_none, Sem.run_bind, run_newObj, Result.andThen_ok, Sem.run_pure, Oper.upon_value]
    exact hn _ _ (w.alloc (mapO [] 0)) (k w.heap.size (one w.heap.size (mapO [] 0)) ⟨[], 0, rfl, by simp, by simp, by simp, fun k => rfl⟩) (ho.alloc _)
end
def setKV (xs : List KV) (k : Int) (v : Value) : List KV := xs.map fun x => if x.1 == k then (x.1, v, x.2.2) else x
def delKV (xs : List KV) (k : Int) : List KV := xs.filter fun x => !(x.1 == k)
theorem look_cons (x : KV) (xs : List KV) (k : Int) : look (x :: xs) k = if x.1 == k then some x.2.1 else look xs k := by
  simp only [look, List.find?_cons]
  cases x.1 == k <;> rfl
theorem look_none {xs : List KV} {k : Int} : look xs k = none ↔ ∀ x ∈ xs, x.1 ≠ k := by
  induction xs with
  | nil => simp [look]
  | cons x xs ih =>
    rw [look_cons]
    by_cases h : x.1 = k
    · simp [h]
    · have hb : (x.1 == k) = false := by simpa using h
      simp only [hb, Bool.false_eq_true, if_false, ih, List.mem_cons, forall_eq_or_imp]
      exact ⟨fun q => ⟨h, q⟩, fun q => q.2⟩
theorem look_set (xs : List KV) (k : Int) (v : Value) (hk : look xs k ≠ none) (q : Int) : look (setKV xs k v) q = if q = k then some v else look xs q := by
  induction xs with
  | nil => simp [look] at hk
  | cons x xs ih =>
    simp only [setKV, List.map_cons]
    rw [show xs.map (fun x => if x.1 == k then (x.1, v, x.2.2) else x) = setKV xs k v from rfl]
    rw [look_cons] at hk ⊢
    rw [look_cons]
    by_cases hx : x.1 = k
    · simp only [hx, beq_self_eq_true, if_true]
      by_cases hq : k = q
      · simp [hq]
      · have hb : (k == q) = false := by simpa using hq
        simp only [hb, Bool.false_eq_true, if_false, if_neg (Ne.symm hq)]
        by_cases hl : look xs k = none
        · have hs : setKV xs k v = xs := by
            unfold setKV
            have := look_none.1 hl
            rw [List.map_congr_left (g := id) (fun y hy => by have := this y hy; simp [this]), List.map_id]
          rw [hs]
        · rw [ih hl, if_neg (Ne.symm hq)]
    · have hb : (x.1 == k) = false := by simpa using hx
      simp only [hb, Bool.false_eq_true, if_false] at hk ⊢
      rw [ih hk]
      by_cases hq : x.1 = q
      · have : q ≠ k := fun e => hx (hq.trans e)
        simp [hq, this]
      · have hb2 : (x.1 == q) = false := by simpa using hq
        simp [hb2]
theorem look_add (xs : List KV) (k : Int) (v : Value) (b : Nat) (hk : look xs k = none) (q : Int) : look (xs ++ [(k, v, b)]) q = if q = k then some v else look xs q := by
  induction xs with
  | nil =>
    rw [List.nil_append, look_cons]
    by_cases hq : q = k
    · simp [hq]
    · have : (k == q) = false := by simpa using Ne.symm hq
      simp [this, hq, look]
  | cons x xs ih =>
    have hn := look_none.1 hk
    rw [List.cons_append, look_cons, look_cons, ih (look_none.2 fun y hy => hn y (.tail _ hy))]
    by_cases hx : x.1 = q
    · have : q ≠ k := fun e => hn x (.head _) (hx.trans e)
      simp [hx, this]
    · have : (x.1 == q) = false := by simpa using hx
      simp [this]
theorem look_del (xs : List KV) (k q : Int) : look (delKV xs k) q = if q = k then none else look xs q := by
  induction xs with
  | nil => simp [delKV, look]
  | cons x xs ih =>
    simp only [delKV, List.filter_cons]
    rw [show xs.filter (fun x => !(x.1 == k)) = delKV xs k from rfl, look_cons]
    by_cases hx : x.1 = k
    · simp only [hx, beq_self_eq_true, Bool.not_true, Bool.false_eq_true, if_false, ih]
      by_cases hq : k = q
      · simp [hq]
      · have : (k == q) = false := by simpa using hq
        simp [this]
    · have hb : (x.1 == k) = false := by simpa using hx
      simp only [hb, Bool.not_false, if_true, look_cons, ih]
      by_cases hq : x.1 = q
      · have : q ≠ k := fun e => hx (hq.trans e)
        simp [hq, this]
      · have : (x.1 == q) = false := by simpa using hq
        simp [this]
theorem keys_set (xs : List KV) (k : Int) (v : Value) : (setKV xs k v).map (·.1) = xs.map (·.1) ∧ (setKV xs k v).map (·.2.2) = xs.map (·.2.2) := by
  unfold setKV
  constructor <;> (rw [List.map_map]; apply List.map_congr_left; intro x _; simp only [Function.comp]; split <;> rfl)
theorem modify_set {xs : List KV} {k : Int} {j : Nat} (v : Value) (hnd : (xs.map (·.1)).Nodup) (hj : xs.findIdx? (fun x => x.1 == k) = some j) : xs.modify j (fun x => (k, v, x.2.2)) = setKV xs k v := by
  induction xs generalizing j with
  | nil => simp at hj
  | cons x xs ih =>
    rw [List.findIdx?_cons] at hj
    simp only [List.map_cons, List.nodup_cons] at hnd
    by_cases hx : x.1 = k
    · simp only [hx, beq_self_eq_true, if_true, Option.some.injEq] at hj
      subst hj
      simp only [List.modify_zero_cons, setKV, List.map_cons, hx, beq_self_eq_true, if_true]
      congr 1
      rw [List.map_congr_left (g := id) (fun y hy => ?_), List.map_id]
      have : y.1 ≠ k := fun e => hnd.1 (by rw [hx, ← e]; exact List.mem_map_of_mem hy)
      simp [this]
    · have hb : (x.1 == k) = false := by simpa using hx
      simp only [hb, Bool.false_eq_true, if_false, Option.map_eq_some_iff] at hj
      obtain ⟨i, hi, rfl⟩ := hj
      simp only [List.modify_succ_cons, setKV, List.map_cons, hb, Bool.false_eq_true, if_false]
      congr 1
      exact ih hnd.2 hi
theorem erase_del {xs : List KV} {k : Int} {j : Nat} (hnd : (xs.map (·.1)).Nodup) (hj : xs.findIdx? (fun x => x.1 == k) = some j) : xs.eraseIdx j = delKV xs k := by
  induction xs generalizing j with
  | nil => simp at hj
  | cons x xs ih =>
    rw [List.findIdx?_cons] at hj
    simp only [List.map_cons, List.nodup_cons] at hnd
    by_cases hx : x.1 = k
    · simp only [hx, beq_self_eq_true, if_true, Option.some.injEq] at hj
      subst hj
      simp only [List.eraseIdx_zero, List.tail_cons, delKV, List.filter_cons, hx, beq_self_eq_true, Bool.not_true, Bool.false_eq_true, if_false]
      rw [List.filter_eq_self.2]
      intro y hy
      have : y.1 ≠ k := fun e => hnd.1 (by rw [hx, ← e]; exact List.mem_map_of_mem hy)
      simp [this]
    · have hb : (x.1 == k) = false := by simpa using hx
      simp only [hb, Bool.false_eq_true, if_false, Option.map_eq_some_iff] at hj
      obtain ⟨i, hi, rfl⟩ := hj
      simp only [List.eraseIdx_cons_succ, delKV, List.filter_cons, hb, Bool.not_false, if_true]
      congr 1
      exact ih hnd.2 hi
theorem idx_none {xs : List KV} {k : Int} (h : xs.findIdx? (fun x => x.1 == k) = none) : look xs k = none := by rw [← findIdx_find, h]
theorem idx_some {xs : List KV} {k : Int} {j : Nat} (h : xs.findIdx? (fun x => x.1 == k) = some j) : ∃ x, xs[j]? = some x ∧ x.1 = k ∧ look xs k = some x.2.1 := by
  have hj := List.findIdx?_eq_some_iff_getElem.1 h
  obtain ⟨hlt, hk, _⟩ := hj
  refine ⟨xs[j], List.getElem?_eq_getElem hlt, by simpa using hk, ?_⟩
  rw [← findIdx_find, h]
  simp [List.getElem?_eq_getElem hlt]
def upd (D : Int → Option Value) (k : Int) (v : Option Value) : Int → Option Value := fun q => if q = k then v else D q
def MapE (D : Int → Option Value) (m : Nat) (k : Int) (s : Nat) (h : Hp) : Prop := ∃ xs ck v, h = one m (mapO xs ck) ∧ (xs.map (·.1)).Nodup ∧ (xs.map (·.2.2)).Nodup ∧ (∀ x ∈ xs, x.2.2 < ck) ∧ (∀ q, look xs q = upd D k (some v) q) ∧ (k, v, s) ∈ xs
theorem nodup_snoc {α : Type} {l : List α} {a : α} (h : l.Nodup) (ha : a ∉ l) : (l ++ [a]).Nodup := by
  rw [List.nodup_append]
  refine ⟨h, by simp, fun x hx y hy => ?_⟩
  simp only [List.mem_singleton] at hy
  subst hy
  exact fun e => ha (e ▸ hx)
theorem add_map {xs : List KV} {ck : Nat} {k : Int} {v : Value} (h1 : (xs.map (·.1)).Nodup) (h2 : (xs.map (·.2.2)).Nodup) (h3 : ∀ x ∈ xs, x.2.2 < ck) (hk : look xs k = none) :
    ((xs ++ [(k, v, ck)]).map (·.1)).Nodup ∧ ((xs ++ [(k, v, ck)]).map (·.2.2)).Nodup ∧ ∀ x ∈ xs ++ [(k, v, ck)], x.2.2 < ck + 1 := by
  have hn := look_none.1 hk
  refine ⟨?_, ?_, ?_⟩
  · rw [List.map_append]
    refine nodup_snoc h1 fun hm => ?_
    obtain ⟨x, hx, e⟩ := List.mem_map.1 hm
    exact hn x hx e
  · rw [List.map_append]
    refine nodup_snoc h2 fun hm => ?_
    obtain ⟨x, hx, e⟩ := List.mem_map.1 hm
    have := h3 x hx
    simp only at e
    omega
  · intro x hx
    rcases List.mem_append.1 hx with hx | hx
    · have := h3 x hx; omega
    · simp only [List.mem_singleton] at hx; subst hx; simp
theorem map_erase {α β : Type} (f : α → β) : ∀ (l : List α) (j : Nat), (l.map f).eraseIdx j = (l.eraseIdx j).map f
  | [], _ => rfl
  | _ :: _, 0 => rfl
  | x :: l, j + 1 => by simp only [List.map_cons, List.eraseIdx_cons_succ, map_erase f l j]
theorem sameBits_int (k : Int) : Instr.sameBits 10000 (.int .i64 k) (.int .i64 k) = true := by
  have : ∀ d, Instr.sameBits d (.int .i64 k) (.int .i64 k) = true := fun d => by cases d <;> simp [Instr.sameBits]
  exact this _
theorem modify_key {xs : List KV} {k : Int} {j : Nat} (hj : xs.findIdx? (fun x => x.1 == k) = some j) : ((xs.map ent).toArray.modify j fun e => { e with key := .int .i64 k }) = (xs.map ent).toArray := by
  obtain ⟨x, hx, hk, _⟩ := idx_some hj
  apply Array.ext'
  apply List.ext_getElem?
  intro i
  simp only [Array.toList_modify, List.toList_toArray, List.getElem?_modify, List.getElem?_map]
  by_cases hi : j = i
  · subst hi
    simp only [hx, Option.map_some, if_true, Option.map_eq_map, Option.some.injEq]
    simp [ent, hk]
  · simp [hi]
theorem modify_val {xs : List KV} {k : Int} {j : Nat} (v : Value) (h1 : (xs.map (·.1)).Nodup) (hj : xs.findIdx? (fun x => x.1 == k) = some j) (f : MapEntry → MapEntry) (hf : ∀ x : KV, x.1 = k → f (ent x) = ent (k, v, x.2.2)) : ((xs.map ent).toArray.modify j f) = ((setKV xs k v).map ent).toArray := by
  obtain ⟨x, hx, hk, _⟩ := idx_some hj
  rw [← modify_set v h1 hj]
  apply Array.ext'
  apply List.ext_getElem?
  intro i
  simp only [Array.toList_modify, List.toList_toArray, List.getElem?_modify, List.getElem?_map]
  by_cases hi : j = i
  · subst hi
    simp [hx, hf x hk]
  · simp [hi]
section
variable {P : Program} {n : Nat} {B : World} {F : Hp} {hs : List Hp} {env : Env} {ty : TypeId} {K : Value → List Hp → Prop}
theorem WO.mapEntry {t e m : Nat} {z : Value} {x y : Operand} {k : Int} {D : Int → Option Value} {h : Hp} {r : List Hp} [hm : MT P t e z] (hx : ev env x = some (.map (some m))) (hy : ev env y = some (.int .i64 k)) (ht : Take hs h r) (hd : MapI D m h)
    (kk : ∀ v s h', MapE D m k s h' → K (.tuple #[v, .int .i64 (s : Nat)]) (h' :: r)) : WO P n B F (.mapEntry t x y) ty env hs K := fun o h1 h2 a w he ho next Q hn => by
  obtain ⟨xs, ck, rfl, d1, d2, d3, hD⟩ := hd
  obtain ⟨kt, hk, kk', hkk⟩ := hm.key
  have H := ho.perm ht.perm
  have hg := H.all _ (.head _) _ _ (one_get _ _)
  unfold Oper.wp execOp
  simp only [h1, he.ev hx, he.ev hy, Instr.mapEntry, Sem.run_bind, run_underlying hk, Result.andThen_ok, run_getObj hg, Sem.run_pure, run_checkKey hkk, run_findKey hkk]
  cases hf : xs.findIdx? (fun x => x.1 == k) with
  | none =>
    have hl := idx_none hf
    obtain ⟨a1, a2, a3⟩ := add_map (v := z) d1 d2 d3 hl
    simp only [Sem.run_bind, run_zero hm.zero, Result.andThen_ok, run_setObj hg, Sem.run_pure, Oper.upon_value, goInt]
    have e : ((xs.map ent).toArray.push { key := Value.int IntKind.i64 k, val := z, born := ck }) = ((xs ++ [(k, z, ck)]).map ent).toArray := by simp [ent]
    rw [e]
    exact hn _ _ _ (kk z ck _ ⟨xs ++ [(k, z, ck)], ck + 1, z, rfl, a1, a2, a3, fun q => by rw [look_add _ _ _ _ hl, hD]; rfl, by simp⟩) (H.setMap)
  | some j =>
    obtain ⟨x, hxj, hxk, hxl⟩ := idx_some hf
    have hent : (xs.map ent).toArray[j]? = some (ent x) := by simp [hxj]
    simp only [hxj, Option.map_some, hent, Option.getD_some, Instr.keyThatStays, ent, hxk, sameBits_int, if_true, Sem.run_bind, Sem.run_pure, Result.andThen_ok, run_setObj hg, Oper.upon_value, goInt]
    rw [modify_key hf]
    refine hn _ _ _ (kk x.2.1 x.2.2 (one m (mapO xs ck)) ⟨xs, ck, x.2.1, rfl, d1, d2, d3, fun q => ?_, ?_⟩) (H.setMap)
    · unfold upd
      by_cases hq : q = k
      · subst hq; rw [if_pos rfl]; exact hxl
      · rw [if_neg hq]; exact hD q
    · have := List.mem_of_getElem? hxj
      rw [← hxk]; exact this
theorem WO.entryStore {t m s : Nat} {x y u : Operand} {k : Int} {v : Value} {D : Int → Option Value} {h : Hp} {r : List Hp} (hx : ev env x = some (.map (some m))) (hy : ev env y = some (.int .i64 (s : Nat))) (hu : ev env u = some v) (ht : Take hs h r) (hd : MapE D m k s h)
    (kk : ∀ h', MapI (upd D k (some v)) m h' → K undef (h' :: r)) : WO P n B F (.entryStore t x y u) ty env hs K := fun o h1 h2 a w he ho next Q hn => by
  obtain ⟨xs, ck, v0, rfl, d1, d2, d3, hD, hmem⟩ := hd
  have H := ho.perm ht.perm
  have hg := H.all _ (.head _) _ _ (one_get _ _)
  have hidx : ∃ j, xs.findIdx? (fun x => x.1 == k) = some j ∧ (xs.map ent).toArray.findIdx? (fun e => ((e.born : Int) == (s : Int))) = some j := by
    clear hg H ho hD d3
    obtain ⟨ys, zs, rfl⟩ := List.append_of_mem hmem
    refine ⟨ys.length, ?_, ?_⟩
    · rw [List.findIdx?_append]
      have h0 : ys.findIdx? (fun x => x.1 == k) = none := by
        rw [List.findIdx?_eq_none_iff]
        intro x hx
        simp only [List.map_append, List.map_cons, List.nodup_append] at d1
        have := d1.2.2 x.1 (List.mem_map_of_mem hx) k (.head _)
        simpa using this
      rw [h0]
      simp [List.findIdx?_cons]
    · rw [List.findIdx?_toArray]
      rw [List.map_append, List.map_cons, List.findIdx?_append]
      have h0 : (ys.map ent).findIdx? (fun e => ((e.born : Int) == (s : Int))) = none := by
        rw [List.findIdx?_eq_none_iff]
        intro e hxe
        obtain ⟨x, hxm, rfl⟩ := List.mem_map.1 hxe
        simp only [List.map_append, List.map_cons, List.nodup_append] at d2
        have := d2.2.2 x.2.2 (List.mem_map_of_mem hxm) s (.head _)
        have h2 : ((x.2.2 : Nat) : Int) ≠ (s : Int) := fun e => this (Int.ofNat.inj e)
        simpa [ent] using h2
      rw [h0]
      simp [ent, List.findIdx?_cons]
  obtain ⟨j, hj1, hj2⟩ := hidx
  unfold Oper.wp execOp
  simp only [h1, he.ev hx, he.ev hy, he.ev hu, Instr.entryStore, Sem.run_bind, run_getObj hg, Result.andThen_ok, Sem.run_pure, asInt, asIntOf, hj2, run_setObj hg, Oper.upon_skip]
  rw [modify_val v d1 hj1 _ (fun x hxk => by simp [ent, hxk])]
  have hne : look xs k ≠ none := by rw [hD]; simp [upd]
  refine hn _ _ _ (kk (one m (mapO (setKV xs k v) ck)) ⟨setKV xs k v, ck, rfl, by rw [(keys_set xs k v).1]; exact d1, by rw [(keys_set xs k v).2]; exact d2, fun x hx => ?_, fun q => ?_⟩) (H.setMap)
  · unfold setKV at hx
    obtain ⟨y, hy, rfl⟩ := List.mem_map.1 hx
    have := d3 y hy
    split <;> exact this
  · rw [look_set xs k v hne, hD]
    unfold upd
    by_cases hq : q = k
    · simp [hq]
    · simp [hq]
theorem WO.delete {t e m : Nat} {z : Value} {x y : Operand} {ts : Array TypeId} {k : Int} {D : Int → Option Value} {h : Hp} {r : List Hp} [hm : MT P t e z] (hts : ts[0]? = some t) (hx : ev env x = some (.map (some m))) (hy : ev env y = some (.int .i64 k)) (ht : Take hs h r) (hd : MapI D m h)
    (kk : ∀ h', MapI (upd D k none) m h' → K (.tuple #[]) (h' :: r)) : WO P n B F (.call ⟨.builtin .delete, #[x, y], ts⟩) ty env hs K := fun o h1 h2 a w he ho next Q hn => by
  obtain ⟨xs, ck, rfl, d1, d2, d3, hD⟩ := hd
  obtain ⟨kt, hk, kk', hkk⟩ := hm.key
  have H := ho.perm ht.perm
  have hg := H.all _ (.head _) _ _ (one_get _ _)
  have hnew : ∀ ys : List KV, ys = delKV xs k → MapI (upd D k none) m (one m (mapO ys ck)) := fun ys e => by
    subst e
    refine ⟨_, ck, rfl, ?_, ?_, fun x hx => d3 x (List.mem_filter.1 hx).1, fun q => by rw [look_del, hD]; rfl⟩
    · exact (List.filter_sublist.map _).nodup d1
    · exact (List.filter_sublist.map _).nodup d2
  unfold Oper.wp execOp
  simp only [h1, resolve, invoke, builtin, Sem.run_bind, Sem.run_pure, Result.andThen_ok, List.map_toArray, List.map_cons, List.map_nil, he.ev hx, he.ev hy, Builtin.delete_]
  simp only [hts, List.getElem?_toArray, List.getElem?_cons_zero, List.getElem?_cons_succ, Sem.run_bind, run_underlying hk, Result.andThen_ok, run_getObj hg, Sem.run_pure, run_checkKey hkk, run_findKey hkk]
  cases hf : xs.findIdx? (fun x => x.1 == k) with
  | none =>
    simp only [run_setObj hg, Sem.run_bind, Result.andThen_ok, Sem.run_pure, Oper.upon_value]
    refine hn _ _ _ (kk _ (hnew xs ?_)) (H.setMap)
    unfold delKV
    rw [List.filter_eq_self.2]
    intro y hy
    have := look_none.1 (idx_none hf) y hy
    simp [this]
  | some j =>
    obtain ⟨x, hxj, hxk, hxl⟩ := idx_some hf
    simp only [hxj, Option.map_some, run_setObj hg, Sem.run_bind, Result.andThen_ok, Sem.run_pure, Oper.upon_value]
    have e : (xs.map ent).toArray.eraseIdxIfInBounds j = ((xs.eraseIdx j).map ent).toArray := by
      have hlt := (List.getElem?_eq_some_iff.1 hxj).1
      simp only [Array.eraseIdxIfInBounds, List.size_toArray, List.length_map, hlt, dif_pos, List.eraseIdx_toArray]
      congr 1
      exact map_erase ent xs j
    rw [e]
    exact hn _ _ _ (kk _ (hnew _ (erase_del d1 hf))) (H.setMap)
end
section
variable {P : Program} {n : Nat} {B : World} {F : Hp} {ops : Array Oper} {env : Env} {hs : List Hp} {ty : TypeId} {K : Value → List Hp → Prop}
inductive Takes {α : Type} : List α → List α → List α → Prop where
  | nil {t : List α} : Takes t [] t
  | cons {t r s w : List α} {h : α} : Take t h r → Takes r s w → Takes t (h :: s) w
theorem Takes.perm {α : Type} {hs own r : List α} (t : Takes hs own r) : hs.Perm (r ++ own) := by
  induction t with
  | nil => simp
  | cons a _ ih => exact (a.perm.trans (ih.cons _)).trans (List.perm_middle.symm)
theorem Takes.self {α : Type} : ∀ (l : List α), Takes l l []
  | [] => .nil
  | _ :: t => .cons .here (Takes.self t)
theorem WO.callN {f : FuncId} {fn : Func} {c : Code} {xs : Array Operand} {ts : Array TypeId} {args : List Value} {K' : Value → List Hp → Prop} {own r : List Hp} (hf : P.funcs[f]? = some fn) (hb : fn.body = some c) (hnm : (fn.name == "runtime.NumGoroutine") = false)
    (hx : evs env xs.toList = some args) (ht : Takes hs own r) (hc : ∀ G, F.le G → (∀ h ∈ r, h.le G) → Spec P f args G own K') (hk : ∀ v own', K' v own' → K v (own' ++ r)) : WO P n B F (.call ⟨.value (.func f), xs, ts⟩) ty env hs K := by
  intro o h1 h2 a w he ho next Q hn
  exact WO.call (K := fun v hs' => ∃ own', K' v own' ∧ hs' = r ++ own') hf hb hnm hx (own := own) (rest' := r) ht.perm hc (fun v own' h => ⟨own', h, rfl⟩) o h1 h2 a w he ho next Q fun v hs' w' ⟨own', k1, e⟩ o' => by
    subst e
    exact hn v _ w' (hk v own' k1) (o'.perm List.perm_append_comm)
theorem Rn.lookupOkS {t e m : Nat} {z v : Value} {x y : Operand} {k : Int} {D : Int → Option Value} {h : Hp} [hm : MT P t e z] (hx : ev env x = some (.map (some m))) (hy : ev env y = some (.int .i64 k)) (hin : h ∈ hs) (hd : MapI D m h) (hv : D k = some v) : Rn P F hs (.lookup t x y true) ty env (.tuple #[v, .bool true]) := by
  have := Rn.lookupOk (P := P) (t := t) (F := F) (ty := ty) hx hy hin hd
  rw [hv] at this; exact this
theorem Rn.lookupOkN {t e m : Nat} {z : Value} {x y : Operand} {k : Int} {D : Int → Option Value} {h : Hp} [hm : MT P t e z] (hx : ev env x = some (.map (some m))) (hy : ev env y = some (.int .i64 k)) (hin : h ∈ hs) (hd : MapI D m h) (hv : D k = none) : Rn P F hs (.lookup t x y true) ty env (.tuple #[z, .bool false]) := by
  have := Rn.lookupOk (P := P) (t := t) (F := F) (ty := ty) hx hy hin hd
  rw [hv] at this; exact this
theorem Rn.lookupS {t e m : Nat} {z v : Value} {x y : Operand} {k : Int} {D : Int → Option Value} {h : Hp} [hm : MT P t e z] (hx : ev env x = some (.map (some m))) (hy : ev env y = some (.int .i64 k)) (hin : h ∈ hs) (hd : MapI D m h) (hv : D k = some v) : Rn P F hs (.lookup t x y false) ty env v := by
  have := Rn.lookup (P := P) (t := t) (F := F) (ty := ty) hx hy hin hd
  rw [hv] at this; exact this
end
end Go.Proofs.YtflgnpidelkkpaaGreat
namespace Go.Proofs.YtflgnpidelkkpaaGreat
set_option maxRecDepth 8000
set_option linter.unusedVariables false
set_option linter.unusedSimpArgs false
section
variable {P : Program} {n : Nat} {B : World} {F : Hp} {hs : List Hp} {env : Env} {ty : TypeId} {K : Value → List Hp → Prop}
theorem WO.mapUpdate {t e m : Nat} {z : Value} {x y u : Operand} {k : Int} {v : Value} {D : Int → Option Value} {h : Hp} {r : List Hp} [hm : MT P t e z] (hx : ev env x = some (.map (some m))) (hy : ev env y = some (.int .i64 k)) (hu : ev env u = some v) (ht : Take hs h r) (hd : MapI D m h)
    (kk : ∀ h', MapI (upd D k (some v)) m h' → K undef (h' :: r)) : WO P n B F (.mapUpdate t x y u) ty env hs K := fun o h1 h2 a w he ho next Q hn => by
  obtain ⟨xs, ck, rfl, d1, d2, d3, hD⟩ := hd
  obtain ⟨kt, hk, kk', hkk⟩ := hm.key
  have H := ho.perm ht.perm
  have hg := H.all _ (.head _) _ _ (one_get _ _)
  unfold Oper.wp execOp
  simp only [h1, he.ev hx, he.ev hy, he.ev hu, Instr.mapUpdate, Sem.run_bind, run_underlying hk, Result.andThen_ok, run_getObj hg, Sem.run_pure, run_checkKey hkk, run_findKey hkk]
  cases hf : xs.findIdx? (fun x => x.1 == k) with
  | none =>
    have hl := idx_none hf
    obtain ⟨a1, a2, a3⟩ := add_map (v := v) d1 d2 d3 hl
    simp only [Sem.run_bind, Result.andThen_ok, run_setObj hg, Sem.run_pure, Oper.upon_skip]
    have e : ((xs.map ent).toArray.push { key := Value.int IntKind.i64 k, val := v, born := ck }) = ((xs ++ [(k, v, ck)]).map ent).toArray := by simp [ent]
    rw [e]
    exact hn _ _ _ (kk _ ⟨xs ++ [(k, v, ck)], ck + 1, rfl, a1, a2, a3, fun q => by rw [look_add _ _ _ _ hl, hD]; rfl⟩) (H.setMap)
  | some j =>
    obtain ⟨x, hxj, hxk, hxl⟩ := idx_some hf
    have hent : (xs.map ent).toArray[j]? = some (ent x) := by simp [hxj]
    simp only [hxj, Option.map_some, hent, Option.getD_some, Instr.keyThatStays, ent, hxk, sameBits_int, if_true, Sem.run_bind, Sem.run_pure, Result.andThen_ok, run_setObj hg, Oper.upon_skip]
    have e : ((xs.map ent).toArray.modify j fun e => { e with key := .int .i64 k, val := v }) = ((setKV xs k v).map ent).toArray := by
      exact modify_val v d1 hf _ (fun x hxk => by simp [ent])
    rw [e]
    have hne : look xs k ≠ none := by rw [hxl]; simp
    refine hn _ _ _ (kk (one m (mapO (setKV xs k v) ck)) ⟨setKV xs k v, ck, rfl, by rw [(keys_set xs k v).1]; exact d1, by rw [(keys_set xs k v).2]; exact d2, fun y hy => ?_, fun q => ?_⟩) (H.setMap)
    · unfold setKV at hy
      obtain ⟨z, hz, rfl⟩ := List.mem_map.1 hy
      have := d3 z hz
      split <;> exact this
    · rw [look_set xs k v hne, hD]; rfl
end
section
variable {P : Program} {n : Nat} {B : World} {F : Hp} {hs : List Hp} {env : Env} {K : Value → List Hp → Prop} {fn : Func}
end
end Go.Proofs.YtflgnpidelkkpaaGreat
namespace Go.Proofs.YtflgnpidelkkpaaGreat
set_option maxRecDepth 8000
set_option linter.unusedVariables false
set_option linter.unusedSimpArgs false
theorem Rn.conv {P : Program} {F : Hp} {hs : List Hp} {ty : TypeId} {env : Env} {src dst : TypeId} {x : Operand} {k : IntKind} {i : Int} [hu : UT P src (.int k)] [hd : UT P dst (.int .i64)] (hx : ev env x = some (.int k i)) (h : -9223372036854775808 ≤ i ∧ i ≤ 9223372036854775807) : Rn P F hs (.convert src dst x) ty env (.int .i64 i) := fun o h1 h2 n B a w he ho => by
  unfold execOp; simp [h1, he.ev hx, convert, run_underlying hu.eq, run_underlying hd.eq, Conv.intToInt, wrap_i64 h]
end Go.Proofs.YtflgnpidelkkpaaGreat
namespace Go.Proofs.YtflgnpidelkkpaaGreat
set_option maxRecDepth 8000
set_option linter.unusedVariables false
set_option linter.unusedSimpArgs false
theorem zrow_one {zl : List Value} (h : zl.all (·.oneCell') = true) : ∀ (q : Nat), ∀ v ∈ zrow zl q, v.oneCell' = true
  | 0 => fun v hv => nomatch hv
  | q + 1 => fun v hv => by
    rcases List.mem_append.1 hv with hv | hv
    · exact List.all_eq_true.1 h v hv
    · exact zrow_one h q v hv
section
variable {P : Program} {n : Nat} {B : World} {F : Hp} {hs : List Hp} {env : Env} {ty : TypeId} {K : Value → List Hp → Prop}
theorem Rn.makeFunc {fn : Fn} {first captured : Array Operand} {vs cs : List Value} (h1 : evs env first.toList = some vs) (h2 : evs env captured.toList = some cs) : Rn P F hs (.makeFunc fn first captured) ty env (.func fn vs.toArray cs.toArray) := fun o h h' n B a w he ho => by
  have e1 : first.map a.eval = vs.toArray := by
    apply Array.toList_inj.1; simpa using he.evs h1
  have e2 : captured.map a.eval = cs.toArray := by
    apply Array.toList_inj.1; simpa using he.evs h2
  unfold execOp
  simp only [h, e1, e2, Instr.makeFunc, Sem.run_bind, Sem.run_pure, Result.andThen_ok]
theorem WO.callV {f : FuncId} {fn : Func} {c : Code} {x : Operand} {xs : Array Operand} {ts : Array TypeId} {first captured args : List Value} {own rest' : List Hp} {K' : Value → List Hp → Prop} (hv : ev env x = some (.func (.func f) first.toArray captured.toArray))
    (hf : P.funcs[f]? = some fn) (hb : fn.body = some c) (hnm : (fn.name == "runtime.NumGoroutine") = false) (hx : evs env xs.toList = some args) (ht : Takes hs own rest')
    (hc : ∀ G, F.le G → (∀ h ∈ rest', h.le G) → Spec P f (first ++ args ++ captured) G own K') (hk : ∀ v own', K' v own' → K v (own' ++ rest')) : WO P n B F (.call ⟨.value x, xs, ts⟩) ty env hs K :=
  fun o h1 h2 a w he ho next Q hn => by
    obtain ⟨G, g1, g2, g3, g4⟩ := Own.split (ho.perm ht.perm)
    have := hc G g1 g2 B w g3
    have hargs : xs.map a.eval = args.toArray := by
      have := he.evs hx
      apply Array.toList_inj.1
      simpa using this
    have hrun : (execOp a.eval o).run P w = .ok (.enter f (first ++ args ++ captured).toArray) w := by
      unfold execOp
      simp only [h1, resolve, he.ev hv, Deferred.ofValue, invoke, callFunc, program, Sem.run_bind, Sem.run, Result.andThen_ok, hf, hnm, hb, hargs, Sem.run_pure]
      simp
    unfold Oper.wp
    rw [hrun]
    refine this.mono fun e w' ⟨v, own', e1, e2, e3⟩ => ?_
    subst e1
    have := g4 own' w' e3
    exact hn v _ w' (hk v own' e2) (this.perm List.perm_append_comm)
theorem WO.appendIn {t e sz by' : Nat} {s x : Operand} {b o nn c m c2 : Nat} {A2 : Option Addr} {l cs : List Value} {u : TypeId} {hs' : List Hp} [hu : UT P t (.slice e)] [hz : SZ P e sz by'] (hs1 : ev env s = some (.slice (some ⟨b, o, none⟩) nn c)) (hx : ev env x = some (.slice A2 m c2)) (hroom : nn + m ≤ c)
    (hl : cs.length = m * sz) (hr : RowAt F hs A2 cs) (h1c : cs.all (·.oneCell') = true) (hrp : Repl hs (one b (cells l u)) (one b (cells (splice l (o + nn * sz) cs) u)) hs') (hin : o + nn * sz + cs.length ≤ l.length) (k : K (.slice (some ⟨b, o, none⟩) (nn + m) c) hs') : WO P n B F (.call ⟨.builtin .append, #[s, x], #[t, t]⟩) ty env hs K :=
  fun op h1 h2 a w he ho next Q hn => by
    obtain ⟨r, p1, p2⟩ := hrp.perm
    have H := ho.perm p1
    have hrow := hr.get ho
    have hg : w.heap[b]? = some (.cells l.toArray u (0, 0)) := H.all _ (.head _) _ _ (one_get _ _)
    have hst := run_storeCells_at P b (o + nn * sz) u cs 0 l.toArray w hg (by simpa using hin) (fun v hv => List.all_eq_true.1 h1c v hv)
    have hfc : (Builtin.firstCells sz m (.slice A2 m c2)).run P w = .ok cs.toArray w := by
      cases A2 with
      | none =>
        have : cs = [] := by
          cases cs with
          | nil => rfl
          | cons v vs => obtain ⟨_, _, h, _⟩ := hrow 0 v rfl; cases h
        subst this; rfl
      | some ad =>
        unfold Builtin.firstCells
        simp only
        rw [← hl]
        refine run_loadCells_list w ad cs fun j v hj => ?_
        obtain ⟨b', o', e1, e2⟩ := hrow j v hj
        cases e1
        unfold Addr.add
        split
        · next h => subst h; exact e2
        · exact e2
    have H' : Own B F (one b (cells (splice l (o + nn * sz) cs) u) :: r) (w.setRow b (List.take (o + nn * sz + 0) l ++ cs ++ List.drop (o + nn * sz + 0 + cs.length) l).toArray) := H.upd (by
      have := setRow_heap w b l.toArray (splice l (o + nn * sz) cs).toArray u (0, 0) hg
      simpa [splice] using this) (by
      intro q hq
      simp only [World.setRow, Array.getElem?_modify]
      rw [if_neg (Ne.symm hq)]) rfl rfl rfl
    have hadd : (⟨b, o, none⟩ : Addr).add (nn * sz) = ⟨b, o + nn * sz, none⟩ := by
      unfold Addr.add; split
      · next h => rw [h]; rfl
      · rfl
    unfold Oper.wp execOp
    simp only [h1, resolve, invoke, builtin, Sem.run_bind, Sem.run_pure, Result.andThen_ok, List.map_toArray, List.map_cons, List.map_nil, he.ev hs1, he.ev hx, Builtin.append_, run_underlying hu.eq, run_size hz.eq]
    simp [Builtin.lenOf, run_underlying hu.eq, run_size hz.eq, hfc, hroom, hadd, hst]
    have := hn _ hs' _ k (H'.perm p2.symm)
    rw [Oper.upon_value]
    simpa using this
theorem WO.clearS {t e sz by' : Nat} {z : Value} {zl : List Value} {s : Operand} {b o m c : Nat} {l : List Value} {u : TypeId} {hs' : List Hp} [hu : UT P t (.slice e)] [hz : SZ P e sz by'] [hzr : ZR P e z zl] (hs1 : ev env s = some (.slice (some ⟨b, o, none⟩) m c)) (h1c : zl.all (·.oneCell') = true)
    (hrp : Repl hs (one b (cells l u)) (one b (cells (splice l o (zrow zl m)) u)) hs') (hin : o + m * zl.length ≤ l.length) (k : K (.tuple #[]) hs') : WO P n B F (.call ⟨.builtin .clear, #[s], #[t]⟩) ty env hs K :=
  fun op h1 h2 a w he ho next Q hn => by
    obtain ⟨r, p1, p2⟩ := hrp.perm
    have H := ho.perm p1
    have hg : w.heap[b]? = some (.cells l.toArray u (0, 0)) := H.all _ (.head _) _ _ (one_get _ _)
    have h1z : ∀ v ∈ zrow zl m, v.oneCell' = true := zrow_one h1c m
    have hst := run_storeCells_at P b o u (zrow zl m) 0 l.toArray w hg (by rw [zrow_len]; simpa using hin) h1z
    have H' : Own B F (one b (cells (splice l o (zrow zl m)) u) :: r) (w.setRow b (List.take (o + 0) l ++ zrow zl m ++ List.drop (o + 0 + (zrow zl m).length) l).toArray) := H.upd (by
      have := setRow_heap w b l.toArray (splice l o (zrow zl m)).toArray u (0, 0) hg
      simpa [splice] using this) (by
      intro q hq
      simp only [World.setRow, Array.getElem?_modify]
      rw [if_neg (Ne.symm hq)]) rfl rfl rfl
    unfold Oper.wp execOp
    simp only [h1, resolve, invoke, builtin, Sem.run_bind, Sem.run_pure, Result.andThen_ok, List.map_toArray, List.map_cons, List.map_nil, he.ev hs1, Builtin.clear_]
    cases m with
    | zero =>
      have e : splice l o (zrow zl 0) = l := by simp [splice, zrow]
      rw [e] at p2
      simp [run_underlying hu.eq]
      have := hn _ hs' w k (H.perm p2.symm)
      rw [Oper.upon_value]
      simpa using this
    | succ m =>
      have hzc : (Builtin.zeroCells zl.toArray (m + 1)).toList = zrow zl (m + 1) := by
        have := zrow_arr zl (m + 1)
        unfold Builtin.zeroCells
        simp only [List.size_toArray] at this ⊢
        rw [this]
      simp [run_underlying hu.eq, run_zero hzr.eq, hzr.cells, hzc, hst]
      have := hn _ hs' _ k (H'.perm p2.symm)
      rw [Oper.upon_value]
      simpa using this
theorem Rn.sliceLH {t e sz by' m c b o : Nat} {x y y' : Operand} {k k' : IntKind} {i i' : Int} (j j' : Nat) [hu : UT P t (.slice e)] [hz : SZ P e sz by'] (hx : ev env x = some (.slice (some ⟨b, o, none⟩) m c)) (hy : ev env y = some (.int k i)) (hy' : ev env y' = some (.int k' i')) (hi : i = (j : Int)) (hi' : i' = (j' : Int)) (hj : j ≤ j') (hj' : j' ≤ c) :
    Rn P F hs (.slice t x (some y) (some y') none) ty env (.slice (some ⟨b, if c = j then o else o + j * sz, none⟩) (j' - j) (c - j)) := fun op h1 h2 n B a w he ho => by
  subst hi; subst hi'
  unfold execOp
  simp only [h1, he.ev hx, he.ev hy, he.ev hy', Option.map_some, Option.map_none, Instr.sliceAt, Instr.slice, Instr.sliceBounds, Sem.run_bind, run_underlying hu.eq, run_size hz.eq, Sem.run_pure, Result.andThen_ok, run_bound k j j' hj, run_bound k' j' c hj']
  by_cases h0 : c = j
  · simp only [if_pos h0]
  · simp only [if_neg h0, Option.map_some, Addr.add]
    by_cases h3 : j * sz = 0
    · simp [h3]
    · simp [h3]
theorem Rn.sliceLHM {t e sz by' m c : Nat} {b o : Nat} {x y y' y2 : Operand} {k k' k2 : IntKind} {i i' i2 : Int} (j j' j2 : Nat) [hu : UT P t (.slice e)] [hz : SZ P e sz by'] (hx : ev env x = some (.slice (some ⟨b, o, none⟩) m c)) (hy : ev env y = some (.int k i)) (hy' : ev env y' = some (.int k' i')) (hy2 : ev env y2 = some (.int k2 i2)) (hi : i = (j : Int)) (hi' : i' = (j' : Int)) (hi2 : i2 = (j2 : Int)) (hj : j ≤ j') (hj' : j' ≤ j2) (hj2 : j2 ≤ c) :
    Rn P F hs (.slice t x (some y) (some y') (some y2)) ty env (.slice (some ⟨b, if j2 = j then o else o + j * sz, none⟩) (j' - j) (j2 - j)) := fun op h1 h2 n B a w he ho => by
  subst hi; subst hi'; subst hi2
  unfold execOp
  simp only [h1, he.ev hx, he.ev hy, he.ev hy', he.ev hy2, Option.map_some, Option.map_none, Instr.sliceAt, Instr.slice, Instr.sliceBounds, Sem.run_bind, run_underlying hu.eq, run_size hz.eq, Sem.run_pure, Result.andThen_ok, run_bound k j j' hj, run_bound k' j' j2 hj', run_bound k2 j2 c hj2]
  by_cases h0 : j2 = j
  · simp only [if_pos h0]
  · simp only [if_neg h0, Option.map_some, Addr.add]
    by_cases h3 : j * sz = 0
    · simp [h3]
    · simp [h3]
end
section
variable {P : Program} {n : Nat} {B : World} {F : Hp} {env : Env} {hs : List Hp} {ty : TypeId} {K : Value → List Hp → Prop}
theorem WO.callA {f : FuncId} {fn : Func} {c : Code} {xs : Array Operand} {ts : Array TypeId} {args : List Value} {K' : Value → List Hp → Prop} (hf : P.funcs[f]? = some fn) (hb : fn.body = some c) (hnm : (fn.name == "runtime.NumGoroutine") = false)
    (hx : evs env xs.toList = some args) (hc : ∀ G, F.le G → Spec P f args G hs K') (hk : ∀ v own', K' v own' → K v own') : WO P n B F (.call ⟨.value (.func f), xs, ts⟩) ty env hs K :=
  WO.callN hf hb hnm hx (Takes.self hs) (fun G g _ => hc G g) fun v own' h => by rw [List.append_nil]; exact hk v own' h
end
end Go.Proofs.YtflgnpidelkkpaaGreat
