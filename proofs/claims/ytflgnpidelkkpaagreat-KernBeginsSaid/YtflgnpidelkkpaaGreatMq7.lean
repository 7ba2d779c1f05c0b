/- part 7 of the proof: contracts of the functions that the law reaches, and plain laws. -/
import Derived.Maps.RangeRun
import Derived.Deep.Quiet
import Derived.Test.YtflgnpidelkkpaaGreatMq6
import Derived.Test.YtflgnpidelkkpaaGreatMq3
namespace Go.Proofs.YtflgnpidelkkpaaGreat
set_option maxRecDepth 8000
set_option linter.unusedVariables false
set_option linter.unusedSimpArgs false
open Go.ChangeMaps (setBlock)
abbrev iterO (m ck : Nat) (seen : Array Nat) : Obj := .mapIter (some m) ck seen ck
theorem MapI.out {D : Int → Option Value} {m : Nat} {h : Hp} (hd : MapI D m h) : ∃ xs ck, h = one m (mapO xs ck) ∧ (xs.map (·.1)).Nodup ∧ (xs.map (·.2.2)).Nodup ∧ (∀ x ∈ xs, x.2.2 < ck) ∧ ∀ k, look xs k = D k := by
  obtain ⟨xs, ck, e, d1, d2, d3, hD⟩ := hd
  exact ⟨xs, ck, e, d1, d2, d3, hD⟩
section
variable {P : Program} {n : Nat} {B : World} {F : Hp} {hs : List Hp} {env : Env} {ty : TypeId} {K : Value → List Hp → Prop}
theorem Rn.lenMap {t e m ck : Nat} {z : Value} {x : Operand} {xs : List KV} [hm : MT P t e z] (hx : ev env x = some (.map (some m))) (hin : one m (mapO xs ck) ∈ hs) : Rn P F hs (.call ⟨.builtin .len, #[x], #[t]⟩) ty env (.int .i64 (xs.length : Nat)) := fun o h1 h2 n B a w he ho => by
  obtain ⟨kt, hk, _⟩ := hm.key
  have hg := ho.all _ hin _ _ (one_get _ _)
  unfold execOp; simp [h1, resolve, invoke, builtin, he.ev hx, Builtin.len_, run_underlying hk, run_getObj hg, goInt]
theorem WO.range {t e m ck : Nat} {z : Value} {x : Operand} {xs : List KV} [hm : MT P t e z] (hx : ev env x = some (.map (some m))) (hin : one m (mapO xs ck) ∈ hs) (k : ∀ r, K (.pointer (some ⟨r, 0, none⟩)) (one r (iterO m ck #[]) :: hs)) : WO P n B F (.range t x) ty env hs K := fun o h1 h2 a w he ho next Q hn => by
  obtain ⟨kt, hk, _⟩ := hm.key
  have hg := ho.all _ hin _ _ (one_get _ _)
  unfold Oper.wp execOp
  simp only [h1, he.ev hx, Instr.range, Sem.run_bind, run_underlying hk, Result.andThen_ok, run_getObj hg, Sem.run_pure, run_newObj, Oper.upon_value]
  exact hn _ _ (w.alloc (iterO m ck #[])) (k w.heap.size) (ho.alloc _)
theorem WO.next {m ck r : Nat} {seen : Array Nat} {x : Operand} {xs : List KV} {rest : List Hp} (hx : ev env x = some (.pointer (some ⟨r, 0, none⟩))) (ht : Take hs (one r (iterO m ck seen)) rest) (hin : one m (mapO xs ck) ∈ rest) (d3 : ∀ x ∈ xs, x.2.2 < ck)
    (k1 : (∀ x ∈ xs, x.2.2 ∈ seen) → K (.tuple #[.bool false]) (one r (iterO m ck seen) :: rest))
    (k2 : ∀ x ∈ xs, x.2.2 ∉ seen → K (.tuple #[.bool true, .int .i64 x.1, x.2.1]) (one r (iterO m ck (seen.push x.2.2)) :: rest)) : WO P n B F (.next x false) ty env hs K := fun o h1 h2 a w he ho next Q hn => by
  have H := ho.perm ht.perm
  have hr := H.all _ (.head _) _ _ (one_get _ _)
  have hb := H.all _ (List.mem_cons_of_mem _ hin) _ _ (one_get _ _)
  have hold : ∀ e ∈ ((xs.map ent).toArray).toList, e.born < ck := fun e he => by
    simp only [List.toList_toArray, List.mem_map] at he
    obtain ⟨y, hy, rfl⟩ := he
    exact d3 y hy
  unfold Oper.wp execOp
  simp only [h1, he.ev hx]
  rcases run_next_at (P := P) w o.type r m ck ck seen (xs.map ent).toArray ck hr hb hold (Nat.le_refl _) with ⟨h0, hrun⟩ | ⟨e, hem, w1, hw1, hrun⟩
  · simp only [Sem.run_bind, hrun, Result.andThen_ok, Sem.run_pure, Oper.upon_value]
    refine hn _ _ w (k1 fun y hy => ?_) H
    have h0 : leftOf (xs.map ent).toArray seen = #[] := Array.eq_empty_of_size_eq_zero h0
    unfold leftOf at h0
    rw [Array.filter_eq_empty_iff] at h0
    have := h0 (ent y) (by simp only [List.mem_toArray, List.mem_map]; exact ⟨y, hy, rfl⟩)
    simpa [ent] using this
  · have hmem : e ∈ xs.map ent ∧ e.born ∉ seen := by
      have : e ∈ leftOf (xs.map ent).toArray seen := by simpa using hem
      unfold leftOf at this
      rw [Array.mem_filter] at this
      exact ⟨by simpa using this.1, by simpa using this.2⟩
    obtain ⟨y, hy, rfl⟩ := List.mem_map.1 hmem.1
    have H1 : Own B F (one r (iterO m ck seen) :: rest) w1 := by
      rcases hw1 with rfl | rfl
      · exact H
      · exact H.drew
    have H2 : Own B F (one r (iterO m ck (seen.push y.2.2)) :: rest) (setBlock w1 r (iterO m ck (seen.push y.2.2))) := H1.upd (by
      have hr1 := H1.all _ (.head _) _ _ (one_get _ _)
      have := (Array.getElem?_eq_some_iff.1 hr1).1
      simp [setBlock, this]) (fun k hk => by simp [setBlock, Array.getElem?_setIfInBounds_ne (Ne.symm hk)]) rfl rfl rfl
    simp only [Sem.run_bind, hrun, Result.andThen_ok, Sem.run_pure, Oper.upon_value]
    exact hn _ _ _ (k2 y hy hmem.2) H2
theorem Rn.entry {m ck r : Nat} {seen : Array Nat} {x : Operand} {xs : List KV} {y : KV} (hx : ev env x = some (.pointer (some ⟨r, 0, none⟩))) (h1 : one r (iterO m ck (seen.push y.2.2)) ∈ hs) (h2 : one m (mapO xs ck) ∈ hs) (hy : y ∈ xs) (d2 : (xs.map (·.2.2)).Nodup) : Rn P F hs (.entry x) ty env (.tuple #[.int .i64 y.1, y.2.1]) := fun o e1 e2 n B a w he ho => by
  have hr := ho.all _ h1 _ _ (one_get _ _)
  have hb := ho.all _ h2 _ _ (one_get _ _)
  have := run_entry_at (P := P) w r m ck seen (xs.map ent).toArray ck (ent y) hr hb (by simp only [List.toList_toArray, List.mem_map]; exact ⟨y, hy, rfl⟩) (by simpa [ent, List.map_map, Function.comp_def] using d2)
  unfold execOp
  simp only [e1, he.ev hx, Sem.run_bind, this, Result.andThen_ok, Sem.run_pure]
  rfl
end
end Go.Proofs.YtflgnpidelkkpaaGreat
namespace Go.Proofs.YtflgnpidelkkpaaGreat
set_option maxRecDepth 8000
set_option linter.unusedVariables false
section
variable {P : Program} {n : Nat} {B : World} {F : Hp} {Q : Post} {env : Env} {hs : List Hp} {ops : Array Oper} {rest : List Oper} {d : Nat} {op : Op} {ty : TypeId} {pos : String} {aft : Array Edge}
def Qn (P : Program) (F : Hp) (hs : List Hp) (op : Op) (ty : TypeId) (env : Env) (v : Value) : Prop :=
  ∀ o : Oper, o.op = op → o.type = ty → ∀ n B a, E n env a → ∀ w, Own B F hs w → o.quietAt P a (Own B F hs) w v
theorem Rn.q {v : Value} (h : Rn P F hs op ty env v) : Qn P F hs op ty env v := fun o h1 h2 n B a he w ho => by
  unfold Oper.quietAt
  rw [h o h1 h2 n B a w he ho]
  exact ⟨rfl, rfl⟩
theorem Qn.call {f : FuncId} {fn : Func} {c : Code} {xs : Array Operand} {ts : Array TypeId} {args : List Value} {own r : List Hp} {v : Value} (hf : P.funcs[f]? = some fn) (hb : fn.body = some c) (hnm : (fn.name == "runtime.NumGoroutine") = false)
    (hx : evs env xs.toList = some args) (ht : Takes hs own r) (hc : ∀ G, F.le G → (∀ h ∈ r, h.le G) → Spec P f args G own fun u own' => u = v ∧ own' = own) : Qn P F hs (.call ⟨.value (.func f), xs, ts⟩) ty env v :=
  fun o h1 h2 n B a he w ho => by
    have hp := ht.perm
    obtain ⟨G, g1, g2, g3, g4⟩ := Own.split (ho.perm hp)
    have := hc G g1 g2 B w g3
    have hargs : xs.map a.eval = args.toArray := by
      have := he.evs hx
      apply Array.toList_inj.1
      simpa using this
    have hrun : (execOp a.eval o).run P w = .ok (.enter f args.toArray) w := by
      unfold execOp
      simp only [h1, resolve, Act.eval, Deferred.ofValue, invoke, callFunc, program, Sem.run_bind, Sem.run, Result.andThen_ok, hf, hnm, hb, hargs, Sem.run_pure]
      simp
      done
    unfold Oper.quietAt
    rw [hrun]
    refine ⟨rfl, this.mono fun e w' ⟨u, own', e1, ⟨e2, e3⟩, e4⟩ => ?_⟩
    subst e1; subst e2; subst e3
    exact ⟨rfl, (g4 _ w' e4).perm hp.symm⟩
def WQ (P : Program) (n : Nat) (B : World) (F : Hp) (ops : Array Oper) (Q : Post) (rest : List Oper) (env : Env) (hs : List Hp) : Prop :=
  ∀ a, E n env a → wpQuiet P ops (Own B F hs) (fun a' => ∀ w', Own B F hs w' → Q .normal a' w') rest a
theorem W.quiet {id : Nat} {l : List Oper} (hm : P.follows .mixedOrders = true) (hB : Region.lexB .any l.toArray = true) (h : WQ P n B F l.toArray Q l env hs) : W P n B F Q (.region id l.toArray true) env hs := fun a w he ho =>
  wp_region_quiet hm hB ho.drew (by simpa using h a he)
theorem WQ.nil (h : X n B F Q .normal env hs) : WQ P n B F ops Q [] env hs := fun a he => wpQuiet_nil fun w' ho => h a w' he ho
theorem WQ.rd {v : Value} (hd : Nat.blt d n = true) (h : Qn P F hs op ty env v) (k : WQ P n B F ops Q rest ((d, some v) :: env) hs) : WQ P n B F ops Q (⟨some d, op, ty, pos, aft, none⟩ :: rest) env hs := fun a he =>
  wpQuiet_step fun K hK => by
    rw [if_pos (by simp [Region.wanted])]
    exact ⟨v, fun w ho => h _ rfl rfl n B a he w ho, hK _ (k _ (he.put hd v))⟩
theorem WQ.yes {dst : Option Tmp} {j t : Nat} {b : Bool} (hj : ((ops[j]?).bind (·.dst)) = some t) (hv : lk env t = some (.bool b))
    (h : WQ P n B F ops Q (⟨dst, op, ty, pos, aft, none⟩ :: rest) env hs) : WQ P n B F ops Q (⟨dst, op, ty, pos, aft, some (j, b)⟩ :: rest) env hs := fun a he => by
  have h1 := h a he
  have hy := he.yield hj hv (fun _ _ => trivial)
  simp only at hy
  have hw : Region.wanted (⟨dst, op, ty, pos, aft, some (j, b)⟩ : Oper) (yielded ops a.tmps) = true := by simp [Region.wanted, hy]
  unfold wpQuiet at h1 ⊢
  rw [if_pos hw]
  rw [if_pos (by simp [Region.wanted])] at h1
  exact h1
theorem WQ.no {o : Oper} {j t : Nat} {b c : Bool} (ho : o.guard = some (j, b)) (hdst : o.dst = some d) (hd : Nat.blt d n = true) (hj : ((ops[j]?).bind (·.dst)) = some t) (hv : lk env t = some (.bool c)) (hc : (c == b) = false)
    (h : WQ P n B F ops Q rest ((d, some undef) :: env) hs) : WQ P n B F ops Q (o :: rest) env hs := fun a he => by
  have hy := he.yield hj hv (fun _ _ => trivial)
  simp only at hy
  have hn : Region.wanted o (yielded ops a.tmps) = false := by simp [Region.wanted, ho, hy]; simpa using hc
  unfold wpQuiet
  rw [hn]
  simp only [Bool.false_eq_true, if_false, hdst]
  exact h _ (he.put hd undef)
theorem WQ.noU {o : Oper} {j t : Nat} {b : Bool} (ho : o.guard = some (j, b)) (hdst : o.dst = some d) (hd : Nat.blt d n = true) (hj : ((ops[j]?).bind (·.dst)) = some t) (hv : lk env t = some undef)
    (h : WQ P n B F ops Q rest ((d, some undef) :: env) hs) : WQ P n B F ops Q (o :: rest) env hs := fun a he => by
  have hy := he.yield hj hv (fun _ _ => trivial)
  have hn : Region.wanted o (yielded ops a.tmps) = false := by simp [Region.wanted, ho, hy, undef]
  unfold wpQuiet
  rw [hn]
  simp only [Bool.false_eq_true, if_false, hdst]
  exact h _ (he.put hd undef)
theorem WQ.say {d : Nat} {v v' : Value} (hl : lk env d = some v) (hv : v = v') (h : WQ P n B F ops Q rest ((d, some v') :: env) hs) : WQ P n B F ops Q rest env hs :=
  fun a e => h a (e.mono fun t u hu => by
    rw [lk_put] at hu
    by_cases hk : d = t
    · rw [if_pos hk] at hu; injection hu with hu; subst hu; subst hk; subst hv; exact hl
    · rw [if_neg hk] at hu; exact hu)
theorem WQ.bare {d : Nat} {v : Value} (h : WQ P n B F ops Q rest ((d, none) :: env) hs) : WQ P n B F ops Q rest ((d, some v) :: env) hs := fun a he => h a he.hide
theorem WQ.guard {op : Op} {ty : TypeId} {pos : String} {aft : Array Edge} {j t : Nat} {b c : Bool} (hd : Nat.blt d n = true) (hj : ((ops[j]?).bind (·.dst)) = some t) (hv : lk env t = some (.bool c))
    (h1 : c = b → WQ P n B F ops Q (⟨some d, op, ty, pos, aft, none⟩ :: rest) ((t, some (.bool b)) :: env) hs) (h2 : c = (!b) → WQ P n B F ops Q rest ((d, some undef) :: (t, some (.bool (!b))) :: env) hs) : WQ P n B F ops Q (⟨some d, op, ty, pos, aft, some (j, b)⟩ :: rest) env hs := by
  by_cases hc : c = b
  · subst hc
    exact WQ.say hv rfl (WQ.yes (b := c) hj (by simp [lk]) (h1 rfl))
  · have hc' : c = (!b) := by cases b <;> cases c <;> simp_all
    subst hc'
    exact WQ.say hv rfl (WQ.no (b := b) (c := !b) rfl rfl hd hj (by simp [lk]) (by cases b <;> rfl) (h2 rfl))
def WH (P : Program) (n : Nat) (B : World) (F : Hp) (ops : Array Oper) (Q : Post) (rest : List Oper) (t : Nat) (b w : Bool) (env1 env0 : Env) (hs : List Hp) : Prop :=
  (∀ k v, lk env0 k = some v → lk env1 k = some v) → (b = w → WQ P n B F ops Q rest env1 hs) ∧ (b = (!w) → WQ P n B F ops Q rest env0 hs)
theorem WH.start {op : Op} {ty : TypeId} {pos : String} {aft : Array Edge} {dst : Option Tmp} {j t : Nat} {b w : Bool} (hj : ((ops[j]?).bind (·.dst)) = some t) (hv : lk env t = some (.bool b))
    (h : WH P n B F ops Q (⟨dst, op, ty, pos, aft, some (j, w)⟩ :: rest) t b w env env hs) : WQ P n B F ops Q (⟨dst, op, ty, pos, aft, some (j, w)⟩ :: rest) env hs := by
  obtain ⟨h1, h2⟩ := h fun _ _ e => e
  by_cases hb : b = w
  · exact h1 hb
  · exact h2 (by cases b <;> cases w <;> simp_all)
theorem WH.ex {op : Op} {ty : TypeId} {pos : String} {aft : Array Edge} {j t : Nat} {b w : Bool} {env1 env0 : Env} {v : Value} (hd : Nat.blt d n = true) (hj : ((ops[j]?).bind (·.dst)) = some t) (hv : lk env0 t = some (.bool b))
    (hr : b = w → Qn P F hs op ty env1 v) (h : WH P n B F ops Q rest t b w ((d, some v) :: env1) ((d, none) :: env0) hs) : WH P n B F ops Q (⟨some d, op, ty, pos, aft, some (j, w)⟩ :: rest) t b w env1 env0 hs := fun hle => by
  obtain ⟨h1, h2⟩ := h fun k u e => by
    rw [lk_put] at e ⊢
    by_cases hk : d = k
    · rw [if_pos hk] at e; cases e
    · rw [if_neg hk] at e ⊢; exact hle k u e
  refine ⟨fun hb => ?_, fun hb => ?_⟩
  · subst hb
    exact WQ.yes (b := b) hj (hle _ _ hv) (WQ.rd hd (hr rfl) (h1 rfl))
  · exact WQ.no (b := w) (c := b) rfl rfl hd hj hv (by subst hb; cases w <;> rfl) (h2 hb).bare
theorem Rn.orB {ty : TypeId} {t : Nat} {b c : Bool} {y : Operand} {env : Env} (hv : lk env t = some (.bool b)) (hy : ev env y = some (.bool c)) : Rn P F hs (.pick (.tmp t) (.const (.bool true)) y) ty env (.bool (b || c)) := fun o h1 h2 n B a w he ho => by
  unfold execOp; simp only [h1, he.ev (x := .tmp t) hv, he.ev hy]; cases b <;> rfl
theorem Rn.andB {ty : TypeId} {t : Nat} {b c : Bool} {y : Operand} {env : Env} (hv : lk env t = some (.bool b)) (hy : ev env y = some (.bool c)) : Rn P F hs (.pick (.tmp t) y (.const (.bool false))) ty env (.bool (b && c)) := fun o h1 h2 n B a w he ho => by
  unfold execOp; simp only [h1, he.ev (x := .tmp t) hv, he.ev hy]; cases b <;> rfl
theorem WH.or {ty : TypeId} {pos : String} {aft : Array Edge} {t : Nat} {b c : Bool} {y : Operand} {env1 env0 : Env} (hd : Nat.blt d n = true) (hv : lk env0 t = some (.bool b)) (hy : ev env1 y = some (.bool c))
    (k : WQ P n B F ops Q rest ((d, some (.bool (b || c))) :: env0) hs) : WH P n B F ops Q (⟨some d, .pick (.tmp t) (.const (.bool true)) y, ty, pos, aft, none⟩ :: rest) t b false env1 env0 hs := fun hle => by
  refine ⟨fun hb => ?_, fun hb => ?_⟩
  · refine WQ.rd (v := .bool (b || c)) hd (Rn.orB (hle _ _ hv) hy).q fun a he => k a (he.mono fun q u e => ?_)
    rw [lk_put] at e ⊢
    by_cases hk : d = q
    · rw [if_pos hk] at e ⊢; exact e
    · rw [if_neg hk] at e ⊢; exact hle q u e
  · subst hb
    exact WQ.rd (v := .bool (true || c)) hd (Rn.q fun o h1 h2 n B a w he ho => by unfold execOp; simp only [h1, he.ev (x := .tmp t) hv]; rfl) k
theorem WH.and {ty : TypeId} {pos : String} {aft : Array Edge} {t : Nat} {b c : Bool} {y : Operand} {env1 env0 : Env} (hd : Nat.blt d n = true) (hv : lk env0 t = some (.bool b)) (hy : ev env1 y = some (.bool c))
    (k : WQ P n B F ops Q rest ((d, some (.bool (b && c))) :: env0) hs) : WH P n B F ops Q (⟨some d, .pick (.tmp t) y (.const (.bool false)), ty, pos, aft, none⟩ :: rest) t b true env1 env0 hs := fun hle => by
  refine ⟨fun hb => ?_, fun hb => ?_⟩
  · refine WQ.rd (v := .bool (b && c)) hd (Rn.andB (hle _ _ hv) hy).q fun a he => k a (he.mono fun q u e => ?_)
    rw [lk_put] at e ⊢
    by_cases hk : d = q
    · rw [if_pos hk] at e ⊢; exact e
    · rw [if_neg hk] at e ⊢; exact hle q u e
  · subst hb
    exact WQ.rd (v := .bool (false && c)) hd (Rn.q fun o h1 h2 n B a w he ho => by unfold execOp; simp only [h1, he.ev (x := .tmp t) hv]; rfl) k
theorem wpList_ofQ {C : World → Prop} : ∀ (rest : List Oper) (a : Act) (w : World), C w → wpQuiet P ops C (fun a' => ∀ w', C w' → Q .normal a' w') rest a → wpList P ops Q rest a w
  | [], a, w, hw, h => wpList_nil (h w hw)
  | o :: r, a, w, hw, h => by
    unfold wpQuiet at h
    unfold wpList
    split
    · next hg =>
      rw [if_pos hg] at h
      exact .inl (Oper.wp_of_quiet hw (fun a' w' hw' hK => wpList_ofQ r a' w' hw' hK) h)
    · next hg =>
      rw [if_neg hg] at h
      have k := wpList_ofQ r _ w hw h
      cases hd : o.dst with
      | none => rw [hd] at k; simpa [Act.put] using k
      | some d => rw [hd] at k; simpa using k
theorem WL.ofQ (h : WQ P n B F ops Q rest env hs) : WL P n B F ops Q rest env hs := fun a w he ho => wpList_ofQ rest a w ho (h a he)
theorem Rn.indexAddrE {t e sz by' b o m c : Nat} {A : Option Addr} {x y : Operand} {k : IntKind} {i : Int} (j : Nat) [hu : UT P t (.slice e)] [hz : SZ P e sz by'] (hA : A = some ⟨b, o, none⟩) (hx : ev env x = some (.slice A m c)) (hy : ev env y = some (.int k i)) (hi : i = (j : Int)) (hj : j < m) :
    Rn P F hs (.indexAddr t x y) ty env (.pointer (some ⟨b, o + j * sz, none⟩)) := by subst hA; exact Rn.indexAddr j hx hy hi hj
end
theorem Rn.to {P : Program} {F : Hp} {hs : List Hp} {op : Op} {ty : TypeId} {env : Env} {v v' : Value} (h : Rn P F hs op ty env v) (e : v = v') : Rn P F hs op ty env v' := e ▸ h
theorem foldl_take_succ {α β : Type} (f : β → α → β) (b : β) (xs : List α) (k : Nat) (x : α) (h : xs[k]? = some x) : (xs.take (k + 1)).foldl f b = f ((xs.take k).foldl f b) x := by
  rw [List.take_add_one, h, List.foldl_append]; rfl
theorem foldl_range_succ {β : Type} (f : β → Nat → β) (b : β) (k : Nat) : (List.range (k + 1)).foldl f b = f ((List.range k).foldl f b) k := by
  rw [List.range_succ, List.foldl_append]; rfl
end Go.Proofs.YtflgnpidelkkpaaGreat
namespace Go.Proofs.YtflgnpidelkkpaaGreat
set_option maxRecDepth 8000
set_option linter.unusedVariables false
def deps (ops : Array Oper) (listed : Array Bool) (D : List Nat) (i : Nat) : Bool := D.all fun k => !(listed.getD k true) && (match ops[k]? with
  | some o => o.after.any fun e => Region.binds .any e && (e.on == i || D.contains e.on)
  | none => false)
section
variable {P : Program} {n : Nat} {B : World} {F : Hp} {Q : Post} {env : Env} {hs : List Hp} {ops : Array Oper} {d : Nat}
theorem wpAnyS_dep {S0 Z : World → Prop} {Ss : List ((World → Prop) × List Nat)} {i : Nat} {oi : Oper} {v : Value} (D : List Nat) (hi : ops[i]? = some oi) (hsel : ∀ (j : Nat) (o : Oper) cs b, ops[j]? = some o → o.op ≠ .select cs b)
    (hD2 : ∀ k ∈ D, ∃ ok, ops[k]? = some ok ∧ ∃ e ∈ ok.after, Region.binds .any e = true ∧ (e.on = i ∨ e.on ∈ D))
    (hQ : NP Q) (hZ : ∀ j oj w w', ops[j]? = some oj → j ∉ D → Z w → S0 w' → (∀ p ∈ Ss, p.2.contains j = false → p.1 w → p.1 w') → Z w') :
    ∀ (fuel : Nat) (listed : Array Bool) (a : Act) (w : World), (∀ k ∈ D, listed.getD k true = false) →
      (∀ j oj, ops[j]? = some oj → j ≠ i → listed.getD j true = false → (∀ e ∈ oj.after, Region.binds .any e = true → e.on ≠ i) → oi.apart ops oj = true) →
      i ∈ Region.ready .any ops listed → YieldsIf P ops Z oi v a → Z w → S0 w →
      wpAnyS P ops Q S0 Ss fuel (listed.setIfInBounds i true) (a.put oi.dst v) w → wpAnyS P ops Q S0 Ss (fuel + 1) listed a w := by
  intro fuel
  induction fuel with
  | zero =>
    intro listed a w _ _ hr hy hS hS0 H
    refine ⟨fun h => (by rw [h] at hr; cases hr), fun j hj => ?_⟩
    by_cases hji : j = i
    · subst hji; exact hy.wpOp hi hS ⟨⟨hS0, fun _ _ _ h => h⟩, H⟩
    · have := ready_mono hj hji
      rw [H.1] at this
      cases this
  | succ fuel ih =>
    intro listed a w hD hfree hr hy hS hS0 H
    refine ⟨fun h => (by rw [h] at hr; cases hr), fun j hj => ?_⟩
    by_cases hji : j = i
    · subst hji; exact hy.wpOp hi hS ⟨⟨hS0, fun _ _ _ h => h⟩, H⟩
    · have h1 := H.2 j (ready_mono hj hji)
      obtain ⟨hjun, oj, hoj, hall⟩ := mem_ready.1 hj
      have hnot : ∀ e ∈ oj.after, Region.binds .any e = true → e.on ≠ i := fun e he hb heq => by
        have h1 := hall e he hb
        have h0 := (mem_ready.1 hr).1
        rw [heq] at h1
        rcases Nat.lt_or_ge i listed.size with h' | h'
        · simp [h'] at h0 h1; rw [h0] at h1; cases h1
        · simp [Array.getElem?_eq_none h'] at h1
      have hjD : j ∉ D := fun hm => by
        obtain ⟨ok, hok, e, he, hb, ho⟩ := hD2 j hm
        rw [hoj] at hok; cases hok
        rcases ho with ho | ho
        · exact hnot e he hb ho
        · have h1 := hall e he hb
          have h0 := hD _ ho
          rcases Nat.lt_or_ge e.on listed.size with h' | h'
          · simp [h'] at h0 h1; rw [h0] at h1; cases h1
          · simp [Array.getElem?_eq_none h'] at h1
      have h2 := wpOp_putIf hoj (hfree j oj hoj hji hjun hnot) (fun cs b => hsel i oi cs b hi) (fun cs b => hsel j oj cs b hoj) (fun c a w q => absurd q (hQ c _ _)) hy h1
      have hfree' : ∀ k ok, ops[k]? = some ok → k ≠ i → (listed.setIfInBounds j true).getD k true = false →
          (∀ e ∈ ok.after, Region.binds .any e = true → e.on ≠ i) → oi.apart ops ok = true := fun k ok hk hki hun hno => by
        refine hfree k ok hk hki ?_ hno
        by_cases hjk : j = k
        · subst hjk; exact hjun
        · rw [getD_set_ne true hjk] at hun; exact hun
      have hD' : ∀ k ∈ D, (listed.setIfInBounds j true).getD k true = false := fun k hk => by
        have hne : j ≠ k := fun e => by subst e; exact hjD hk
        rw [getD_set_ne true hne]; exact hD k hk
      refine wpOp_mono (fun a' w' h3 => ⟨h3.2.1, ih (listed.setIfInBounds j true) a' w' hD' hfree' (ready_mono hr (Ne.symm hji)) h3.1 (hZ j oj w w' hoj hjD hS h3.2.1.1 h3.2.1.2) h3.2.1.1 ?_⟩) h2
      rw [Array.setIfInBounds_comm _ _ hji]
      exact h3.2.2
theorem deps_spec {listed : Array Bool} {D : List Nat} {i : Nat} (h : deps ops listed D i = true) : (∀ k ∈ D, listed.getD k true = false) ∧ ∀ k ∈ D, ∃ ok, ops[k]? = some ok ∧ ∃ e ∈ ok.after, Region.binds .any e = true ∧ (e.on = i ∨ e.on ∈ D) := by
  have h := List.all_eq_true.1 h
  refine ⟨fun k hk => ?_, fun k hk => ?_⟩
  · have := h k hk
    rw [Bool.and_eq_true] at this
    simpa using this.1
  · have := h k hk
    rw [Bool.and_eq_true] at this
    have h2 := this.2
    cases ho : ops[k]? with
    | none => rw [ho] at h2; cases h2
    | some o =>
      rw [ho] at h2
      dsimp only at h2
      rw [Array.any_eq_true'] at h2
      obtain ⟨e, he, h3⟩ := h2
      rw [Bool.and_eq_true, Bool.or_eq_true] at h3
      exact ⟨o, rfl, e, he, h3.1, h3.2.imp (fun h => eq_of_beq h) (fun h => by simpa using h)⟩
variable {pins : Pins} {fuel i j t k : Nat} {b c : Bool} {h0 : Hp} {tl : List Nat} {listed ls : Array Bool} {op : Op} {ty : TypeId} {pos : String} {aft : Array Edge} {v : Value}
theorem WA.ldD (D : List Nat) (hi : ops[i]? = some ⟨some d, op, ty, pos, aft, none⟩) (hd : Nat.blt d n = true) (hc : tkOk ops listed ls i = true) (hp : pins[k]? = some (h0, tl)) (hw : deps ops listed D i = true) (htl : tl.all D.contains = true) (hk : Keep hs [h0])
    (hy : Rn P F [h0] op ty env v) (h : WA P n B F ops Q pins fuel ls ((d, some v) :: env) hs) : WA P n B F ops Q pins (fuel + 1) listed env hs :=
  fun hQ a w he ho => by
    obtain ⟨hs1, hf, hr, hl⟩ := tkOk_spec hc
    obtain ⟨hD, hD2⟩ := deps_spec hw
    exact wpAnyS_dep (Z := Own B F [h0]) D hi (Region.noSelect_spec hs1) hD2 hQ (fun j oj w w' hj hn hz _ hs => hs (Own B F [h0], tl) (List.mem_map.2 ⟨(h0, tl), List.mem_of_getElem? hp, rfl⟩) (by
        cases hc : tl.contains j with
        | false => rfl
        | true =>
          have := List.all_eq_true.1 htl j (by simpa using hc)
          exact absurd (by simpa using this) hn) hz) fuel listed a w hD (Region.free_spec hi hf) (by simpa using hr) (.inl ⟨by simp [Region.wanted], fun w hS => hy _ rfl rfl n B a w he hS⟩) (hk.own ho) ho.sub
      (by rw [hl]; exact h hQ _ w (he.put hd v) ho)
end
end Go.Proofs.YtflgnpidelkkpaaGreat
namespace Go.Proofs.YtflgnpidelkkpaaGreat
set_option maxRecDepth 8000
set_option linter.unusedVariables false
theorem atA {p : Prop} (h : p := by ((repeat (first | exact At.one | exact At.here (by assumption) | exact At.ro (by assumption) | apply At.there)) <;> fail)) : p := h
theorem rpA {p : Prop} (h : p := by ((repeat (first | exact Repl.here | apply Repl.there)) <;> fail)) : p := h
theorem seA {p : Prop} (h : p := by ((repeat (first | exact SetAt.zero | apply SetAt.succ)) <;> fail)) : p := h
theorem tkA {p : Prop} (h : p := by ((repeat (first | exact Take.here | apply Take.there)) <;> fail)) : p := h
theorem keA {p : Prop} (h : p := by ((repeat (first | exact Keep.nil | (apply Keep.cons; (exact tkA)))) <;> fail)) : p := h
theorem tsA {p : Prop} (h : p := by ((repeat (first | exact Takes.self _ | exact Takes.nil | (apply Takes.cons; (exact tkA)))) <;> fail)) : p := h
theorem fiA {p : Prop} (h : p := by ((repeat (first | exact Fill.nil | (apply Fill.cell; (exact rfl); (exact rfl); (exact rfl); (exact seA)))) <;> fail)) : p := h
theorem spA {p : Prop} (h : p := by ((repeat (first | exact SpAt.nil | apply SpAt.put | apply SpAt.skip)) <;> fail)) : p := h
theorem fpA {p : Prop} (h : p := by ((repeat (first | exact Fill.nil | (apply Fill.cell; (exact rfl); (exact rfl); (exact rfl); (exact seA)) | (apply Fill.part; (exact rfl); (exact rfl); (exact rfl); (exact spA)))) <;> fail)) : p := h
theorem npA {p : Prop} (h : p := by ((repeat (first | exact NP.body | refine Cont.np (by assumption) ?_ | refine Blk.np (by assumption) ?_ | refine Again.np (by assumption) ?_ | refine Scp.np (by assumption) ?_ | refine Met.np (by assumption) ?_)) <;> fail)) : p := h
theorem pnA {p : Prop} (h : p := by ((repeat (first | exact Pin.nil | (apply Pin.cons; (exact rfl); (exact tkA)))) <;> fail)) : p := h
theorem piA {p : Prop} (h : p := by ((repeat (first | exact trivial | refine ⟨.inl (by decide), ?_⟩ | refine ⟨.inr keA, ?_⟩)) <;> fail)) : p := h
theorem rnA {p : Prop} (h : p := by first | exact Rn.move rfl | exact Rn.assign rfl | exact Rn.fieldAddr0 rfl | (apply Rn.load; (exact rfl); apply CellAt.mk; (exact atA); (exact rfl)) | exact Rn.cmp rfl rfl rfl | exact Rn.pickT rfl rfl | exact Rn.pickF rfl rfl | exact Rn.not rfl | exact Rn.nilCheck rfl | exact Rn.len rfl | exact Rn.extract rfl rfl | exact Rn.add rfl rfl (by omega) | exact Rn.sub rfl rfl (by omega) | exact Rn.addW rfl rfl | exact Rn.subW rfl rfl | exact Rn.mul rfl rfl (by omega) | exact Rn.mulW rfl rfl | exact Rn.min rfl rfl | exact Rn.max rfl rfl | exact Rn.eqP rfl rfl | exact Rn.neP rfl rfl | exact Rn.eqB rfl rfl | exact Rn.eqS rfl rfl | exact Rn.eqA rfl rfl rfl | exact Rn.neA rfl rfl rfl | (apply Rn.build; (exact fiA)) | exact Rn.fieldAddr rfl) : p := h
theorem rqA {p : Prop} (h : p := by first | exact Rn.move rfl | exact Rn.assign rfl | exact Rn.fieldAddr0 rfl | (apply Rn.load; (exact rfl); apply CellAt.mk; (exact atA); (exact rfl)) | (apply Rn.loadS; (exact rfl); apply CellsAt.all; (exact atA); (exact rfl)) | exact rnA) : p := h
theorem rdA {p : Prop} (h : p := by first | exact Rn.move rfl | exact Rn.assign rfl | exact Rn.nilCheck rfl | exact Rn.extract rfl rfl | exact Rn.fieldAddr0 rfl | exact Rn.fieldAddr rfl | exact Rn.pickT rfl rfl | exact Rn.pickF rfl rfl | exact Rn.not rfl | (apply Rn.build; (exact fiA)) | exact Rn.len rfl | exact Rn.min rfl rfl | exact Rn.max rfl rfl | exact Rn.cmp rfl rfl rfl | exact Rn.add rfl rfl (by omega) | exact Rn.addW rfl rfl | exact Rn.sub rfl rfl (by omega) | exact Rn.subW rfl rfl | exact Rn.mul rfl rfl (by omega) | exact Rn.mulW rfl rfl | exact Rn.eqP rfl rfl | exact Rn.eqB rfl rfl | exact Rn.eqA rfl rfl rfl | exact Rn.eqS rfl rfl | exact Rn.neP rfl rfl | exact Rn.neA rfl rfl rfl | (apply Rn.load; (exact rfl); apply CellAt.mk; (exact atA); (exact rfl))) : p := h
theorem ckA {p : Prop} (h : p := by first | exact Rn.cmp (b := true) rfl rfl (congrArg some (decide_eq_true (by omega))) | exact Rn.cmp (b := false) rfl rfl (congrArg some (decide_eq_false (by omega))) | exact Rn.cmp (b := true) rfl rfl (congrArg some (beq_iff_eq.2 (by omega))) | exact Rn.cmp (b := false) rfl rfl (congrArg some (beq_eq_false_iff_ne.2 (by omega))) | exact Rn.cmp (b := true) rfl rfl (congrArg some (bne_iff_ne.2 (by omega))) | exact Rn.cmp (b := false) rfl rfl (congrArg some (bne_eq_false_iff_eq.2 (by omega)))) : p := h
theorem sxA {g p : Prop} (k : g) (h : g → p := by first | exact fun k => W.seqK k | exact fun k => W.region k | exact fun k => W.blockK k | exact fun k => W.skip k | exact fun k => W.scopeK k | exact fun k => W.label k | exact fun k => W.ret k | exact fun k => W.exit k | exact fun k => W.condT rfl k | exact fun k => W.condF rfl k | exact fun k => Cont.nx (by assumption) _ _ k | exact fun k => Cont.rt (by assumption) _ _ k | exact fun k => Cont.ex (by assumption) _ _ _ k | exact fun k => Blk.nx (by assumption) _ _ k | exact fun k => Blk.ot (by assumption) _ _ k | exact fun k => Blk.rt (by assumption) _ _ k | exact fun k => Blk.ex (by assumption) _ _ _ rfl k | exact fun k => Again.rt (by assumption) _ _ k | exact fun k => Again.ex (by assumption) _ _ _ k | exact fun k => Scp.nx (by assumption) _ _ k | exact fun k => Scp.rt (by assumption) _ _ k | exact fun k => Scp.ex (by assumption) _ _ _ k | exact fun k => Met.rt (by assumption) _ _ k | exact fun k => Met.ex (by assumption) _ _ _ k) : p := h k
theorem soA {g p : Prop} (k : g) (h : g → p := by first | (intro k; apply WL.rd (k := k); (exact rfl); (exact rnA)) | exact fun k => WL.nil k | (intro k; apply WL.loadA; (exact rfl); (exact rfl); (exact atA); (exact rfl); exact k) | exact fun k => WL.yes rfl rfl k | exact fun k => WL.no rfl rfl rfl rfl rfl rfl k | exact fun k => WL.no0 rfl rfl rfl rfl rfl k | exact fun k => WL.noU rfl rfl rfl rfl rfl k | exact fun k => WL.noU0 rfl rfl rfl rfl k | exact fun k => WL.ex rfl (WO.box rfl rfl k) | exact fun k => WL.ex rfl (WO.alloc k) | (intro k; apply WL.store; (exact rfl); (exact rfl); (exact atA); (exact rfl); (exact seA); (exact rpA); exact k) | (intro k; apply WL.storeA; (exact rfl); (exact rfl); (exact atA); (exact rfl); (exact rfl); (exact rfl); (exact rpA); exact k)) : p := h k
theorem sbA {g p : Prop} (k : g) (h : g → p := by intro k; (apply WL.ex; (exact rfl); apply WO.buildSlice; (exact rfl); (exact rfl); (exact fpA); exact k)) : p := h k
theorem sgA {g p : Prop} (k : g) (h : g → p := by first | exact fun k => WG.start rfl rfl k | (intro k; apply WG.ex (h := k); (exact rfl); (exact rfl); (exact rfl); (intro hb; (exact rnA))) | exact fun k => WG.or rfl rfl rfl k | exact fun k => WG.and rfl rfl rfl k) : p := h k
theorem sqA {g p : Prop} (k : g) (h : g → p := by first | (intro k; apply WQ.rd (k := k); (exact rfl); (apply Rn.q; (exact rqA))) | exact fun k => WQ.nil k | exact fun k => WQ.yes rfl rfl k | exact fun k => WQ.no rfl rfl rfl rfl rfl rfl k | exact fun k => WQ.noU rfl rfl rfl rfl rfl k | exact fun k => WH.start rfl rfl k | (intro k; apply WH.ex (h := k); (exact rfl); (exact rfl); (exact rfl); (intro hb; apply Rn.q; (exact rqA))) | exact fun k => WH.or rfl rfl rfl k | exact fun k => WH.and rfl rfl rfl k) : p := h k
theorem suA {g p : Prop} (k : g) (h : g → p := by exact fun k => W.quiet (by kernel_rfl) (by kernel_rfl) k) : p := h k
section
variable {P : Program} {n : Nat} {B : World} {F : Hp} {ops : Array Oper} {Q : Post} {env : Env} {hs : List Hp} {pins : Pins} {fuel d : Nat} {listed : Array Bool} {op : Op} {ty : TypeId} {pos : String} {aft : Array Edge} {v : Value}
theorem dra {id m : Nat} {ps : Pins} (slots : List (Nat × List Nat)) (more : Pins) (h : WA P n B F ops Q (ps ++ more) m (bts m 0) env hs) (hm : P.follows .mixedOrders = true := by kernel_rfl) (hz : ops.size = m := by exact rfl) (hl : (Array.replicate m false == bts m 0) = true := by kernel_rfl) (hq : NP Q := by exact npA) (hp : Pin env hs slots ps := by exact pnA) : W P n B F Q (.region id ops true) env hs := W.draw slots more hm hz hl hq hp h
theorem drz (h : X n B F Q .normal env hs) (hr : Region.ready .any ops listed = [] := by kernel_rfl) : WA P n B F ops Q pins fuel listed env hs := WA.done hr h
theorem drp (N i m : Nat) (h : WA P n B F ops Q pins fuel (bts N m) ((d, some v) :: env) hs) (hi : ops[i]? = some ⟨some d, op, ty, pos, aft, none⟩ := by exact rfl) (hd : Nat.blt d n = true := by exact rfl) (hc : tkOk ops listed (bts N m) i = true := by kernel_rfl) (hy : Rn P F [] op ty env v := by exact rdA) : WA P n B F ops Q pins (fuel + 1) listed env hs := WA.tp hi hd hc hy h
theorem drl {h0 : Hp} {tl : List Nat} (N i k m : Nat) (h : WA P n B F ops Q pins fuel (bts N m) ((d, some v) :: env) hs) (hi : ops[i]? = some ⟨some d, op, ty, pos, aft, none⟩ := by exact rfl) (hd : Nat.blt d n = true := by exact rfl) (hc : tkOk ops listed (bts N m) i = true := by kernel_rfl) (hp : pins[k]? = some (h0, tl) := by exact rfl) (hw : waits ops tl i = true := by kernel_rfl) (hk : Keep hs [h0] := by exact .cons tkA .nil)
    (hy : Rn P F [h0] op ty env v := by first | exact Rn.load rfl (.mk At.one rfl) | exact Rn.loadS rfl (.all At.one) rfl) : WA P n B F ops Q pins (fuel + 1) listed env hs := WA.ld hi hd hc hp hw hk hy h
theorem drk {h0 : Hp} {tl : List Nat} (D : List Nat) (N i k m : Nat) (h : WA P n B F ops Q pins fuel (bts N m) ((d, some v) :: env) hs) (hi : ops[i]? = some ⟨some d, op, ty, pos, aft, none⟩ := by exact rfl) (hd : Nat.blt d n = true := by exact rfl) (hc : tkOk ops listed (bts N m) i = true := by kernel_rfl) (hp : pins[k]? = some (h0, tl) := by exact rfl) (hw : deps ops listed D i = true := by kernel_rfl) (htl : tl.all D.contains = true := by kernel_rfl) (hk : Keep hs [h0] := by exact .cons tkA .nil)
    (hy : Rn P F [h0] op ty env v := by first | exact Rn.load rfl (.mk At.one rfl) | exact Rn.loadS rfl (.all At.one) rfl) : WA P n B F ops Q pins (fuel + 1) listed env hs := WA.ldD D hi hd hc hp hw htl hk hy h
theorem dre (N i m : Nat) (h : WO P n B F op ty env hs fun v hs' => PinsOk hs' i pins ∧ WA P n B F ops Q pins fuel (bts N m) ((d, some v) :: env) hs') (hi : ops[i]? = some ⟨some d, op, ty, pos, aft, none⟩ := by exact rfl) (hd : Nat.blt d n = true := by exact rfl) (hl : (listed.setIfInBounds i true == bts N m) = true := by kernel_rfl) : WB P n B F ops Q pins fuel listed env hs i := WB.ex hi hd hl h
theorem drf (N i m : Nat) (h : WO P n B F op ty env hs fun v hs' => PinsOk hs' i pins ∧ WA P n B F ops Q pins fuel (bts N m) env hs') (hi : ops[i]? = some ⟨none, op, ty, pos, aft, none⟩ := by exact rfl) (hl : (listed.setIfInBounds i true == bts N m) = true := by kernel_rfl) : WB P n B F ops Q pins fuel listed env hs i := WB.ex0 hi hl h
theorem dr1 (i : Nat) (h : WB P n B F ops Q pins fuel listed env hs i) (hr : Region.ready .any ops listed = [i] := by kernel_rfl) : WA P n B F ops Q pins (fuel + 1) listed env hs := WA.one hr h
theorem dr2 (i j : Nat) (h : WB P n B F ops Q pins fuel listed env hs i) (h' : WB P n B F ops Q pins fuel listed env hs j) (hr : Region.ready .any ops listed = [i, j] := by kernel_rfl) : WA P n B F ops Q pins (fuel + 1) listed env hs := WA.two hr h h'
theorem dr3 (i j k : Nat) (h : WB P n B F ops Q pins fuel listed env hs i) (h' : WB P n B F ops Q pins fuel listed env hs j) (h'' : WB P n B F ops Q pins fuel listed env hs k) (hr : Region.ready .any ops listed = [i, j, k] := by kernel_rfl) : WA P n B F ops Q pins (fuel + 1) listed env hs := WA.three hr h h' h''
end
theorem swA {g p : Prop} (k : g) (h : g → p := by first | (intro k; apply WO.store' ; (exact rfl); (exact rfl); (exact atA); (exact rfl); (exact seA); (exact rpA); exact k) | (intro k; apply WO.storeA'; (exact rfl); (exact rfl); (exact atA); (exact rfl); (exact rfl); (exact rfl); (exact rpA); exact k)) : p := h k
theorem seE {g p : Prop} (k : g) (h : g → p := by first | exact fun k => X.ret1 rfl rfl k | exact fun k => X.ret2 rfl rfl rfl k | (intro k; apply X.retSt; (exact rfl); infer_instance; infer_instance; (exact rfl); (exact rfl); (exact atA); (exact rfl); exact k) | (intro k; apply X.retS; (exact rfl); infer_instance; infer_instance; (exact rfl); (exact atA); (exact rfl); exact k) | exact fun k => X.ret3 rfl rfl rfl rfl k | exact fun k => X.ret4 rfl rfl rfl rfl rfl k | exact fun k => X.ret0 rfl k | exact fun k => X.end0 rfl k) : p := h k
end Go.Proofs.YtflgnpidelkkpaaGreat
