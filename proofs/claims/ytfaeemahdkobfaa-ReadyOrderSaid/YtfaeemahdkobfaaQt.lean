/- A region that only reads, in any order: one walk in the text's order. -/
import Derived.Test.YtfaeemahdkobfaaOps10
import Derived.Deep.Quiet
namespace Go.Proofs.Ytfaeemahdkobfaa
set_option linter.unusedVariables false
section
variable {P : Program} {n : Nat} {B : World} {F : Hp} {Q : Post} {env : Env} {hs : List Hp} {ops : Array Oper} {rest : List Oper} {d : Nat} {op : Op} {ty : TypeId} {pos : String} {aft : Array Edge}
/-- an operation that leaves memory as it is, and whose value hangs on nothing else -/
def Qn (P : Program) (F : Hp) (hs : List Hp) (op : Op) (ty : TypeId) (env : Env) (v : Value) : Prop :=
  ∀ o : Oper, o.op = op → o.type = ty → ∀ n B a, E n env a → ∀ w, Own B F hs w → o.quietAt P a (Own B F hs) w v
theorem Rn.q {v : Value} (h : Rn P F hs op ty env v) : Qn P F hs op ty env v := fun o h1 h2 n B a he w ho => by
  unfold Oper.quietAt
  rw [h o h1 h2 n B a w he ho]
  exact ⟨rfl, rfl⟩
theorem Qn.call {f : FuncId} {fn : Func} {c : Code} {xs : Array Operand} {ts : Array TypeId} {args : List Value} {own r : List Hp} {v : Value} (hf : P.funcs[f]? = some fn) (hb : fn.body = some c) (hnm : (fn.name == "runtime.NumGoroutine") = false)
    (hx : evs env xs.toList = some args) (ht : Takes hs own r) (hc : ∀ G, F.le G → (∀ h ∈ r, h.le G) → Spec P f args G own fun u own' => u = v ∧ own' = own) : Qn P F hs (.call ⟨.value (.func f), xs, ts⟩) ty env v :=
  fun o h1 h2 n B a he w ho => by
    have hp := ht.perm
    obtain ⟨G, g1, g2, g3, g4⟩ := Own.split (ho.perm hp)
    have := hc G g1 g2 B w g3
    have hargs : xs.map a.eval = args.toArray := by
      have := he.evs hx
      apply Array.toList_inj.1
      simpa using this
    have hrun : (execOp a.eval o).run P w = .ok (.enter f args.toArray) w := by
      unfold execOp
      simp only [h1, resolve, Act.eval, Deferred.ofValue, invoke, callFunc, program, Sem.run_bind, Sem.run, Result.andThen_ok, hf, hnm, hb, hargs, Sem.run_pure]
      simp
      done
    unfold Oper.quietAt
    rw [hrun]
    refine ⟨rfl, this.mono fun e w' ⟨u, own', e1, ⟨e2, e3⟩, e4⟩ => ?_⟩
    subst e1; subst e2; subst e3
    exact ⟨rfl, (g4 _ w' e4).perm hp.symm⟩
def WQ (P : Program) (n : Nat) (B : World) (F : Hp) (ops : Array Oper) (Q : Post) (rest : List Oper) (env : Env) (hs : List Hp) : Prop :=
  ∀ a, E n env a → wpQuiet P ops (Own B F hs) (fun a' => ∀ w', Own B F hs w' → Q .normal a' w') rest a
theorem W.quiet {id : Nat} {l : List Oper} (hm : P.follows .mixedOrders = true) (hB : Region.lexB .any l.toArray = true) (h : WQ P n B F l.toArray Q l env hs) : W P n B F Q (.region id l.toArray true) env hs := fun a w he ho =>
  wp_region_quiet hm hB ho.drew (by simpa using h a he)
theorem WQ.nil (h : X n B F Q .normal env hs) : WQ P n B F ops Q [] env hs := fun a he => wpQuiet_nil fun w' ho => h a w' he ho
theorem WQ.rd {v : Value} (hd : Nat.blt d n = true) (h : Qn P F hs op ty env v) (k : WQ P n B F ops Q rest ((d, some v) :: env) hs) : WQ P n B F ops Q (⟨some d, op, ty, pos, aft, none⟩ :: rest) env hs := fun a he =>
  wpQuiet_step fun K hK => by
    rw [if_pos (by simp [Region.wanted])]
    exact ⟨v, fun w ho => h _ rfl rfl n B a he w ho, hK _ (k _ (he.put hd v))⟩
theorem WQ.yes {dst : Option Tmp} {j t : Nat} {b : Bool} (hj : ((ops[j]?).bind (·.dst)) = some t) (hv : lk env t = some (.bool b))
    (h : WQ P n B F ops Q (⟨dst, op, ty, pos, aft, none⟩ :: rest) env hs) : WQ P n B F ops Q (⟨dst, op, ty, pos, aft, some (j, b)⟩ :: rest) env hs := fun a he => by
  have h1 := h a he
  have hy := he.yield hj hv (fun _ _ => trivial)
  simp only at hy
  have hw : Region.wanted (⟨dst, op, ty, pos, aft, some (j, b)⟩ : Oper) (yielded ops a.tmps) = true := by simp [Region.wanted, hy]
  unfold wpQuiet at h1 ⊢
  rw [if_pos hw]
  rw [if_pos (by simp [Region.wanted])] at h1
  exact h1
theorem WQ.no {o : Oper} {j t : Nat} {b c : Bool} (ho : o.guard = some (j, b)) (hdst : o.dst = some d) (hd : Nat.blt d n = true) (hj : ((ops[j]?).bind (·.dst)) = some t) (hv : lk env t = some (.bool c)) (hc : (c == b) = false)
    (h : WQ P n B F ops Q rest ((d, some undef) :: env) hs) : WQ P n B F ops Q (o :: rest) env hs := fun a he => by
  have hy := he.yield hj hv (fun _ _ => trivial)
  simp only at hy
  have hn : Region.wanted o (yielded ops a.tmps) = false := by simp [Region.wanted, ho, hy]; simpa using hc
  unfold wpQuiet
  rw [hn]
  simp only [Bool.false_eq_true, if_false, hdst]
  exact h _ (he.put hd undef)
theorem WQ.noU {o : Oper} {j t : Nat} {b : Bool} (ho : o.guard = some (j, b)) (hdst : o.dst = some d) (hd : Nat.blt d n = true) (hj : ((ops[j]?).bind (·.dst)) = some t) (hv : lk env t = some undef)
    (h : WQ P n B F ops Q rest ((d, some undef) :: env) hs) : WQ P n B F ops Q (o :: rest) env hs := fun a he => by
  have hy := he.yield hj hv (fun _ _ => trivial)
  have hn : Region.wanted o (yielded ops a.tmps) = false := by simp [Region.wanted, ho, hy, undef]
  unfold wpQuiet
  rw [hn]
  simp only [Bool.false_eq_true, if_false, hdst]
  exact h _ (he.put hd undef)
theorem WQ.say {d : Nat} {v v' : Value} (hl : lk env d = some v) (hv : v = v') (h : WQ P n B F ops Q rest ((d, some v') :: env) hs) : WQ P n B F ops Q rest env hs :=
  fun a e => h a (e.mono fun t u hu => by
    rw [lk_put] at hu
    by_cases hk : d = t
    · rw [if_pos hk] at hu; injection hu with hu; subst hu; subst hk; subst hv; exact hl
    · rw [if_neg hk] at hu; exact hu)
theorem WQ.bare {d : Nat} {v : Value} (h : WQ P n B F ops Q rest ((d, none) :: env) hs) : WQ P n B F ops Q rest ((d, some v) :: env) hs := fun a he => h a he.hide
theorem WQ.guard {op : Op} {ty : TypeId} {pos : String} {aft : Array Edge} {j t : Nat} {b c : Bool} (hd : Nat.blt d n = true) (hj : ((ops[j]?).bind (·.dst)) = some t) (hv : lk env t = some (.bool c))
    (h1 : c = b → WQ P n B F ops Q (⟨some d, op, ty, pos, aft, none⟩ :: rest) ((t, some (.bool b)) :: env) hs) (h2 : c = (!b) → WQ P n B F ops Q rest ((d, some undef) :: (t, some (.bool (!b))) :: env) hs) : WQ P n B F ops Q (⟨some d, op, ty, pos, aft, some (j, b)⟩ :: rest) env hs := by
  by_cases hc : c = b
  · subst hc
    exact WQ.say hv rfl (WQ.yes (b := c) hj (by simp [lk]) (h1 rfl))
  · have hc' : c = (!b) := by cases b <;> cases c <;> simp_all
    subst hc'
    exact WQ.say hv rfl (WQ.no (b := b) (c := !b) rfl rfl hd hj (by simp [lk]) (by cases b <;> rfl) (h2 rfl))
/-- both ways of a bool in a slot -/
theorem WQ.ways {t : Nat} {b : Bool} (hv : lk env t = some (.bool b)) (h1 : b = true → WQ P n B F ops Q rest ((t, some (.bool true)) :: env) hs) (h2 : b = false → WQ P n B F ops Q rest ((t, some (.bool false)) :: env) hs) : WQ P n B F ops Q rest env hs := by
  cases b with
  | true => exact WQ.say hv rfl (h1 rfl)
  | false => exact WQ.say hv rfl (h2 rfl)
/-- operations under a guard, carried on with their values (env1) and without (env0) till the choice -/
def WH (P : Program) (n : Nat) (B : World) (F : Hp) (ops : Array Oper) (Q : Post) (rest : List Oper) (t : Nat) (b w : Bool) (env1 env0 : Env) (hs : List Hp) : Prop :=
  (∀ k v, lk env0 k = some v → lk env1 k = some v) → (b = w → WQ P n B F ops Q rest env1 hs) ∧ (b = (!w) → WQ P n B F ops Q rest env0 hs)
theorem WH.start {op : Op} {ty : TypeId} {pos : String} {aft : Array Edge} {dst : Option Tmp} {j t : Nat} {b w : Bool} (hj : ((ops[j]?).bind (·.dst)) = some t) (hv : lk env t = some (.bool b))
    (h : WH P n B F ops Q (⟨dst, op, ty, pos, aft, some (j, w)⟩ :: rest) t b w env env hs) : WQ P n B F ops Q (⟨dst, op, ty, pos, aft, some (j, w)⟩ :: rest) env hs := by
  obtain ⟨h1, h2⟩ := h fun _ _ e => e
  by_cases hb : b = w
  · exact h1 hb
  · exact h2 (by cases b <;> cases w <;> simp_all)
theorem WH.ex {op : Op} {ty : TypeId} {pos : String} {aft : Array Edge} {j t : Nat} {b w : Bool} {env1 env0 : Env} {v : Value} (hd : Nat.blt d n = true) (hj : ((ops[j]?).bind (·.dst)) = some t) (hv : lk env0 t = some (.bool b))
    (hr : b = w → Qn P F hs op ty env1 v) (h : WH P n B F ops Q rest t b w ((d, some v) :: env1) ((d, none) :: env0) hs) : WH P n B F ops Q (⟨some d, op, ty, pos, aft, some (j, w)⟩ :: rest) t b w env1 env0 hs := fun hle => by
  obtain ⟨h1, h2⟩ := h fun k u e => by
    rw [lk_put] at e ⊢
    by_cases hk : d = k
    · rw [if_pos hk] at e; cases e
    · rw [if_neg hk] at e ⊢; exact hle k u e
  refine ⟨fun hb => ?_, fun hb => ?_⟩
  · subst hb
    exact WQ.yes (b := b) hj (hle _ _ hv) (WQ.rd hd (hr rfl) (h1 rfl))
  · exact WQ.no (b := w) (c := b) rfl rfl hd hj hv (by subst hb; cases w <;> rfl) (h2 hb).bare
theorem Rn.orB {ty : TypeId} {t : Nat} {b c : Bool} {y : Operand} {env : Env} (hv : lk env t = some (.bool b)) (hy : ev env y = some (.bool c)) : Rn P F hs (.pick (.tmp t) (.const (.bool true)) y) ty env (.bool (b || c)) := fun o h1 h2 n B a w he ho => by
  unfold execOp; simp only [h1, he.ev (x := .tmp t) hv, he.ev hy]; cases b <;> rfl
theorem Rn.andB {ty : TypeId} {t : Nat} {b c : Bool} {y : Operand} {env : Env} (hv : lk env t = some (.bool b)) (hy : ev env y = some (.bool c)) : Rn P F hs (.pick (.tmp t) y (.const (.bool false))) ty env (.bool (b && c)) := fun o h1 h2 n B a w he ho => by
  unfold execOp; simp only [h1, he.ev (x := .tmp t) hv, he.ev hy]; cases b <;> rfl
theorem WH.or {ty : TypeId} {pos : String} {aft : Array Edge} {t : Nat} {b c : Bool} {y : Operand} {env1 env0 : Env} (hd : Nat.blt d n = true) (hv : lk env0 t = some (.bool b)) (hy : ev env1 y = some (.bool c))
    (k : WQ P n B F ops Q rest ((d, some (.bool (b || c))) :: env0) hs) : WH P n B F ops Q (⟨some d, .pick (.tmp t) (.const (.bool true)) y, ty, pos, aft, none⟩ :: rest) t b false env1 env0 hs := fun hle => by
  refine ⟨fun hb => ?_, fun hb => ?_⟩
  · refine WQ.rd (v := .bool (b || c)) hd (Rn.orB (hle _ _ hv) hy).q fun a he => k a (he.mono fun q u e => ?_)
    rw [lk_put] at e ⊢
    by_cases hk : d = q
    · rw [if_pos hk] at e ⊢; exact e
    · rw [if_neg hk] at e ⊢; exact hle q u e
  · subst hb
    exact WQ.rd (v := .bool (true || c)) hd (Rn.q fun o h1 h2 n B a w he ho => by unfold execOp; simp only [h1, he.ev (x := .tmp t) hv]; rfl) k
theorem WH.and {ty : TypeId} {pos : String} {aft : Array Edge} {t : Nat} {b c : Bool} {y : Operand} {env1 env0 : Env} (hd : Nat.blt d n = true) (hv : lk env0 t = some (.bool b)) (hy : ev env1 y = some (.bool c))
    (k : WQ P n B F ops Q rest ((d, some (.bool (b && c))) :: env0) hs) : WH P n B F ops Q (⟨some d, .pick (.tmp t) y (.const (.bool false)), ty, pos, aft, none⟩ :: rest) t b true env1 env0 hs := fun hle => by
  refine ⟨fun hb => ?_, fun hb => ?_⟩
  · refine WQ.rd (v := .bool (b && c)) hd (Rn.andB (hle _ _ hv) hy).q fun a he => k a (he.mono fun q u e => ?_)
    rw [lk_put] at e ⊢
    by_cases hk : d = q
    · rw [if_pos hk] at e ⊢; exact e
    · rw [if_neg hk] at e ⊢; exact hle q u e
  · subst hb
    exact WQ.rd (v := .bool (false && c)) hd (Rn.q fun o h1 h2 n B a w he ho => by unfold execOp; simp only [h1, he.ev (x := .tmp t) hv]; rfl) k
end
end Go.Proofs.Ytfaeemahdkobfaa
