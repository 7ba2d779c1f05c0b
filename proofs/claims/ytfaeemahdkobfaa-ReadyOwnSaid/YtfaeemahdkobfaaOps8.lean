/- Engine, part eight: function values, append in place, clear, slices with two and three bounds. -/
import Derived.Test.YtfaeemahdkobfaaOps7
namespace Go.Proofs.Ytfaeemahdkobfaa
set_option linter.unusedVariables false
set_option linter.unusedSimpArgs false
theorem zrow_one {zl : List Value} (h : zl.all (·.oneCell') = true) : ∀ (q : Nat), ∀ v ∈ zrow zl q, v.oneCell' = true
  | 0 => fun v hv => nomatch hv
  | q + 1 => fun v hv => by
    rcases List.mem_append.1 hv with hv | hv
    · exact List.all_eq_true.1 h v hv
    · exact zrow_one h q v hv
section
variable {P : Program} {n : Nat} {B : World} {F : Hp} {hs : List Hp} {env : Env} {ty : TypeId} {K : Value → List Hp → Prop}
theorem Rn.makeFunc {fn : Fn} {first captured : Array Operand} {vs cs : List Value} (h1 : evs env first.toList = some vs) (h2 : evs env captured.toList = some cs) : Rn P F hs (.makeFunc fn first captured) ty env (.func fn vs.toArray cs.toArray) := fun o h h' n B a w he ho => by
  have e1 : first.map a.eval = vs.toArray := by
    apply Array.toList_inj.1; simpa using he.evs h1
  have e2 : captured.map a.eval = cs.toArray := by
    apply Array.toList_inj.1; simpa using he.evs h2
  unfold execOp
  simp only [h, e1, e2, Instr.makeFunc, Sem.run_bind, Sem.run_pure, Result.andThen_ok]
/-- a call of a function's value -/
theorem WO.callV {f : FuncId} {fn : Func} {c : Code} {x : Operand} {xs : Array Operand} {ts : Array TypeId} {first captured args : List Value} {own rest' : List Hp} {K' : Value → List Hp → Prop} (hv : ev env x = some (.func (.func f) first.toArray captured.toArray))
    (hf : P.funcs[f]? = some fn) (hb : fn.body = some c) (hnm : (fn.name == "runtime.NumGoroutine") = false) (hx : evs env xs.toList = some args) (ht : Takes hs own rest')
    (hc : ∀ G, F.le G → (∀ h ∈ rest', h.le G) → Spec P f (first ++ args ++ captured) G own K') (hk : ∀ v own', K' v own' → K v (own' ++ rest')) : WO P n B F (.call ⟨.value x, xs, ts⟩) ty env hs K :=
  fun o h1 h2 a w he ho next Q hn => by
    obtain ⟨G, g1, g2, g3, g4⟩ := Own.split (ho.perm ht.perm)
    have := hc G g1 g2 B w g3
    have hargs : xs.map a.eval = args.toArray := by
      have := he.evs hx
      apply Array.toList_inj.1
      simpa using this
    have hrun : (execOp a.eval o).run P w = .ok (.enter f (first ++ args ++ captured).toArray) w := by
      unfold execOp
      simp only [h1, resolve, he.ev hv, Deferred.ofValue, invoke, callFunc, program, Sem.run_bind, Sem.run, Result.andThen_ok, hf, hnm, hb, hargs, Sem.run_pure]
      simp
    unfold Oper.wp
    rw [hrun]
    refine this.mono fun e w' ⟨v, own', e1, e2, e3⟩ => ?_
    subst e1
    have := g4 own' w' e3
    exact hn v _ w' (hk v own' e2) (this.perm List.perm_append_comm)
/-- append where there is room -/
theorem WO.appendIn {t e sz by' : Nat} {s x : Operand} {b o nn c m c2 : Nat} {A2 : Option Addr} {l cs : List Value} {u : TypeId} {hs' : List Hp} [hu : UT P t (.slice e)] [hz : SZ P e sz by'] (hs1 : ev env s = some (.slice (some ⟨b, o, none⟩) nn c)) (hx : ev env x = some (.slice A2 m c2)) (hroom : nn + m ≤ c)
    (hl : cs.length = m * sz) (hr : RowAt F hs A2 cs) (h1c : cs.all (·.oneCell') = true) (hrp : Repl hs (one b (cells l u)) (one b (cells (splice l (o + nn * sz) cs) u)) hs') (hin : o + nn * sz + cs.length ≤ l.length) (k : K (.slice (some ⟨b, o, none⟩) (nn + m) c) hs') : WO P n B F (.call ⟨.builtin .append, #[s, x], #[t, t]⟩) ty env hs K :=
  fun op h1 h2 a w he ho next Q hn => by
    obtain ⟨r, p1, p2⟩ := hrp.perm
    have H := ho.perm p1
    have hrow := hr.get ho
    have hg : w.heap[b]? = some (.cells l.toArray u (0, 0)) := H.all _ (.head _) _ _ (one_get _ _)
    have hst := run_storeCells_at P b (o + nn * sz) u cs 0 l.toArray w hg (by simpa using hin) (fun v hv => List.all_eq_true.1 h1c v hv)
    have hfc : (Builtin.firstCells sz m (.slice A2 m c2)).run P w = .ok cs.toArray w := by
      cases A2 with
      | none =>
        have : cs = [] := by
          cases cs with
          | nil => rfl
          | cons v vs => obtain ⟨_, _, h, _⟩ := hrow 0 v rfl; cases h
        subst this; rfl
      | some ad =>
        unfold Builtin.firstCells
        simp only
        rw [← hl]
        refine run_loadCells_list w ad cs fun j v hj => ?_
        obtain ⟨b', o', e1, e2⟩ := hrow j v hj
        cases e1
        unfold Addr.add
        split
        · next h => subst h; exact e2
        · exact e2
    have H' : Own B F (one b (cells (splice l (o + nn * sz) cs) u) :: r) (w.setRow b (List.take (o + nn * sz + 0) l ++ cs ++ List.drop (o + nn * sz + 0 + cs.length) l).toArray) := H.upd (by
      have := setRow_heap w b l.toArray (splice l (o + nn * sz) cs).toArray u (0, 0) hg
      simpa [splice] using this) (by
      intro q hq
      simp only [World.setRow, Array.getElem?_modify]
      rw [if_neg (Ne.symm hq)]) rfl rfl rfl
    have hadd : (⟨b, o, none⟩ : Addr).add (nn * sz) = ⟨b, o + nn * sz, none⟩ := by
      unfold Addr.add; split
      · next h => rw [h]; rfl
      · rfl
    unfold Oper.wp execOp
    simp only [h1, resolve, invoke, builtin, Sem.run_bind, Sem.run_pure, Result.andThen_ok, List.map_toArray, List.map_cons, List.map_nil, he.ev hs1, he.ev hx, Builtin.append_, run_underlying hu.eq, run_size hz.eq]
    simp [Builtin.lenOf, run_underlying hu.eq, run_size hz.eq, hfc, hroom, hadd, hst]
    have := hn _ hs' _ k (H'.perm p2.symm)
    rw [Oper.upon_value]
    simpa using this
/-- clear of a slice -/
theorem WO.clearS {t e sz by' : Nat} {z : Value} {zl : List Value} {s : Operand} {b o m c : Nat} {l : List Value} {u : TypeId} {hs' : List Hp} [hu : UT P t (.slice e)] [hz : SZ P e sz by'] [hzr : ZR P e z zl] (hs1 : ev env s = some (.slice (some ⟨b, o, none⟩) m c)) (h1c : zl.all (·.oneCell') = true)
    (hrp : Repl hs (one b (cells l u)) (one b (cells (splice l o (zrow zl m)) u)) hs') (hin : o + m * zl.length ≤ l.length) (k : K (.tuple #[]) hs') : WO P n B F (.call ⟨.builtin .clear, #[s], #[t]⟩) ty env hs K :=
  fun op h1 h2 a w he ho next Q hn => by
    obtain ⟨r, p1, p2⟩ := hrp.perm
    have H := ho.perm p1
    have hg : w.heap[b]? = some (.cells l.toArray u (0, 0)) := H.all _ (.head _) _ _ (one_get _ _)
    have h1z : ∀ v ∈ zrow zl m, v.oneCell' = true := zrow_one h1c m
    have hst := run_storeCells_at P b o u (zrow zl m) 0 l.toArray w hg (by rw [zrow_len]; simpa using hin) h1z
    have H' : Own B F (one b (cells (splice l o (zrow zl m)) u) :: r) (w.setRow b (List.take (o + 0) l ++ zrow zl m ++ List.drop (o + 0 + (zrow zl m).length) l).toArray) := H.upd (by
      have := setRow_heap w b l.toArray (splice l o (zrow zl m)).toArray u (0, 0) hg
      simpa [splice] using this) (by
      intro q hq
      simp only [World.setRow, Array.getElem?_modify]
      rw [if_neg (Ne.symm hq)]) rfl rfl rfl
    unfold Oper.wp execOp
    simp only [h1, resolve, invoke, builtin, Sem.run_bind, Sem.run_pure, Result.andThen_ok, List.map_toArray, List.map_cons, List.map_nil, he.ev hs1, Builtin.clear_]
    cases m with
    | zero =>
      have e : splice l o (zrow zl 0) = l := by simp [splice, zrow]
      rw [e] at p2
      simp [run_underlying hu.eq]
      have := hn _ hs' w k (H.perm p2.symm)
      rw [Oper.upon_value]
      simpa using this
    | succ m =>
      have hzc : (Builtin.zeroCells zl.toArray (m + 1)).toList = zrow zl (m + 1) := by
        have := zrow_arr zl (m + 1)
        unfold Builtin.zeroCells
        simp only [List.size_toArray] at this ⊢
        rw [this]
      simp [run_underlying hu.eq, run_zero hzr.eq, hzr.cells, hzc, hst]
      have := hn _ hs' _ k (H'.perm p2.symm)
      rw [Oper.upon_value]
      simpa using this
theorem Rn.sliceLH {t e sz by' m c b o : Nat} {x y y' : Operand} {k k' : IntKind} {i i' : Int} (j j' : Nat) [hu : UT P t (.slice e)] [hz : SZ P e sz by'] (hx : ev env x = some (.slice (some ⟨b, o, none⟩) m c)) (hy : ev env y = some (.int k i)) (hy' : ev env y' = some (.int k' i')) (hi : i = (j : Int)) (hi' : i' = (j' : Int)) (hj : j ≤ j') (hj' : j' ≤ c) :
    Rn P F hs (.slice t x (some y) (some y') none) ty env (.slice (some ⟨b, if c = j then o else o + j * sz, none⟩) (j' - j) (c - j)) := fun op h1 h2 n B a w he ho => by
  subst hi; subst hi'
  unfold execOp
  simp only [h1, he.ev hx, he.ev hy, he.ev hy', Option.map_some, Option.map_none, Instr.sliceAt, Instr.slice, Instr.sliceBounds, Sem.run_bind, run_underlying hu.eq, run_size hz.eq, Sem.run_pure, Result.andThen_ok, run_bound k j j' hj, run_bound k' j' c hj']
  by_cases h0 : c = j
  · simp only [if_pos h0]
  · simp only [if_neg h0, Option.map_some, Addr.add]
    by_cases h3 : j * sz = 0
    · simp [h3]
    · simp [h3]
theorem Rn.sliceLHM {t e sz by' m c : Nat} {b o : Nat} {x y y' y2 : Operand} {k k' k2 : IntKind} {i i' i2 : Int} (j j' j2 : Nat) [hu : UT P t (.slice e)] [hz : SZ P e sz by'] (hx : ev env x = some (.slice (some ⟨b, o, none⟩) m c)) (hy : ev env y = some (.int k i)) (hy' : ev env y' = some (.int k' i')) (hy2 : ev env y2 = some (.int k2 i2)) (hi : i = (j : Int)) (hi' : i' = (j' : Int)) (hi2 : i2 = (j2 : Int)) (hj : j ≤ j') (hj' : j' ≤ j2) (hj2 : j2 ≤ c) :
    Rn P F hs (.slice t x (some y) (some y') (some y2)) ty env (.slice (some ⟨b, if j2 = j then o else o + j * sz, none⟩) (j' - j) (j2 - j)) := fun op h1 h2 n B a w he ho => by
  subst hi; subst hi'; subst hi2
  unfold execOp
  simp only [h1, he.ev hx, he.ev hy, he.ev hy', he.ev hy2, Option.map_some, Option.map_none, Instr.sliceAt, Instr.slice, Instr.sliceBounds, Sem.run_bind, run_underlying hu.eq, run_size hz.eq, Sem.run_pure, Result.andThen_ok, run_bound k j j' hj, run_bound k' j' j2 hj', run_bound k2 j2 c hj2]
  by_cases h0 : j2 = j
  · simp only [if_pos h0]
  · simp only [if_neg h0, Option.map_some, Addr.add]
    by_cases h3 : j * sz = 0
    · simp [h3]
    · simp [h3]
end
section
variable {P : Program} {n : Nat} {B : World} {F : Hp} {env : Env} {hs : List Hp} {ty : TypeId} {K : Value → List Hp → Prop}
/-- a call that owns all -/
theorem WO.callA {f : FuncId} {fn : Func} {c : Code} {xs : Array Operand} {ts : Array TypeId} {args : List Value} {K' : Value → List Hp → Prop} (hf : P.funcs[f]? = some fn) (hb : fn.body = some c) (hnm : (fn.name == "runtime.NumGoroutine") = false)
    (hx : evs env xs.toList = some args) (hc : ∀ G, F.le G → Spec P f args G hs K') (hk : ∀ v own', K' v own' → K v own') : WO P n B F (.call ⟨.value (.func f), xs, ts⟩) ty env hs K :=
  WO.callN hf hb hnm hx (Takes.self hs) (fun G g _ => hc G g) fun v own' h => by rw [List.append_nil]; exact hk v own' h
end
end Go.Proofs.Ytfaeemahdkobfaa
