/- More operations: results, calls, struct literals, slices of a call's own. -/
import Derived.Test.YtfaeemahdkobfaaOps
import Derived.Test.YtfaeemahdkobfaaBase
import Derived.Maps.AppendAt
import Derived.Laws.ResultCell
namespace Go.Proofs.Ytfaeemahdkobfaa
set_option linter.unusedVariables false
set_option linter.unusedSimpArgs false
section
variable {P : Program} {n : Nat} {B : World} {F : Hp} {hs : List Hp} {env : Env} {ty : TypeId} {fn : Func} {K : Value → List Hp → Prop}
/-! ### results -/
theorem X.ret0 (hr : fn.results = #[]) (k : ∃ ks, Keep hs ks ∧ K (.tuple #[]) ks) : X n B F (bodyPost P fn (RR B F K)) .ret env hs := fun a w he ho =>
  bodyPost_ret (results_none hr a.tmps P w) he.defers (by obtain ⟨ks, hk, k⟩ := k; exact ⟨_, ks, rfl, k, hk.own ho⟩)
theorem X.end0 (hr : fn.results = #[]) (k : ∃ ks, Keep hs ks ∧ K (.tuple #[]) ks) : X n B F (bodyPost P fn (RR B F K)) .normal env hs := fun a w he ho =>
  bodyPost_end (results_none hr a.tmps P w) he.defers (by obtain ⟨ks, hk, k⟩ := k; exact ⟨_, ks, rfl, k, hk.own ho⟩)
theorem X.ret1 {t : Tmp} {v : Value} (hr : fn.results = #[.tmp t]) (hv : lk env t = some v) (k : ∃ ks, Keep hs ks ∧ K v ks) : X n B F (bodyPost P fn (RR B F K)) .ret env hs := fun a w he ho => by
  refine bodyPost_ret (results_tmp hr a.tmps P w) he.defers ?_
  obtain ⟨ks, hk, k⟩ := k
  refine ⟨_, ks, rfl, ?_, hk.own ho⟩
  rw [he.val _ _ hv]; exact k
theorem X.ret2 {t u : Tmp} {v v' : Value} (hr : fn.results = #[.tmp t, .tmp u]) (hv : lk env t = some v) (hv' : lk env u = some v') (k : ∃ ks, Keep hs ks ∧ K (.tuple #[v, v']) ks) : X n B F (bodyPost P fn (RR B F K)) .ret env hs := fun a w he ho => by
  refine bodyPost_ret (results_tmp2 hr a.tmps P w) he.defers ?_
  obtain ⟨ks, hk, k⟩ := k
  refine ⟨_, ks, rfl, ?_, hk.own ho⟩
  rw [he.val _ _ hv, he.val _ _ hv']; exact k
theorem X.ret3 {t u s : Tmp} {v v' v'' : Value} (hr : fn.results = #[.tmp t, .tmp u, .tmp s]) (hv : lk env t = some v) (hv' : lk env u = some v') (hv'' : lk env s = some v'') (k : ∃ ks, Keep hs ks ∧ K (.tuple #[v, v', v'']) ks) : X n B F (bodyPost P fn (RR B F K)) .ret env hs := fun a w he ho => by
  refine bodyPost_ret (v := .tuple #[v, v', v'']) ?_ he.defers (by obtain ⟨ks, hk, k⟩ := k; exact ⟨_, ks, rfl, k, hk.own ho⟩)
  have e1 := he.val _ _ hv; have e2 := he.val _ _ hv'; have e3 := he.val _ _ hv''
  simp only [Array.getD_eq_getD_getElem?] at e1 e2 e3
  simp [results, hr, e1, e2, e3]
theorem X.ret4 {t u s r : Tmp} {v v' v'' v3 : Value} (hr : fn.results = #[.tmp t, .tmp u, .tmp s, .tmp r]) (hv : lk env t = some v) (hv' : lk env u = some v') (hv'' : lk env s = some v'') (hv3 : lk env r = some v3) (k : ∃ ks, Keep hs ks ∧ K (.tuple #[v, v', v'', v3]) ks) : X n B F (bodyPost P fn (RR B F K)) .ret env hs := fun a w he ho => by
  refine bodyPost_ret (v := .tuple #[v, v', v'', v3]) ?_ he.defers (by obtain ⟨ks, hk, k⟩ := k; exact ⟨_, ks, rfl, k, hk.own ho⟩)
  have e1 := he.val _ _ hv; have e2 := he.val _ _ hv'; have e3 := he.val _ _ hv''; have e4 := he.val _ _ hv3
  simp only [Array.getD_eq_getD_getElem?] at e1 e2 e3 e4
  simp [results, hr, e1, e2, e3, e4]
theorem run_loadVarS {t b sz by' : Nat} {vs : List Value} [hn : AG P t] [hz : SZ P t sz by'] {w : World} (hl : vs.length = sz) (hc : CellsAt F hs b 0 vs) (ho : Own B F hs w) : (loadVar t ⟨b, 0, none⟩).run P w = .ok (.agg vs.toArray) w := by
  have hcells : (loadCells ⟨b, 0, none⟩ vs.length).run P w = .ok vs.toArray w := run_loadCells_list (P := P) w ⟨b, 0, none⟩ vs fun j v e => by
    have := (hc j v e).get ho
    unfold Addr.add
    by_cases h0 : j = 0
    · subst h0; simpa using this
    · simpa [h0] using this
  simp only [loadVar, Sem.run_bind, run_agg hn.eq, Result.andThen_ok, if_true, run_size hz.eq, ← hl, hcells, Sem.run_pure]
theorem X.retS {p : Tmp} {t b sz by' : Nat} {l : List Value} {u : TypeId} (hr : fn.results = #[.cell p t]) (hn : AG P t) (hz : SZ P t sz by') (hv : lk env p = some (.pointer (some ⟨b, 0, none⟩))) (hc : At F hs b (cells l u)) (hl : l.length = sz) (k : ∃ ks, Keep hs ks ∧ K (.agg l.toArray) ks) : X n B F (bodyPost P fn (RR B F K)) .ret env hs := fun a w he ho => by
  refine bodyPost_ret (v := .agg l.toArray) ?_ he.defers (by obtain ⟨ks, hk, k⟩ := k; exact ⟨_, ks, rfl, k, hk.own ho⟩)
  have e1 := he.val _ _ hv
  simp only [Array.getD_eq_getD_getElem?] at e1
  have := run_loadVarS (P := P) (t := t) hl (CellsAt.all hc) ho
  simp [results, hr, e1, asAddr, this]
theorem X.retSt {p q : Tmp} {t b sz by' : Nat} {l : List Value} {v : Value} {u : TypeId} (hr : fn.results = #[.cell p t, .tmp q]) (hn : AG P t) (hz : SZ P t sz by') (hv : lk env p = some (.pointer (some ⟨b, 0, none⟩))) (hq : lk env q = some v) (hc : At F hs b (cells l u)) (hl : l.length = sz) (k : ∃ ks, Keep hs ks ∧ K (.tuple #[.agg l.toArray, v]) ks) : X n B F (bodyPost P fn (RR B F K)) .ret env hs := fun a w he ho => by
  refine bodyPost_ret (v := .tuple #[.agg l.toArray, v]) ?_ he.defers (by obtain ⟨ks, hk, k⟩ := k; exact ⟨_, ks, rfl, k, hk.own ho⟩)
  have e1 := he.val _ _ hv; have e2 := he.val _ _ hq
  have := run_loadVarS (P := P) (t := t) hl (CellsAt.all hc) ho
  rw [results_cell_tmp hr, e1, e2]
  simp [asAddr, this, Result.andThen]
/-! ### calls -/
theorem Take.perm' {α : Type} {hs r : List α} {h : α} (t : Take hs h r) : hs.Perm (r ++ [h]) := t.perm.trans (List.perm_append_comm (l₁ := [h]) (l₂ := r))
/-- a call that owns nothing -/
theorem WO.call0 {f : FuncId} {fn : Func} {c : Code} {xs : Array Operand} {ts : Array TypeId} {args : List Value} {K' : Value → List Hp → Prop} (hf : P.funcs[f]? = some fn) (hb : fn.body = some c) (hnm : (fn.name == "runtime.NumGoroutine") = false)
    (hx : evs env xs.toList = some args) (hc : ∀ G, F.le G → (∀ h ∈ hs, h.le G) → Spec P f args G [] K') (hk : ∀ v own', K' v own' → K v (own' ++ hs)) : WO P n B F (.call ⟨.value (.func f), xs, ts⟩) ty env hs K := by
  intro o h1 h2 a w he ho next Q hn
  exact WO.call (K := fun v hs' => ∃ own', K' v own' ∧ hs' = hs ++ own') hf hb hnm hx (own := []) (rest' := hs) (by simp) hc (fun v own' h => ⟨own', h, rfl⟩) o h1 h2 a w he ho next Q fun v hs' w' ⟨own', k1, e⟩ o' => by
    subst e
    exact hn v _ w' (hk v own' k1) (o'.perm List.perm_append_comm)
/-- a call that owns one part -/
theorem WO.call1 {f : FuncId} {fn : Func} {c : Code} {xs : Array Operand} {ts : Array TypeId} {args : List Value} {K' : Value → List Hp → Prop} {h : Hp} {r : List Hp} (hf : P.funcs[f]? = some fn) (hb : fn.body = some c) (hnm : (fn.name == "runtime.NumGoroutine") = false)
    (hx : evs env xs.toList = some args) (ht : Take hs h r) (hc : ∀ G, F.le G → (∀ h ∈ r, h.le G) → Spec P f args G [h] K') (hk : ∀ v own', K' v own' → K v (own' ++ r)) : WO P n B F (.call ⟨.value (.func f), xs, ts⟩) ty env hs K := by
  intro o h1 h2 a w he ho next Q hn
  exact WO.call (K := fun v hs' => ∃ own', K' v own' ∧ hs' = r ++ own') hf hb hnm hx (own := [h]) (rest' := r) ht.perm' hc (fun v own' h => ⟨own', h, rfl⟩) o h1 h2 a w he ho next Q fun v hs' w' ⟨own', k1, e⟩ o' => by
    subst e
    exact hn v _ w' (hk v own' k1) (o'.perm List.perm_append_comm)
theorem WO.call2 {f : FuncId} {fn : Func} {c : Code} {xs : Array Operand} {ts : Array TypeId} {args : List Value} {K' : Value → List Hp → Prop} {h k : Hp} {r s : List Hp} (hf : P.funcs[f]? = some fn) (hb : fn.body = some c) (hnm : (fn.name == "runtime.NumGoroutine") = false)
    (hx : evs env xs.toList = some args) (ht : Take hs h r) (ht' : Take r k s) (hc : ∀ G, F.le G → (∀ h ∈ s, h.le G) → Spec P f args G [h, k] K') (hk : ∀ v own', K' v own' → K v (own' ++ s)) : WO P n B F (.call ⟨.value (.func f), xs, ts⟩) ty env hs K := by
  intro o h1 h2 a w he ho next Q hn
  have hp : hs.Perm (s ++ [h, k]) := (ht.perm.trans (ht'.perm.cons h)).trans (List.perm_append_comm (l₁ := [h, k]) (l₂ := s))
  exact WO.call (K := fun v hs' => ∃ own', K' v own' ∧ hs' = s ++ own') hf hb hnm hx (own := [h, k]) (rest' := s) hp hc (fun v own' h => ⟨own', h, rfl⟩) o h1 h2 a w he ho next Q fun v hs' w' ⟨own', k1, e⟩ o' => by
    subst e
    exact hn v _ w' (hk v own' k1) (o'.perm List.perm_append_comm)
theorem At.up {G : Hp} {b : Nat} {o : Obj} (h : At F hs b o) (hF : F.le G) (hr : ∀ k ∈ hs, k.le G) : G.get b = some o := by
  induction h with
  | ro h => exact hF _ _ h
  | here h => exact hr _ (.head _) _ _ h
  | one => exact hr _ (.head _) _ _ (one_get _ _)
  | there _ ih => exact ih fun k hk => hr k (.tail _ hk)
/-! ### struct literals -/
/-- a list with some places in a row set -/
inductive SpAt : List Value → Nat → List Value → List Value → Prop where
  | nil {l : List Value} : SpAt l 0 [] l
  | put {x v : Value} {l l' vs : List Value} : SpAt l 0 vs l' → SpAt (x :: l) 0 (v :: vs) (v :: l')
  | skip {x : Value} {l l' vs : List Value} {i : Nat} : SpAt l i vs l' → SpAt (x :: l) (i + 1) vs (x :: l')
theorem SpAt.eq {l l' vs : List Value} {i : Nat} (h : SpAt l i vs l') : splice l i vs = l' ∧ i + vs.length ≤ l.length := by
  induction h with
  | nil => simp [splice]
  | put _ ih =>
    obtain ⟨h1, h2⟩ := ih
    refine ⟨?_, by simp only [List.length_cons]; omega⟩
    simp only [splice, List.take_zero, List.nil_append, Nat.zero_add, List.length_cons, List.drop_succ_cons, List.cons_append] at h1 ⊢
    rw [h1]
  | skip _ ih =>
    obtain ⟨h1, h2⟩ := ih
    refine ⟨?_, by simp only [List.length_cons]; omega⟩
    simp only [splice, List.length_cons, List.take_succ_cons, List.cons_append, Nat.succ_add, List.drop_succ_cons] at h1 ⊢
    rw [h1]
theorem fold_splice (off : Nat) : ∀ (vs : List Value) (k : Nat) (l : List Value), off + k + vs.length ≤ l.length → (vs.zipIdx k).foldl (fun cs x => cs.set (off + x.2) x.1) l = splice l (off + k) vs
  | [], k, l, _ => by simp [splice]
  | v :: vs, k, l, h => by
    simp only [List.length_cons] at h
    rw [List.zipIdx_cons, List.foldl_cons, fold_splice off vs (k + 1) _ (by simp; omega)]
    have := list_seg_step l (off + k) v vs (by omega)
    unfold splice
    simpa [Nat.add_assoc, Nat.add_comm, Nat.add_left_comm] using this
theorem fold_arr (off : Nat) (vs l : List Value) (h : off + vs.length ≤ l.length) : vs.toArray.zipIdx.foldl (fun cs x => cs.setIfInBounds (off + x.2) x.1) l.toArray = (splice l off vs).toArray := by
  have e := fold_splice off vs 0 l (by omega)
  rw [Nat.add_zero] at e
  rw [← e, ← Array.foldl_toList]
  have hz : vs.toArray.zipIdx.toList = vs.zipIdx := by simp
  rw [hz]
  generalize vs.zipIdx = zs
  clear e h hz
  induction zs generalizing l with
  | nil => rfl
  | cons z zs ih =>
    simp only [List.foldl_cons]
    rw [show l.toArray.setIfInBounds (off + z.2) z.1 = (l.set (off + z.2) z.1).toArray by simp]
    exact ih _
def placesOf (P : Program) (t : TypeId) : Option (List (Nat × Nat)) := match P.underlying t with
  | some (.struct fs) => fs.toList.mapM fun f => (P.info? f.type).map fun i => (f.offset, i.size)
  | _ => none
class PL (P : Program) (t : TypeId) (pl : outParam (List (Nat × Nat))) : Prop where
  eq : placesOf P t = some pl
/-- what the parts of a literal lay into its cells -/
inductive Fill (pl : List (Nat × Nat)) (env : Env) : List (Nat × Operand) → List Value → List Value → Prop where
  | nil {l : List Value} : Fill pl env [] l l
  | cell {f : Nat} {x : Operand} {r : List (Nat × Operand)} {off : Nat} {v : Value} {l l' l'' : List Value} : pl[f]? = some (off, 1) → ev env x = some v → v.oneCell' = true → SetAt l off v l' → Fill pl env r l' l'' → Fill pl env ((f, x) :: r) l l''
  | part {f : Nat} {x : Operand} {r : List (Nat × Operand)} {off sz : Nat} {vs l l' l'' : List Value} : pl[f]? = some (off, sz) → ev env x = some (.agg vs.toArray) → vs.length = sz → SpAt l off vs l' → Fill pl env r l' l'' → Fill pl env ((f, x) :: r) l l''
theorem Fill.run {pl : List (Nat × Nat)} {place : Nat → Option (Nat × Nat)} (hpl : ∀ f q, pl[f]? = some q → place f = some q) {a : Act} (he : E n env a) {ps : List (Nat × Operand)} {l l' : List Value} (h : Fill pl env ps l l') : Instr.fill place l.toArray (ps.map fun p => (p.1, a.eval p.2)) = some l'.toArray := by
  have key : ∀ {f : Nat} {x : Operand} {r : List (Nat × Operand)} {off sz : Nat} {v : Value} {vs l l' : List Value} {q : Option (Array Value)}, pl[f]? = some (off, sz) → a.eval x = v → v.cells = vs.toArray → vs.length = sz → splice l off vs = l' → off + vs.length ≤ l.length →
      Instr.fill place l'.toArray (r.map fun p => (p.1, a.eval p.2)) = q → Instr.fill place l.toArray (((f, x) :: r).map fun p => (p.1, a.eval p.2)) = q := by
    intro f x r off sz v vs l l' q hp hx hc hl hs hle ih
    have hp' := hpl _ _ hp
    simp only [List.map_cons, Instr.fill, hp', hx, hc]
    rw [if_neg (by simp; omega)]
    have e2 := fold_arr off vs l hle
    rw [hs] at e2
    exact (congrArg (fun z => Instr.fill place z (r.map fun p => (p.1, a.eval p.2))) e2).trans ih
  induction h with
  | nil => rfl
  | @cell f x r off v l l' l'' hp hx h1 hset _ ih =>
    obtain ⟨e1, e2⟩ := hset.eq
    exact key hp (he.ev hx) (vs := [v]) (by cases v <;> first | rfl | (simp [Value.oneCell'] at h1)) rfl e1 e2 ih
  | @part f x r off sz vs l l' l'' hp hx hl hset _ ih =>
    obtain ⟨e1, e2⟩ := hset.eq
    exact key hp (he.ev hx) (vs := vs) rfl hl e1 e2 ih
theorem Rn.build {t : Nat} {ps : Array (Nat × Operand)} {z : Value} {pl : List (Nat × Nat)} {l l' : List Value} [hz : ZR P t z l] [hp : PL P t pl] (hf : Fill pl env ps.toList l l') : Rn P F hs (.build t ps) ty env (.agg l'.toArray) := fun o h1 h2 n B a w he ho => by
  have hb : P.built t (ps.map fun p => (p.1, a.eval p.2)).toList = some l'.toArray := by
    have h1 := hz.eq
    have h2 := hp.eq
    unfold zeroOf at h1
    unfold placesOf at h2
    unfold Program.built
    cases hi : P.info? t with
    | none => rw [hi] at h1; cases h1
    | some it =>
      rw [hi] at h1
      simp only [Option.bind_some] at h1
      split at h2
      · next fs hu =>
        simp only [hu, h1, h2, hz.cells]
        have := Fill.run (place := (pl.toArray[·]?)) (fun f q h => by simpa using h) he hf
        simpa using this
      · cases h2
  unfold execOp
  have := run_build (P := P) w t (ps.map fun p => (p.1, a.eval p.2)) _ hb
  simp only [h1, Sem.run_bind]
  rw [show (ps.map fun x => match x with | (i, x) => (i, a.eval x)) = ps.map fun p => (p.1, a.eval p.2) from rfl, this]
  rfl
end
end Go.Proofs.Ytfaeemahdkobfaa
