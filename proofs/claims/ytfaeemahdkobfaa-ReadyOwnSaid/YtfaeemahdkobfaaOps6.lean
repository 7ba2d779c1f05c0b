/- Engine, part six: assignment to an entry of a map. -/
import Derived.Test.YtfaeemahdkobfaaOps5
namespace Go.Proofs.Ytfaeemahdkobfaa
set_option linter.unusedVariables false
set_option linter.unusedSimpArgs false
section
variable {P : Program} {n : Nat} {B : World} {F : Hp} {hs : List Hp} {env : Env} {ty : TypeId} {K : Value → List Hp → Prop}
theorem WO.mapUpdate {t e m : Nat} {z : Value} {x y u : Operand} {k : Int} {v : Value} {D : Int → Option Value} {h : Hp} {r : List Hp} [hm : MT P t e z] (hx : ev env x = some (.map (some m))) (hy : ev env y = some (.int .i64 k)) (hu : ev env u = some v) (ht : Take hs h r) (hd : MapI D m h)
    (kk : ∀ h', MapI (upd D k (some v)) m h' → K undef (h' :: r)) : WO P n B F (.mapUpdate t x y u) ty env hs K := fun o h1 h2 a w he ho next Q hn => by
  obtain ⟨xs, ck, rfl, d1, d2, d3, hD⟩ := hd
  obtain ⟨kt, hk, kk', hkk⟩ := hm.key
  have H := ho.perm ht.perm
  have hg := H.all _ (.head _) _ _ (one_get _ _)
  unfold Oper.wp execOp
  simp only [h1, he.ev hx, he.ev hy, he.ev hu, Instr.mapUpdate, Sem.run_bind, run_underlying hk, Result.andThen_ok, run_getObj hg, Sem.run_pure, run_checkKey hkk, run_findKey hkk]
  cases hf : xs.findIdx? (fun x => x.1 == k) with
  | none =>
    have hl := idx_none hf
    obtain ⟨a1, a2, a3⟩ := add_map (v := v) d1 d2 d3 hl
    simp only [Sem.run_bind, Result.andThen_ok, run_setObj hg, Sem.run_pure, Oper.upon_skip]
    have e : ((xs.map ent).toArray.push { key := Value.int IntKind.i64 k, val := v, born := ck }) = ((xs ++ [(k, v, ck)]).map ent).toArray := by simp [ent]
    rw [e]
    exact hn _ _ _ (kk _ ⟨xs ++ [(k, v, ck)], ck + 1, rfl, a1, a2, a3, fun q => by rw [look_add _ _ _ _ hl, hD]; rfl⟩) (H.setMap)
  | some j =>
    obtain ⟨x, hxj, hxk, hxl⟩ := idx_some hf
    have hent : (xs.map ent).toArray[j]? = some (ent x) := by simp [hxj]
    simp only [hxj, Option.map_some, hent, Option.getD_some, Instr.keyThatStays, ent, hxk, sameBits_int, if_true, Sem.run_bind, Sem.run_pure, Result.andThen_ok, run_setObj hg, Oper.upon_skip]
    have e : ((xs.map ent).toArray.modify j fun e => { e with key := .int .i64 k, val := v }) = ((setKV xs k v).map ent).toArray := by
      exact modify_val v d1 hf _ (fun x hxk => by simp [ent])
    rw [e]
    have hne : look xs k ≠ none := by rw [hxl]; simp
    refine hn _ _ _ (kk (one m (mapO (setKV xs k v) ck)) ⟨setKV xs k v, ck, rfl, by rw [(keys_set xs k v).1]; exact d1, by rw [(keys_set xs k v).2]; exact d2, fun y hy => ?_, fun q => ?_⟩) (H.setMap)
    · unfold setKV at hy
      obtain ⟨z, hz, rfl⟩ := List.mem_map.1 hy
      have := d3 z hz
      split <;> exact this
    · rw [look_set xs k v hne, hD]; rfl
end
theorem Rn.neBf {P : Program} {F : Hp} {hs : List Hp} {ty : TypeId} {env : Env} {xt yt : TypeId} {x y : Operand} {b : Bool} [hu : UT P xt .bool] (hx : ev env x = some (.bool b)) (hy : ev env y = some (.bool b)) : Rn P F hs (.binOp .neq xt x y yt) ty env (.bool false) := by
  have h := Rn.neB (P := P) (F := F) (hs := hs) (ty := ty) (xt := xt) (yt := yt) hx hy
  rwa [beq_self_eq_true] at h
theorem Rn.eqBt {P : Program} {F : Hp} {hs : List Hp} {ty : TypeId} {env : Env} {xt yt : TypeId} {x y : Operand} {b : Bool} [hu : UT P xt .bool] (hx : ev env x = some (.bool b)) (hy : ev env y = some (.bool b)) : Rn P F hs (.binOp .eql xt x y yt) ty env (.bool true) := by
  have h := Rn.eqB (P := P) (F := F) (hs := hs) (ty := ty) (xt := xt) (yt := yt) hx hy
  rwa [beq_self_eq_true] at h
section
variable {P : Program} {n : Nat} {B : World} {F : Hp} {hs : List Hp} {env : Env} {K : Value → List Hp → Prop} {fn : Func}
/-- a slot, a struct's cell, a slot -/
theorem X.retTCT {s p q : Tmp} {t b sz by' : Nat} {l : List Value} {v v' : Value} {u : TypeId} (hr : fn.results = #[.tmp s, .cell p t, .tmp q]) (hn : AG P t) (hz : SZ P t sz by') (hs0 : lk env s = some v') (hv : lk env p = some (.pointer (some ⟨b, 0, none⟩))) (hq : lk env q = some v) (hc : At F hs b (cells l u)) (hl : l.length = sz) (k : ∃ ks, Keep hs ks ∧ K (.tuple #[v', .agg l.toArray, v]) ks) : X n B F (bodyPost P fn (RR B F K)) .ret env hs := fun a w he ho => by
  refine bodyPost_ret (v := .tuple #[v', .agg l.toArray, v]) ?_ he.defers (by obtain ⟨ks, hk, k⟩ := k; exact ⟨_, ks, rfl, k, hk.own ho⟩)
  have e1 := he.val _ _ hv; have e2 := he.val _ _ hq; have e3 := he.val _ _ hs0
  simp only [Array.getD_eq_getD_getElem?] at e1 e2 e3
  have := run_loadVarS (P := P) (t := t) hl (CellsAt.all hc) ho
  simp [results, hr, e1, e2, e3, asAddr, this]
end
end Go.Proofs.Ytfaeemahdkobfaa
