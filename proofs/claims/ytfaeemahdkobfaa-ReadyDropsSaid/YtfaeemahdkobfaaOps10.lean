/- Engine, part ten: length of a map, range over a map. -/
import Derived.Test.YtfaeemahdkobfaaOps8
import Derived.Maps.RangeRun
namespace Go.Proofs.Ytfaeemahdkobfaa
set_option linter.unusedVariables false
set_option linter.unusedSimpArgs false
open Go.ChangeMaps (setBlock)
/-- an iterator over the map m, begun at stamp ck -/
abbrev iterO (m ck : Nat) (seen : Array Nat) : Obj := .mapIter (some m) ck seen ck
theorem MapI.out {D : Int → Option Value} {m : Nat} {h : Hp} (hd : MapI D m h) : ∃ xs ck, h = one m (mapO xs ck) ∧ (xs.map (·.1)).Nodup ∧ (xs.map (·.2.2)).Nodup ∧ (∀ x ∈ xs, x.2.2 < ck) ∧ ∀ k, look xs k = D k := by
  obtain ⟨xs, ck, e, d1, d2, d3, hD⟩ := hd
  exact ⟨xs, ck, e, d1, d2, d3, hD⟩
theorem MapI.back {D : Int → Option Value} {m ck : Nat} {xs : List KV} (d1 : (xs.map (·.1)).Nodup) (d2 : (xs.map (·.2.2)).Nodup) (d3 : ∀ x ∈ xs, x.2.2 < ck) (hD : ∀ k, look xs k = D k) : MapI D m (one m (mapO xs ck)) := ⟨xs, ck, rfl, d1, d2, d3, hD⟩
section
variable {P : Program} {n : Nat} {B : World} {F : Hp} {hs : List Hp} {env : Env} {ty : TypeId} {K : Value → List Hp → Prop}
theorem Rn.lenMap {t e m ck : Nat} {z : Value} {x : Operand} {xs : List KV} [hm : MT P t e z] (hx : ev env x = some (.map (some m))) (hin : one m (mapO xs ck) ∈ hs) : Rn P F hs (.call ⟨.builtin .len, #[x], #[t]⟩) ty env (.int .i64 (xs.length : Nat)) := fun o h1 h2 n B a w he ho => by
  obtain ⟨kt, hk, _⟩ := hm.key
  have hg := ho.all _ hin _ _ (one_get _ _)
  unfold execOp; simp [h1, resolve, invoke, builtin, he.ev hx, Builtin.len_, run_underlying hk, run_getObj hg, goInt]
theorem WO.range {t e m ck : Nat} {z : Value} {x : Operand} {xs : List KV} [hm : MT P t e z] (hx : ev env x = some (.map (some m))) (hin : one m (mapO xs ck) ∈ hs) (k : ∀ r, K (.pointer (some ⟨r, 0, none⟩)) (one r (iterO m ck #[]) :: hs)) : WO P n B F (.range t x) ty env hs K := fun o h1 h2 a w he ho next Q hn => by
  obtain ⟨kt, hk, _⟩ := hm.key
  have hg := ho.all _ hin _ _ (one_get _ _)
  unfold Oper.wp execOp
  simp only [h1, he.ev hx, Instr.range, Sem.run_bind, run_underlying hk, Result.andThen_ok, run_getObj hg, Sem.run_pure, run_newObj, Oper.upon_value]
  exact hn _ _ (w.alloc (iterO m ck #[])) (k w.heap.size) (ho.alloc _)
theorem WO.next {m ck r : Nat} {seen : Array Nat} {x : Operand} {xs : List KV} {rest : List Hp} (hx : ev env x = some (.pointer (some ⟨r, 0, none⟩))) (ht : Take hs (one r (iterO m ck seen)) rest) (hin : one m (mapO xs ck) ∈ rest) (d3 : ∀ x ∈ xs, x.2.2 < ck)
    (k1 : (∀ x ∈ xs, x.2.2 ∈ seen) → K (.tuple #[.bool false]) (one r (iterO m ck seen) :: rest))
    (k2 : ∀ x ∈ xs, x.2.2 ∉ seen → K (.tuple #[.bool true, .int .i64 x.1, x.2.1]) (one r (iterO m ck (seen.push x.2.2)) :: rest)) : WO P n B F (.next x false) ty env hs K := fun o h1 h2 a w he ho next Q hn => by
  have H := ho.perm ht.perm
  have hr := H.all _ (.head _) _ _ (one_get _ _)
  have hb := H.all _ (List.mem_cons_of_mem _ hin) _ _ (one_get _ _)
  have hold : ∀ e ∈ ((xs.map ent).toArray).toList, e.born < ck := fun e he => by
    simp only [List.toList_toArray, List.mem_map] at he
    obtain ⟨y, hy, rfl⟩ := he
    exact d3 y hy
  unfold Oper.wp execOp
  simp only [h1, he.ev hx]
  rcases run_next_at (P := P) w o.type r m ck ck seen (xs.map ent).toArray ck hr hb hold (Nat.le_refl _) with ⟨h0, hrun⟩ | ⟨e, hem, w1, hw1, hrun⟩
  · simp only [Sem.run_bind, hrun, Result.andThen_ok, Sem.run_pure, Oper.upon_value]
    refine hn _ _ w (k1 fun y hy => ?_) H
    have h0 : leftOf (xs.map ent).toArray seen = #[] := Array.eq_empty_of_size_eq_zero h0
    unfold leftOf at h0
    rw [Array.filter_eq_empty_iff] at h0
    have := h0 (ent y) (by simp only [List.mem_toArray, List.mem_map]; exact ⟨y, hy, rfl⟩)
    simpa [ent] using this
  · have hmem : e ∈ xs.map ent ∧ e.born ∉ seen := by
      have : e ∈ leftOf (xs.map ent).toArray seen := by simpa using hem
      unfold leftOf at this
      rw [Array.mem_filter] at this
      exact ⟨by simpa using this.1, by simpa using this.2⟩
    obtain ⟨y, hy, rfl⟩ := List.mem_map.1 hmem.1
    have H1 : Own B F (one r (iterO m ck seen) :: rest) w1 := by
      rcases hw1 with rfl | rfl
      · exact H
      · exact H.drew
    have H2 : Own B F (one r (iterO m ck (seen.push y.2.2)) :: rest) (setBlock w1 r (iterO m ck (seen.push y.2.2))) := H1.upd (by
      have hr1 := H1.all _ (.head _) _ _ (one_get _ _)
      have := (Array.getElem?_eq_some_iff.1 hr1).1
      simp [setBlock, this]) (fun k hk => by simp [setBlock, Array.getElem?_setIfInBounds_ne (Ne.symm hk)]) rfl rfl rfl
    simp only [Sem.run_bind, hrun, Result.andThen_ok, Sem.run_pure, Oper.upon_value]
    exact hn _ _ _ (k2 y hy hmem.2) H2
theorem Rn.entry {m ck r : Nat} {seen : Array Nat} {x : Operand} {xs : List KV} {y : KV} (hx : ev env x = some (.pointer (some ⟨r, 0, none⟩))) (h1 : one r (iterO m ck (seen.push y.2.2)) ∈ hs) (h2 : one m (mapO xs ck) ∈ hs) (hy : y ∈ xs) (d2 : (xs.map (·.2.2)).Nodup) : Rn P F hs (.entry x) ty env (.tuple #[.int .i64 y.1, y.2.1]) := fun o e1 e2 n B a w he ho => by
  have hr := ho.all _ h1 _ _ (one_get _ _)
  have hb := ho.all _ h2 _ _ (one_get _ _)
  have := run_entry_at (P := P) w r m ck seen (xs.map ent).toArray ck (ent y) hr hb (by simp only [List.toList_toArray, List.mem_map]; exact ⟨y, hy, rfl⟩) (by simpa [ent, List.map_map, Function.comp_def] using d2)
  unfold execOp
  simp only [e1, he.ev hx, Sem.run_bind, this, Result.andThen_ok, Sem.run_pure]
  rfl
end
end Go.Proofs.Ytfaeemahdkobfaa
