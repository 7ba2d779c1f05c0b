/- part 25 of the proof: contracts of the functions that the law reaches, and plain laws. -/
import Derived.Test.YtflgnpidelkkpaaGreatMq7
import Derived.Test.YtflgnpidelkkpaaGreatMq24
namespace Go.Proofs.YtflgnpidelkkpaaGreat
set_option maxRecDepth 8000
set_option maxHeartbeats 1000000
set_option linter.unusedVariables false
set_option linter.unusedSimpArgs false
def idxF {α : Type} (p : α → Bool) (xs : List α) : Int := match xs.findIdx? p with | some i => (i : Nat) | none => -1
theorem filter_firstG {α : Type} {p : α → Bool} {l : List α} {i : Nat} (hi : i < l.length) (h1 : p l[i] = true) (h2 : ∀ (j : Nat) (hj : j < i), p (l[j]'(by omega)) = false) : l.take i = (l.take (i + 1)).filter fun x => !p x := by
  have hx : l[i]? = some l[i] := List.getElem?_eq_getElem hi
  rw [List.take_add_one, hx]
  simp only [Option.toList, List.filter_append, List.filter_cons, h1, Bool.not_true, List.filter_nil]
  rw [if_neg (by simp), List.append_nil, List.filter_eq_self.2]
  intro x hxm
  obtain ⟨j, hj, rfl⟩ := List.getElem_of_mem hxm
  rw [List.length_take] at hj
  rw [List.getElem_take, h2 j (by omega)]; rfl
attribute [local irreducible] W X WL WA WB WG WO Rn Own one splice Arr Spec WQ WH Qn
abbrev ArrK (xs : List TaskV) (A : Option Addr) (c : Nat) (h : Hp) : Prop := Arr 33 4 xs.length (xs.flatMap TaskV.enc) A c h
theorem onesK (xs : List TaskV) : (xs.flatMap TaskV.enc).all (·.oneCell') = true := by
  rw [List.all_flatMap, List.all_eq_true]; intro x _; rfl
theorem rowNoneK {F : Hp} {xs : List TaskV} (h : RowAt F [] none (xs.flatMap TaskV.enc)) : xs = [] := by
  cases xs with
  | nil => rfl
  | cons x t => obtain ⟨b, o, e, _⟩ := h 0 _ rfl; cases e
structure DfK where
  i : Nat
  j : Nat
  ys : List TaskV
  h : Hp
set_option maxHeartbeats 2000000 in
theorem indexK_any {f : FuncId} {fn : Func} {cd : Code} (hf : Tryz.prog.funcs[f]? = some fn) (hb : fn.body = some cd) (hnm : (fn.name == "runtime.NumGoroutine") = false) (cap : List Value) (p : TaskV → Bool) (A0 : Option Addr) (c0 : Nat) (xs : List TaskV) (F : Hp) (h0 : RowAt F [] A0 (xs.flatMap TaskV.enc)) (hfit : xs.length * 64 ≤ 140737488355328)
    (hp : ∀ G, F.le G → ∀ x : TaskV, Spec Tryz.prog f (.agg x.enc.toArray :: cap) G [] fun v hs => v = .bool (p x) ∧ hs = []) :
    Spec Tryz.prog 147 [.slice A0 xs.length c0, .func (.func f) #[] cap.toArray] F [] fun v hs => v = .int .i64 (idxF p xs) ∧ hs = [] := by
  refine Spec.enter Tryz.func147 rfl Tryz.ntmps147 rfl fun B => ?_
  repeat' (first | refine soA ?_ | refine sgA ?_ | refine sxA ?_ | refine sbA ?_ | refine fun (Q : Post) hQ => ?_ | refine fun (nb : Nat) => (?_ : WL _ _ _ _ _ _ _ _ _) | (refine WL.guard rfl rfl rfl (fun h => ?_) (fun h => ?_) <;> (try dsimp only at h)))
  refine W.loopK (σ := Nat) ⟨fun k => k ≤ xs.length ∧ ∀ (j : Nat) x, j < k → xs[j]? = some x → p x = false, fun k => [(8, some (.int .i64 (k : Nat))), (7, some (.int .i64 (xs.length : Nat))), (0, some (.slice A0 xs.length c0)), (1, some (.func (.func f) #[] cap.toArray))], fun _ => [], fun k => xs.length - k⟩ 0 ⟨Nat.zero_le _, fun j x hj => absurd hj (Nat.not_lt_zero _)⟩ ⟨rfl, rfl, rfl, rfl, trivial⟩ Keep.nil fun k hk Q hL => ?_
  obtain ⟨hk, hno⟩ := hk
  dsimp only at hk hno ⊢
  repeat' (first | refine soA ?_ | refine sgA ?_ | refine sxA ?_ | refine sbA ?_ | refine fun (Q : Post) hQ => ?_ | refine fun (nb : Nat) => (?_ : WL _ _ _ _ _ _ _ _ _) | (refine WL.guard rfl rfl rfl (fun h => ?_) (fun h => ?_) <;> (try dsimp only at h)))
  refine W.cond rfl (fun h => ?_) (fun h => ?_) <;> (try simp only [beq_iff_eq, bne_iff_ne, decide_eq_true_eq, decide_eq_false_iff_not, beq_eq_false_iff_ne, bne_eq_false_iff_eq, Bool.not_true, Bool.not_false, ne_eq, Int.not_lt, Int.not_le, Bool.not_eq_true', Bool.not_eq_false', Bool.not_eq_eq_eq_not] at h)
  · have hlt : k < xs.length := by omega
    have hxk : xs[k]? = some xs[k] := List.getElem?_eq_getElem hlt
    generalize xs[k] = x at hxk
    obtain ⟨g, o, rfl, g1⟩ := h0.elem 4 (fun _ => rfl) (by omega) k x hxk
    cases hpx : p x with
    | true =>
      repeat' (first | ((apply WL.rd; (exact rfl); (exact Rn.indexAddr k rfl rfl (by first | rfl | omega) (by omega)))) | ((apply WL.rd; (exact rfl); (apply Rn.loadS; (exact rfl); (exact (CellsAt.weak g1 (by simp))); (exact rfl)))) | ((refine WL.ex rfl (WO.callV (first := []) (captured := cap) rfl hf hb hnm rfl Takes.nil (fun G hG hh => hp G hG x) ?_); rintro v own' ⟨hv, rfl⟩; rw [hpx] at hv; subst hv)) | (first | refine soA ?_ | refine sgA ?_ | refine sxA ?_ | refine sbA ?_ | refine fun (Q : Post) hQ => ?_ | refine fun (nb : Nat) => (?_ : WL _ _ _ _ _ _ _ _ _) | (refine WL.guard rfl rfl rfl (fun h => ?_) (fun h => ?_) <;> (try dsimp only at h))))
      ((refine seE ?_); refine ⟨[], Keep.nil, ?_⟩)
      refine ⟨?_, rfl⟩
      have : xs.findIdx? p = some k := by
        rw [List.findIdx?_eq_some_iff_getElem]
        refine ⟨hlt, ?_, fun j hj => ?_⟩
        · have := (List.getElem?_eq_some_iff.1 hxk).2; rw [this]; exact hpx
        · have := hno j xs[j] hj (List.getElem?_eq_getElem (by omega)); simp [this]
      unfold idxF; rw [this]
    | false =>
      repeat' (first | ((apply WL.rd; (exact rfl); (exact Rn.indexAddr k rfl rfl (by first | rfl | omega) (by omega)))) | ((apply WL.rd; (exact rfl); (apply Rn.loadS; (exact rfl); (exact (CellsAt.weak g1 (by simp))); (exact rfl)))) | ((refine WL.ex rfl (WO.callV (first := []) (captured := cap) rfl hf hb hnm rfl Takes.nil (fun G hG hh => hp G hG x) ?_); rintro v own' ⟨hv, rfl⟩; rw [hpx] at hv; subst hv)) | (first | refine soA ?_ | refine sgA ?_ | refine sxA ?_ | refine sbA ?_ | refine fun (Q : Post) hQ => ?_ | refine fun (nb : Nat) => (?_ : WL _ _ _ _ _ _ _ _ _) | (refine WL.guard rfl rfl rfl (fun h => ?_) (fun h => ?_) <;> (try dsimp only at h))))
      refine hL.nx (k + 1) _ _ ⟨by omega, fun j y hj hy => ?_⟩ (by dsimp only; omega) ⟨rfl, rfl, rfl, rfl, trivial⟩ Keep.nil
      by_cases e : j = k
      · subst e; rw [hxk] at hy; cases hy; exact hpx
      · exact hno j y (by omega) hy
  · have hkk : k = xs.length := by omega
    subst hkk
    repeat' (first | refine soA ?_ | refine sgA ?_ | refine sxA ?_ | refine sbA ?_ | refine fun (Q : Post) hQ => ?_ | refine fun (nb : Nat) => (?_ : WL _ _ _ _ _ _ _ _ _) | (refine WL.guard rfl rfl rfl (fun h => ?_) (fun h => ?_) <;> (try dsimp only at h)))
    ((refine seE ?_); refine ⟨[], Keep.nil, ?_⟩)
    refine ⟨?_, rfl⟩
    have : xs.findIdx? p = none := by
      rw [List.findIdx?_eq_none_iff]; intro x hx
      obtain ⟨j, hj, e⟩ := List.getElem_of_mem hx
      exact hno j x hj (by rw [List.getElem?_eq_getElem hj, e])
    unfold idxF; rw [this]
set_option maxHeartbeats 8000000 in
theorem deleteK_any {f : FuncId} {fn : Func} {cd : Code} (hf : Tryz.prog.funcs[f]? = some fn) (hb : fn.body = some cd) (hnm : (fn.name == "runtime.NumGoroutine") = false) (cap : List Value) (p : TaskV → Bool) (A0 : Option Addr) (c0 : Nat) (l : List TaskV) (h : Hp) (F : Hp) (ha : ArrK l A0 c0 h) (hfit : l.length * 64 ≤ 140737488355328)
    (hp : ∀ G, F.le G → ∀ x : TaskV, Spec Tryz.prog f (.agg x.enc.toArray :: cap) G [] fun v hs => v = .bool (p x) ∧ hs = []) :
    Spec Tryz.prog 199 [.slice A0 l.length c0, .func (.func f) #[] cap.toArray] F [h] fun v hs => ∃ h', v = .slice A0 (l.filter fun x => !p x).length c0 ∧ hs = [h'] ∧ ArrK (l.filter fun x => !p x) A0 c0 h' := by
  refine Spec.enter Tryz.func199 rfl Tryz.ntmps199 rfl fun B => ?_
  repeat' (first | refine soA ?_ | refine sgA ?_ | refine sxA ?_ | refine sbA ?_ | refine fun (Q : Post) hQ => ?_ | refine fun (nb : Nat) => (?_ : WL _ _ _ _ _ _ _ _ _) | (refine WL.guard rfl rfl rfl (fun h => ?_) (fun h => ?_) <;> (try dsimp only at h)))
  apply WL.ex
  · exact rfl
  refine WO.callN Tryz.func147 rfl (by kernel_rfl) rfl Takes.nil (fun G hG hh => indexK_any hf hb hnm cap p A0 c0 l G (ha.rowH (hh h (by simp))) hfit (fun G' g' x => hp G' (hG.trans g') x)) ?_
  rintro v own' ⟨rfl, rfl⟩
  cases hfi : l.findIdx? p with
  | none =>
    have e : idxF p l = -1 := by unfold idxF; rw [hfi]
    rw [e]
    repeat' (first | refine soA ?_ | refine sgA ?_ | refine sxA ?_ | refine sbA ?_ | refine fun (Q : Post) hQ => ?_ | refine fun (nb : Nat) => (?_ : WL _ _ _ _ _ _ _ _ _) | (refine WL.guard rfl rfl rfl (fun h => ?_) (fun h => ?_) <;> (try dsimp only at h)))
    (refine seE ?_)
    have e2 : (l.filter fun x => !p x) = l := by
      rw [List.filter_eq_self]; intro x hx
      have := List.findIdx?_eq_none_iff.1 hfi x hx
      rw [this]; rfl
    exact ⟨[h], (by (exact keA)), h, by rw [e2], rfl, by rw [e2]; exact ha⟩
  | some i0 =>
    obtain ⟨hi0, hp0, hbefore⟩ := List.findIdx?_eq_some_iff_getElem.1 hfi
    have e : idxF p l = (i0 : Nat) := by unfold idxF; rw [hfi]
    have hff := filter_firstG hi0 hp0 (fun j hj => by simpa using hbefore j hj)
    rw [e]
    repeat' (first | ((apply WL.rd; (exact rfl); (exact Rn.cmp (b := false) rfl rfl (congrArg some (beq_eq_false_iff_ne.2 (by omega)))))) | (first | refine soA ?_ | refine sgA ?_ | refine sxA ?_ | refine sbA ?_ | refine fun (Q : Post) hQ => ?_ | refine fun (nb : Nat) => (?_ : WL _ _ _ _ _ _ _ _ _) | (refine WL.guard rfl rfl rfl (fun h => ?_) (fun h => ?_) <;> (try dsimp only at h))))
    refine W.loopK (σ := DfK) ⟨fun s => s.i < s.j ∧ s.j ≤ l.length ∧ s.ys.length = l.length ∧ s.ys.take s.i = ((l.take s.j).filter fun x => !p x) ∧ s.ys.drop s.j = l.drop s.j ∧ ArrK s.ys A0 c0 s.h, fun s => [(6, some (.int .i64 (s.j : Nat))), (5, some (.int .i64 (s.i : Nat))), (0, some (.slice A0 l.length c0)), (1, some (.func (.func f) #[] cap.toArray))], fun s => [s.h], fun s => l.length - s.j⟩ ⟨i0, i0 + 1, l, h⟩ ⟨by dsimp only; omega, by dsimp only; omega, rfl, hff, rfl, ha⟩ ⟨rfl, rfl, rfl, rfl, trivial⟩ (by (exact keA)) ?_
    clear ha hff hp0 hbefore hfi e
    rintro ⟨i, j, ys, h⟩ ⟨hij, hj, hyl, hti, hdj, ha⟩ Q hL
    dsimp only at hij hj hyl hti hdj ha ⊢
    repeat' (first | refine soA ?_ | refine sgA ?_ | refine sxA ?_ | refine sbA ?_ | refine fun (Q : Post) hQ => ?_ | refine fun (nb : Nat) => (?_ : WL _ _ _ _ _ _ _ _ _) | (refine WL.guard rfl rfl rfl (fun h => ?_) (fun h => ?_) <;> (try dsimp only at h)))
    refine W.cond rfl (fun h1 => ?_) (fun h1 => ?_)
    · have hlt : j < l.length := by have : (j : Int) < (l.length : Nat) := by simpa using h1
                                    omega
      have hxj : l[j]? = some l[j] := List.getElem?_eq_getElem hlt
      generalize l[j] = x at hxj
      have hyj : ys[j]? = some x := by
        have := congrArg (fun z => z[0]?) hdj
        simpa [hxj] using this
      obtain ⟨g, sp, rfl, rfl, hlen, hle, hmax⟩ := ha.some (by omega)
      have gx := get_flat' TaskV.enc 4 (fun _ => rfl) _ _ _ sp hyj
      have rx := flat_room TaskV.enc 4 (fun _ => rfl) ys i (by omega) sp
      have hset := set_flatI TaskV.enc 4 (fun _ => rfl) ys i (by omega) x sp
      have hnext : (l.take (j + 1)).filter (fun x => !p x) = (l.take j).filter (fun x => !p x) ++ ([x].filter fun x => !p x) := by rw [List.take_add_one, hxj, List.filter_append]; rfl
      have hdn : ys.drop (j + 1) = l.drop (j + 1) := by rw [← List.drop_drop, ← List.drop_drop, hdj]
      cases hpx : p x with
      | true =>
        have e2 : ([x].filter fun x => !p x) = [] := by simp [hpx]
        rw [e2, List.append_nil] at hnext
        have ha' := ha
        generalize ys.flatMap TaskV.enc ++ sp = L at *
        repeat' (first | ((apply WL.rd; (exact rfl); (exact Rn.indexAddr j rfl rfl rfl hlt))) | ((apply WL.rd; (exact rfl); (exact Rn.loadS rfl (CellsAt.mk At.one gx) rfl))) | ((refine WL.ex rfl (WO.callV (first := []) (captured := cap) rfl hf hb hnm rfl Takes.nil (fun G hG hh => hp G hG x) ?_); rintro v own' ⟨hv, rfl⟩; rw [hpx] at hv; subst hv)) | (first | refine soA ?_ | refine sgA ?_ | refine sxA ?_ | refine sbA ?_ | refine fun (Q : Post) hQ => ?_ | refine fun (nb : Nat) => (?_ : WL _ _ _ _ _ _ _ _ _) | (refine WL.guard rfl rfl rfl (fun h => ?_) (fun h => ?_) <;> (try dsimp only at h))))
        exact hL.nx ⟨i, j + 1, ys, one g (cells L 33)⟩ _ _ ⟨by dsimp only; omega, by dsimp only; omega, hyl, by rw [hnext]; exact hti, hdn, ha'⟩ (by dsimp only; omega) ⟨rfl, rfl, rfl, rfl, trivial⟩ (by (exact keA))
      | false =>
        have e2 : ([x].filter fun x => !p x) = [x] := by simp [hpx]
        rw [e2] at hnext
        have e5 : ((ys.set i x).flatMap TaskV.enc).length = (ys.set i x).length * 4 := flat_len TaskV.enc 4 TaskV.enc_len _
        have e6 : (ys.flatMap TaskV.enc).length = ys.length * 4 := flat_len TaskV.enc 4 TaskV.enc_len _
        have ha2 : ArrK (ys.set i x) (some ⟨g, 0, none⟩) c0 (one g (cells ((ys.set i x).flatMap TaskV.enc ++ sp) 33)) :=
          Arr.mk e5 (by rw [List.length_append] at hlen ⊢; rw [e5, List.length_set]; rw [e6] at hlen; exact hlen) (by rw [List.length_set]; exact hle) hmax
        rw [← hset] at ha2
        have hti2 : (ys.set i x).take (i + 1) = (l.take (j + 1)).filter fun x => !p x := by rw [set_take (by omega), hti, hnext]
        have hdn2 : (ys.set i x).drop (j + 1) = l.drop (j + 1) := by rw [List.drop_set_of_lt (by omega), hdn]
        generalize ys.flatMap TaskV.enc ++ sp = L at *
        repeat' (first | ((apply WL.rd; (exact rfl); (exact Rn.indexAddr j rfl rfl rfl hlt))) | ((apply WL.rd; (exact rfl); (exact Rn.loadS rfl (CellsAt.mk At.one gx) rfl))) | ((refine WL.ex rfl (WO.callV (first := []) (captured := cap) rfl hf hb hnm rfl Takes.nil (fun G hG hh => hp G hG x) ?_); rintro v own' ⟨hv, rfl⟩; rw [hpx] at hv; subst hv)) | ((apply WL.rd; (exact rfl); (exact Rn.indexAddr i rfl rfl rfl (by omega)))) | ((apply WL.ex0; (apply WO.storeC (l := L) (vs := x.enc) (b := g) (o := 0 + i * 4); (exact rfl); (exact rfl); (exact rfl); (exact rfl); (exact rfl); (exact rpA); (exact rx)))) | (first | refine soA ?_ | refine sgA ?_ | refine sxA ?_ | refine sbA ?_ | refine fun (Q : Post) hQ => ?_ | refine fun (nb : Nat) => (?_ : WL _ _ _ _ _ _ _ _ _) | (refine WL.guard rfl rfl rfl (fun h => ?_) (fun h => ?_) <;> (try dsimp only at h))))
        exact hL.nx ⟨i + 1, j + 1, ys.set i x, _⟩ _ _ ⟨by dsimp only; omega, by dsimp only; omega, by rw [List.length_set]; exact hyl, hti2, hdn2, ha2⟩ (by dsimp only; omega) ⟨rfl, rfl, rfl, rfl, trivial⟩ (by (exact keA))
    · have hjj : j = l.length := by have : (l.length : Int) ≤ (j : Nat) := by simpa using h1
                                    omega
      subst hjj
      rw [List.take_length] at hti
      obtain ⟨g, sp, rfl, rfl, hlen, hle, hmax⟩ := ha.some (by omega)
      have hl1 : (ys.take i).length = i := by rw [List.length_take]; omega
      have hlf : (l.filter fun x => !p x).length = i := by rw [← hti]; exact hl1
      have hf1 : ((ys.take i).flatMap TaskV.enc).length = i * 4 := by rw [flat_len TaskV.enc 4 TaskV.enc_len, hl1]
      have hf2 : ((ys.drop i).flatMap TaskV.enc).length = (l.length - i) * 4 := by rw [flat_len TaskV.enc 4 TaskV.enc_len, List.length_drop, hyl]
      have e6 : (ys.flatMap TaskV.enc).length = ys.length * 4 := flat_len TaskV.enc 4 TaskV.enc_len _
      have hcs : ys.flatMap TaskV.enc = (ys.take i).flatMap TaskV.enc ++ (ys.drop i).flatMap TaskV.enc := by rw [← List.flatMap_append, List.take_append_drop]
      have hz : (zrow [.int .i64 0, .int .i64 0, .slice none 0 0, .slice none 0 0] (l.length - i)).length = (l.length - i) * 4 := zrow_len _ _
      have hcut := cut_cells ((ys.take i).flatMap TaskV.enc) ((ys.drop i).flatMap TaskV.enc) sp (zrow [.int .i64 0, .int .i64 0, .slice none 0 0, .slice none 0 0] (l.length - i)) (by rw [hf2, hz])
      rw [← hcs, hf1, hti] at hcut
      have e7 : ((l.filter fun x => !p x).flatMap TaskV.enc).length = (l.filter fun x => !p x).length * 4 := flat_len TaskV.enc 4 TaskV.enc_len _
      have hin : 0 + i * 4 + (l.length - i) * 4 ≤ (ys.flatMap TaskV.enc ++ sp).length := by rw [List.length_append, e6, hyl]; omega
      have ha2 : ArrK (l.filter fun x => !p x) (some ⟨g, 0, none⟩) c0 (one g (cells (splice (ys.flatMap TaskV.enc ++ sp) (0 + i * 4) (zrow [.int .i64 0, .int .i64 0, .slice none 0 0, .slice none 0 0] (l.length - i))) 33)) := by
        rw [Nat.zero_add, hcut]
        exact Arr.mk e7 (by rw [List.length_append, List.length_append, e7, hlf, hz]; rw [List.length_append, e6, hyl] at hlen; omega) (by omega) hmax
      generalize ys.flatMap TaskV.enc ++ sp = L at *
      repeat' (first | ((apply WL.rd; (exact rfl); (exact Rn.sliceFromp i (by omega) rfl rfl rfl (by omega)))) | ((apply WL.ex0; (apply WO.clearS (l := L) (b := g) (o := 0 + i * 4) (zl := [.int .i64 0, .int .i64 0, .slice none 0 0, .slice none 0 0]); (exact rfl); (exact rfl); (exact rpA); (exact hin)))) | ((apply WL.rd; (exact rfl); (exact Rn.sliceTo i rfl rfl rfl (by omega)))) | (first | refine soA ?_ | refine sgA ?_ | refine sxA ?_ | refine sbA ?_ | refine fun (Q : Post) hQ => ?_ | refine fun (nb : Nat) => (?_ : WL _ _ _ _ _ _ _ _ _) | (refine WL.guard rfl rfl rfl (fun h => ?_) (fun h => ?_) <;> (try dsimp only at h))))
      (refine seE ?_)
      exact ⟨_, (by (exact keA)), _, by rw [hlf], rfl, ha2⟩
set_option maxHeartbeats 1000000 in
theorem cloneK_any (A0 : Option Addr) (c0 : Nat) (xs : List TaskV) (F : Hp) (h0 : RowAt F [] A0 (xs.flatMap TaskV.enc)) (hfit : xs.length * 64 ≤ 140737488355328) :
    Spec Tryz.prog 200 [.slice A0 xs.length c0] F [] fun v hs => ∃ A c h, v = .slice A xs.length c ∧ hs = [h] ∧ ArrK xs A c h := by
  have hl := flat_len TaskV.enc 4 TaskV.enc_len xs
  refine Spec.enter Tryz.func200 rfl Tryz.ntmps200 rfl fun B => ?_
  cases A0 with
  | none =>
    obtain rfl := rowNoneK h0
    repeat' (first | refine soA ?_ | refine sgA ?_ | refine sxA ?_ | refine sbA ?_ | refine fun (Q : Post) hQ => ?_ | refine fun (nb : Nat) => (?_ : WL _ _ _ _ _ _ _ _ _) | (refine WL.guard rfl rfl rfl (fun h => ?_) (fun h => ?_) <;> (try dsimp only at h)))
    refine X.pad ?_
    (refine seE ?_)
    exact ⟨[Hp.none], (by (exact keA)), none, 0, Hp.none, rfl, rfl, Arr.nil _ _⟩
  | some ad =>
    have h1 := onesK xs
    repeat' (first | ((apply WL.ex; (exact rfl); (apply WO.append (h := one nb (cells [] 33)) (news := xs.flatMap TaskV.enc) (m := xs.length); (exact rfl); (exact rfl); (exact tkA); (exact arr_none); (exact rfl); (decide); (exact hl); (exact h0.weak (by simp)); (exact h1); (omega); (omega); intro A' c' h' hap))) | (first | refine soA ?_ | refine sgA ?_ | refine sxA ?_ | refine sbA ?_ | refine fun (Q : Post) hQ => ?_ | refine fun (nb : Nat) => (?_ : WL _ _ _ _ _ _ _ _ _) | (refine WL.guard rfl rfl rfl (fun h => ?_) (fun h => ?_) <;> (try dsimp only at h))))
    (refine seE ?_)
    refine ⟨[h'], (by (exact keA)), A', c', h', by rw [Nat.zero_add], rfl, ?_⟩
    rw [Nat.zero_add] at hap
    exact hap
theorem clipK_any (A0 : Option Addr) (c0 n : Nat) (F : Hp) (hn : n ≤ c0) : Spec Tryz.prog 87 [.slice A0 n c0] F [] fun v hs => v = .slice A0 n n ∧ hs = [] := by
  refine Spec.enter Tryz.func87 rfl Tryz.ntmps87 rfl fun B => ?_
  repeat' (first | ((apply WL.rd; (exact rfl); (exact Rn.sliceClip n n rfl rfl rfl rfl rfl (Nat.le_refl _) hn))) | (first | refine soA ?_ | refine sgA ?_ | refine sxA ?_ | refine sbA ?_ | refine fun (Q : Post) hQ => ?_ | refine fun (nb : Nat) => (?_ : WL _ _ _ _ _ _ _ _ _) | (refine WL.guard rfl rfl rfl (fun h => ?_) (fun h => ?_) <;> (try dsimp only at h))))
  ((refine seE ?_); refine ⟨[], Keep.nil, ?_⟩)
  exact ⟨rfl, rfl⟩
abbrev ArrI (xs : List Int) (A : Option Addr) (c : Nat) (h : Hp) : Prop := Arr 3 1 xs.length (xs.flatMap encI) A c h
structure DfI where
  i : Nat
  j : Nat
  ys : List Int
  h : Hp
set_option maxHeartbeats 2000000 in
theorem indexI_any {f : FuncId} {fn : Func} {cd : Code} (hf : Tryz.prog.funcs[f]? = some fn) (hb : fn.body = some cd) (hnm : (fn.name == "runtime.NumGoroutine") = false) (cap : List Value) (p : Int → Bool) (A0 : Option Addr) (c0 : Nat) (xs : List Int) (F : Hp) (h0 : RowAt F [] A0 (xs.flatMap encI)) (hfit : xs.length * 8 ≤ 140737488355328)
    (hp : ∀ G, F.le G → ∀ x : Int, Spec Tryz.prog f (.int .i64 x :: cap) G [] fun v hs => v = .bool (p x) ∧ hs = []) :
    Spec Tryz.prog 239 [.slice A0 xs.length c0, .func (.func f) #[] cap.toArray] F [] fun v hs => v = .int .i64 (idxF p xs) ∧ hs = [] := by
  refine Spec.enter Tryz.func239 rfl Tryz.ntmps239 rfl fun B => ?_
  repeat' (first | refine soA ?_ | refine sgA ?_ | refine sxA ?_ | refine sbA ?_ | refine fun (Q : Post) hQ => ?_ | refine fun (nb : Nat) => (?_ : WL _ _ _ _ _ _ _ _ _) | (refine WL.guard rfl rfl rfl (fun h => ?_) (fun h => ?_) <;> (try dsimp only at h)))
  refine W.loopK (σ := Nat) ⟨fun k => k ≤ xs.length ∧ ∀ (j : Nat) x, j < k → xs[j]? = some x → p x = false, fun k => [(8, some (.int .i64 (k : Nat))), (7, some (.int .i64 (xs.length : Nat))), (0, some (.slice A0 xs.length c0)), (1, some (.func (.func f) #[] cap.toArray))], fun _ => [], fun k => xs.length - k⟩ 0 ⟨Nat.zero_le _, fun j x hj => absurd hj (Nat.not_lt_zero _)⟩ ⟨rfl, rfl, rfl, rfl, trivial⟩ Keep.nil fun k hk Q hL => ?_
  obtain ⟨hk, hno⟩ := hk
  dsimp only at hk hno ⊢
  repeat' (first | refine soA ?_ | refine sgA ?_ | refine sxA ?_ | refine sbA ?_ | refine fun (Q : Post) hQ => ?_ | refine fun (nb : Nat) => (?_ : WL _ _ _ _ _ _ _ _ _) | (refine WL.guard rfl rfl rfl (fun h => ?_) (fun h => ?_) <;> (try dsimp only at h)))
  refine W.cond rfl (fun h => ?_) (fun h => ?_) <;> (try simp only [beq_iff_eq, bne_iff_ne, decide_eq_true_eq, decide_eq_false_iff_not, beq_eq_false_iff_ne, bne_eq_false_iff_eq, Bool.not_true, Bool.not_false, ne_eq, Int.not_lt, Int.not_le, Bool.not_eq_true', Bool.not_eq_false', Bool.not_eq_eq_eq_not] at h)
  · have hlt : k < xs.length := by omega
    have hxk : xs[k]? = some xs[k] := List.getElem?_eq_getElem hlt
    generalize xs[k] = x at hxk
    obtain ⟨g, o, rfl, g1⟩ := h0.elem 1 (fun _ => rfl) (by omega) k x hxk
    cases hpx : p x with
    | true =>
      repeat' (first | ((apply WL.rd; (exact rfl); (exact Rn.indexAddr k rfl rfl (by first | rfl | omega) (by omega)))) | ((apply WL.rd; (exact rfl); (apply Rn.load; (exact rfl); (exact (CellsAt.weak g1 (by simp)) 0 _ rfl)))) | ((refine WL.ex rfl (WO.callV (first := []) (captured := cap) rfl hf hb hnm rfl Takes.nil (fun G hG hh => hp G hG x) ?_); rintro v own' ⟨hv, rfl⟩; rw [hpx] at hv; subst hv)) | (first | refine soA ?_ | refine sgA ?_ | refine sxA ?_ | refine sbA ?_ | refine fun (Q : Post) hQ => ?_ | refine fun (nb : Nat) => (?_ : WL _ _ _ _ _ _ _ _ _) | (refine WL.guard rfl rfl rfl (fun h => ?_) (fun h => ?_) <;> (try dsimp only at h))))
      ((refine seE ?_); refine ⟨[], Keep.nil, ?_⟩)
      refine ⟨?_, rfl⟩
      have : xs.findIdx? p = some k := by
        rw [List.findIdx?_eq_some_iff_getElem]
        refine ⟨hlt, ?_, fun j hj => ?_⟩
        · have := (List.getElem?_eq_some_iff.1 hxk).2; rw [this]; exact hpx
        · have := hno j xs[j] hj (List.getElem?_eq_getElem (by omega)); simp [this]
      unfold idxF; rw [this]
    | false =>
      repeat' (first | ((apply WL.rd; (exact rfl); (exact Rn.indexAddr k rfl rfl (by first | rfl | omega) (by omega)))) | ((apply WL.rd; (exact rfl); (apply Rn.load; (exact rfl); (exact (CellsAt.weak g1 (by simp)) 0 _ rfl)))) | ((refine WL.ex rfl (WO.callV (first := []) (captured := cap) rfl hf hb hnm rfl Takes.nil (fun G hG hh => hp G hG x) ?_); rintro v own' ⟨hv, rfl⟩; rw [hpx] at hv; subst hv)) | (first | refine soA ?_ | refine sgA ?_ | refine sxA ?_ | refine sbA ?_ | refine fun (Q : Post) hQ => ?_ | refine fun (nb : Nat) => (?_ : WL _ _ _ _ _ _ _ _ _) | (refine WL.guard rfl rfl rfl (fun h => ?_) (fun h => ?_) <;> (try dsimp only at h))))
      refine hL.nx (k + 1) _ _ ⟨by omega, fun j y hj hy => ?_⟩ (by dsimp only; omega) ⟨rfl, rfl, rfl, rfl, trivial⟩ Keep.nil
      by_cases e : j = k
      · subst e; rw [hxk] at hy; cases hy; exact hpx
      · exact hno j y (by omega) hy
  · have hkk : k = xs.length := by omega
    subst hkk
    repeat' (first | refine soA ?_ | refine sgA ?_ | refine sxA ?_ | refine sbA ?_ | refine fun (Q : Post) hQ => ?_ | refine fun (nb : Nat) => (?_ : WL _ _ _ _ _ _ _ _ _) | (refine WL.guard rfl rfl rfl (fun h => ?_) (fun h => ?_) <;> (try dsimp only at h)))
    ((refine seE ?_); refine ⟨[], Keep.nil, ?_⟩)
    refine ⟨?_, rfl⟩
    have : xs.findIdx? p = none := by
      rw [List.findIdx?_eq_none_iff]; intro x hx
      obtain ⟨j, hj, e⟩ := List.getElem_of_mem hx
      exact hno j x hj (by rw [List.getElem?_eq_getElem hj, e])
    unfold idxF; rw [this]
set_option maxHeartbeats 8000000 in
theorem deleteI_any {f : FuncId} {fn : Func} {cd : Code} (hf : Tryz.prog.funcs[f]? = some fn) (hb : fn.body = some cd) (hnm : (fn.name == "runtime.NumGoroutine") = false) (cap : List Value) (p : Int → Bool) (A0 : Option Addr) (c0 : Nat) (l : List Int) (h : Hp) (F : Hp) (ha : ArrI l A0 c0 h) (hfit : l.length * 8 ≤ 140737488355328)
    (hp : ∀ G, F.le G → ∀ x : Int, Spec Tryz.prog f (.int .i64 x :: cap) G [] fun v hs => v = .bool (p x) ∧ hs = []) :
    Spec Tryz.prog 270 [.slice A0 l.length c0, .func (.func f) #[] cap.toArray] F [h] fun v hs => ∃ h', v = .slice A0 (l.filter fun x => !p x).length c0 ∧ hs = [h'] ∧ ArrI (l.filter fun x => !p x) A0 c0 h' := by
  refine Spec.enter Tryz.func270 rfl Tryz.ntmps270 rfl fun B => ?_
  repeat' (first | refine soA ?_ | refine sgA ?_ | refine sxA ?_ | refine sbA ?_ | refine fun (Q : Post) hQ => ?_ | refine fun (nb : Nat) => (?_ : WL _ _ _ _ _ _ _ _ _) | (refine WL.guard rfl rfl rfl (fun h => ?_) (fun h => ?_) <;> (try dsimp only at h)))
  apply WL.ex
  · exact rfl
  refine WO.callN Tryz.func239 rfl (by kernel_rfl) rfl Takes.nil (fun G hG hh => indexI_any hf hb hnm cap p A0 c0 l G (ha.rowH (hh h (by simp))) hfit (fun G' g' x => hp G' (hG.trans g') x)) ?_
  rintro v own' ⟨rfl, rfl⟩
  cases hfi : l.findIdx? p with
  | none =>
    have e : idxF p l = -1 := by unfold idxF; rw [hfi]
    rw [e]
    repeat' (first | refine soA ?_ | refine sgA ?_ | refine sxA ?_ | refine sbA ?_ | refine fun (Q : Post) hQ => ?_ | refine fun (nb : Nat) => (?_ : WL _ _ _ _ _ _ _ _ _) | (refine WL.guard rfl rfl rfl (fun h => ?_) (fun h => ?_) <;> (try dsimp only at h)))
    (refine seE ?_)
    have e2 : (l.filter fun x => !p x) = l := by
      rw [List.filter_eq_self]; intro x hx
      have := List.findIdx?_eq_none_iff.1 hfi x hx
      rw [this]; rfl
    exact ⟨[h], (by (exact keA)), h, by rw [e2], rfl, by rw [e2]; exact ha⟩
  | some i0 =>
    obtain ⟨hi0, hp0, hbefore⟩ := List.findIdx?_eq_some_iff_getElem.1 hfi
    have e : idxF p l = (i0 : Nat) := by unfold idxF; rw [hfi]
    have hff := filter_firstG hi0 hp0 (fun j hj => by simpa using hbefore j hj)
    rw [e]
    repeat' (first | ((apply WL.rd; (exact rfl); (exact Rn.cmp (b := false) rfl rfl (congrArg some (beq_eq_false_iff_ne.2 (by omega)))))) | (first | refine soA ?_ | refine sgA ?_ | refine sxA ?_ | refine sbA ?_ | refine fun (Q : Post) hQ => ?_ | refine fun (nb : Nat) => (?_ : WL _ _ _ _ _ _ _ _ _) | (refine WL.guard rfl rfl rfl (fun h => ?_) (fun h => ?_) <;> (try dsimp only at h))))
    refine W.loopK (σ := DfI) ⟨fun s => s.i < s.j ∧ s.j ≤ l.length ∧ s.ys.length = l.length ∧ s.ys.take s.i = ((l.take s.j).filter fun x => !p x) ∧ s.ys.drop s.j = l.drop s.j ∧ ArrI s.ys A0 c0 s.h, fun s => [(6, some (.int .i64 (s.j : Nat))), (5, some (.int .i64 (s.i : Nat))), (0, some (.slice A0 l.length c0)), (1, some (.func (.func f) #[] cap.toArray))], fun s => [s.h], fun s => l.length - s.j⟩ ⟨i0, i0 + 1, l, h⟩ ⟨by dsimp only; omega, by dsimp only; omega, rfl, hff, rfl, ha⟩ ⟨rfl, rfl, rfl, rfl, trivial⟩ (by (exact keA)) ?_
    clear ha hff hp0 hbefore hfi e
    rintro ⟨i, j, ys, h⟩ ⟨hij, hj, hyl, hti, hdj, ha⟩ Q hL
    dsimp only at hij hj hyl hti hdj ha ⊢
    repeat' (first | refine soA ?_ | refine sgA ?_ | refine sxA ?_ | refine sbA ?_ | refine fun (Q : Post) hQ => ?_ | refine fun (nb : Nat) => (?_ : WL _ _ _ _ _ _ _ _ _) | (refine WL.guard rfl rfl rfl (fun h => ?_) (fun h => ?_) <;> (try dsimp only at h)))
    refine W.cond rfl (fun h1 => ?_) (fun h1 => ?_)
    · have hlt : j < l.length := by have : (j : Int) < (l.length : Nat) := by simpa using h1
                                    omega
      have hxj : l[j]? = some l[j] := List.getElem?_eq_getElem hlt
      generalize l[j] = x at hxj
      have hyj : ys[j]? = some x := by
        have := congrArg (fun z => z[0]?) hdj
        simpa [hxj] using this
      obtain ⟨g, sp, rfl, rfl, hlen, hle, hmax⟩ := ha.some (by omega)
      have gx := get_flat' encI 1 (fun _ => rfl) _ _ _ sp hyj
      have rx := flat_room encI 1 (fun _ => rfl) ys i (by omega) sp
      have hset := set_flatI encI 1 (fun _ => rfl) ys i (by omega) x sp
      have hnext : (l.take (j + 1)).filter (fun x => !p x) = (l.take j).filter (fun x => !p x) ++ ([x].filter fun x => !p x) := by rw [List.take_add_one, hxj, List.filter_append]; rfl
      have hdn : ys.drop (j + 1) = l.drop (j + 1) := by rw [← List.drop_drop, ← List.drop_drop, hdj]
      cases hpx : p x with
      | true =>
        have e2 : ([x].filter fun x => !p x) = [] := by simp [hpx]
        rw [e2, List.append_nil] at hnext
        have ha' := ha
        generalize ys.flatMap encI ++ sp = L at *
        repeat' (first | ((apply WL.rd; (exact rfl); (exact Rn.indexAddr j rfl rfl rfl hlt))) | ((apply WL.rd; (exact rfl); (exact Rn.load rfl (.mk At.one (gx 0 _ rfl))))) | ((refine WL.ex rfl (WO.callV (first := []) (captured := cap) rfl hf hb hnm rfl Takes.nil (fun G hG hh => hp G hG x) ?_); rintro v own' ⟨hv, rfl⟩; rw [hpx] at hv; subst hv)) | (first | refine soA ?_ | refine sgA ?_ | refine sxA ?_ | refine sbA ?_ | refine fun (Q : Post) hQ => ?_ | refine fun (nb : Nat) => (?_ : WL _ _ _ _ _ _ _ _ _) | (refine WL.guard rfl rfl rfl (fun h => ?_) (fun h => ?_) <;> (try dsimp only at h))))
        exact hL.nx ⟨i, j + 1, ys, one g (cells L 3)⟩ _ _ ⟨by dsimp only; omega, by dsimp only; omega, hyl, by rw [hnext]; exact hti, hdn, ha'⟩ (by dsimp only; omega) ⟨rfl, rfl, rfl, rfl, trivial⟩ (by (exact keA))
      | false =>
        have e2 : ([x].filter fun x => !p x) = [x] := by simp [hpx]
        rw [e2] at hnext
        have e5 : ((ys.set i x).flatMap encI).length = (ys.set i x).length * 1 := flat_len encI 1 encI_len _
        have e6 : (ys.flatMap encI).length = ys.length * 1 := flat_len encI 1 encI_len _
        have ha2 : ArrI (ys.set i x) (some ⟨g, 0, none⟩) c0 (one g (cells ((ys.set i x).flatMap encI ++ sp) 3)) :=
          Arr.mk e5 (by rw [List.length_append] at hlen ⊢; rw [e5, List.length_set]; rw [e6] at hlen; exact hlen) (by rw [List.length_set]; exact hle) hmax
        rw [← hset] at ha2
        have hti2 : (ys.set i x).take (i + 1) = (l.take (j + 1)).filter fun x => !p x := by rw [set_take (by omega), hti, hnext]
        have hdn2 : (ys.set i x).drop (j + 1) = l.drop (j + 1) := by rw [List.drop_set_of_lt (by omega), hdn]
        generalize ys.flatMap encI ++ sp = L at *
        repeat' (first | ((apply WL.rd; (exact rfl); (exact Rn.indexAddr j rfl rfl rfl hlt))) | ((apply WL.rd; (exact rfl); (exact Rn.load rfl (.mk At.one (gx 0 _ rfl))))) | ((refine WL.ex rfl (WO.callV (first := []) (captured := cap) rfl hf hb hnm rfl Takes.nil (fun G hG hh => hp G hG x) ?_); rintro v own' ⟨hv, rfl⟩; rw [hpx] at hv; subst hv)) | ((apply WL.rd; (exact rfl); (exact Rn.indexAddr i rfl rfl rfl (by omega)))) | ((apply WL.ex0; (apply WO.storeC (l := L) (vs := encI x) (b := g) (o := 0 + i * 1); (exact rfl); (exact rfl); (exact rfl); (exact rfl); (exact rfl); (exact rpA); (exact rx)))) | (first | refine soA ?_ | refine sgA ?_ | refine sxA ?_ | refine sbA ?_ | refine fun (Q : Post) hQ => ?_ | refine fun (nb : Nat) => (?_ : WL _ _ _ _ _ _ _ _ _) | (refine WL.guard rfl rfl rfl (fun h => ?_) (fun h => ?_) <;> (try dsimp only at h))))
        exact hL.nx ⟨i + 1, j + 1, ys.set i x, _⟩ _ _ ⟨by dsimp only; omega, by dsimp only; omega, by rw [List.length_set]; exact hyl, hti2, hdn2, ha2⟩ (by dsimp only; omega) ⟨rfl, rfl, rfl, rfl, trivial⟩ (by (exact keA))
    · have hjj : j = l.length := by have : (l.length : Int) ≤ (j : Nat) := by simpa using h1
                                    omega
      subst hjj
      rw [List.take_length] at hti
      obtain ⟨g, sp, rfl, rfl, hlen, hle, hmax⟩ := ha.some (by omega)
      have hl1 : (ys.take i).length = i := by rw [List.length_take]; omega
      have hlf : (l.filter fun x => !p x).length = i := by rw [← hti]; exact hl1
      have hf1 : ((ys.take i).flatMap encI).length = i * 1 := by rw [flat_len encI 1 encI_len, hl1]
      have hf2 : ((ys.drop i).flatMap encI).length = (l.length - i) * 1 := by rw [flat_len encI 1 encI_len, List.length_drop, hyl]
      have e6 : (ys.flatMap encI).length = ys.length * 1 := flat_len encI 1 encI_len _
      have hcs : ys.flatMap encI = (ys.take i).flatMap encI ++ (ys.drop i).flatMap encI := by rw [← List.flatMap_append, List.take_append_drop]
      have hz : (zrow [.int .i64 0] (l.length - i)).length = (l.length - i) * 1 := zrow_len _ _
      have hcut := cut_cells ((ys.take i).flatMap encI) ((ys.drop i).flatMap encI) sp (zrow [.int .i64 0] (l.length - i)) (by rw [hf2, hz])
      rw [← hcs, hf1, hti] at hcut
      have e7 : ((l.filter fun x => !p x).flatMap encI).length = (l.filter fun x => !p x).length * 1 := flat_len encI 1 encI_len _
      have hin : 0 + i * 1 + (l.length - i) * 1 ≤ (ys.flatMap encI ++ sp).length := by rw [List.length_append, e6, hyl]; omega
      have ha2 : ArrI (l.filter fun x => !p x) (some ⟨g, 0, none⟩) c0 (one g (cells (splice (ys.flatMap encI ++ sp) (0 + i * 1) (zrow [.int .i64 0] (l.length - i))) 3)) := by
        rw [Nat.zero_add, hcut]
        exact Arr.mk e7 (by rw [List.length_append, List.length_append, e7, hlf, hz]; rw [List.length_append, e6, hyl] at hlen; omega) (by omega) hmax
      generalize ys.flatMap encI ++ sp = L at *
      repeat' (first | ((apply WL.rd; (exact rfl); (exact Rn.sliceFromp i (by omega) rfl rfl rfl (by omega)))) | ((apply WL.ex0; (apply WO.clearS (l := L) (b := g) (o := 0 + i * 1) (zl := [.int .i64 0]); (exact rfl); (exact rfl); (exact rpA); (exact hin)))) | ((apply WL.rd; (exact rfl); (exact Rn.sliceTo i rfl rfl rfl (by omega)))) | (first | refine soA ?_ | refine sgA ?_ | refine sxA ?_ | refine sbA ?_ | refine fun (Q : Post) hQ => ?_ | refine fun (nb : Nat) => (?_ : WL _ _ _ _ _ _ _ _ _) | (refine WL.guard rfl rfl rfl (fun h => ?_) (fun h => ?_) <;> (try dsimp only at h))))
      (refine seE ?_)
      exact ⟨_, (by (exact keA)), _, by rw [hlf], rfl, ha2⟩
abbrev ArrV (xs : List EventV) (A : Option Addr) (c : Nat) (h : Hp) : Prop := Arr 66 4 xs.length (xs.flatMap EventV.enc) A c h
theorem onesV (xs : List EventV) : (xs.flatMap EventV.enc).all (·.oneCell') = true := by
  rw [List.all_flatMap, List.all_eq_true]; intro x _; rfl
theorem rowNoneV {F : Hp} {xs : List EventV} (h : RowAt F [] none (xs.flatMap EventV.enc)) : xs = [] := by
  cases xs with
  | nil => rfl
  | cons x t => obtain ⟨b, o, e, _⟩ := h 0 _ rfl; cases e
set_option maxHeartbeats 1000000 in
theorem cloneV_any (A0 : Option Addr) (c0 : Nat) (xs : List EventV) (F : Hp) (h0 : RowAt F [] A0 (xs.flatMap EventV.enc)) (hfit : xs.length * 32 ≤ 140737488355328) :
    Spec Tryz.prog 66 [.slice A0 xs.length c0] F [] fun v hs => ∃ A c h, v = .slice A xs.length c ∧ hs = [h] ∧ ArrV xs A c h := by
  have hl := flat_len EventV.enc 4 EventV.enc_len xs
  refine Spec.enter Tryz.func66 rfl Tryz.ntmps66 rfl fun B => ?_
  cases A0 with
  | none =>
    obtain rfl := rowNoneV h0
    repeat' (first | refine soA ?_ | refine sgA ?_ | refine sxA ?_ | refine sbA ?_ | refine fun (Q : Post) hQ => ?_ | refine fun (nb : Nat) => (?_ : WL _ _ _ _ _ _ _ _ _) | (refine WL.guard rfl rfl rfl (fun h => ?_) (fun h => ?_) <;> (try dsimp only at h)))
    refine X.pad ?_
    (refine seE ?_)
    exact ⟨[Hp.none], (by (exact keA)), none, 0, Hp.none, rfl, rfl, Arr.nil _ _⟩
  | some ad =>
    have h1 := onesV xs
    repeat' (first | ((apply WL.ex; (exact rfl); (apply WO.append (h := one nb (cells [] 66)) (news := xs.flatMap EventV.enc) (m := xs.length); (exact rfl); (exact rfl); (exact tkA); (exact arr_none); (exact rfl); (decide); (exact hl); (exact h0.weak (by simp)); (exact h1); (omega); (omega); intro A' c' h' hap))) | (first | refine soA ?_ | refine sgA ?_ | refine sxA ?_ | refine sbA ?_ | refine fun (Q : Post) hQ => ?_ | refine fun (nb : Nat) => (?_ : WL _ _ _ _ _ _ _ _ _) | (refine WL.guard rfl rfl rfl (fun h => ?_) (fun h => ?_) <;> (try dsimp only at h))))
    (refine seE ?_)
    refine ⟨[h'], (by (exact keA)), A', c', h', by rw [Nat.zero_add], rfl, ?_⟩
    rw [Nat.zero_add] at hap
    exact hap
theorem clipV_any (A0 : Option Addr) (c0 n : Nat) (F : Hp) (hn : n ≤ c0) : Spec Tryz.prog 65 [.slice A0 n c0] F [] fun v hs => v = .slice A0 n n ∧ hs = [] := by
  refine Spec.enter Tryz.func65 rfl Tryz.ntmps65 rfl fun B => ?_
  repeat' (first | ((apply WL.rd; (exact rfl); (exact Rn.sliceClip n n rfl rfl rfl rfl rfl (Nat.le_refl _) hn))) | (first | refine soA ?_ | refine sgA ?_ | refine sxA ?_ | refine sbA ?_ | refine fun (Q : Post) hQ => ?_ | refine fun (nb : Nat) => (?_ : WL _ _ _ _ _ _ _ _ _) | (refine WL.guard rfl rfl rfl (fun h => ?_) (fun h => ?_) <;> (try dsimp only at h))))
  ((refine seE ?_); refine ⟨[], Keep.nil, ?_⟩)
  exact ⟨rfl, rfl⟩
abbrev ArrE (xs : List LevelV) (A : Option Addr) (c : Nat) (h : Hp) : Prop := Arr 64 2 xs.length (xs.flatMap LevelV.enc) A c h
theorem onesE (xs : List LevelV) : (xs.flatMap LevelV.enc).all (·.oneCell') = true := by
  rw [List.all_flatMap, List.all_eq_true]; intro x _; rfl
theorem rowNoneE {F : Hp} {xs : List LevelV} (h : RowAt F [] none (xs.flatMap LevelV.enc)) : xs = [] := by
  cases xs with
  | nil => rfl
  | cons x t => obtain ⟨b, o, e, _⟩ := h 0 _ rfl; cases e
set_option maxHeartbeats 1000000 in
theorem cloneE_any (A0 : Option Addr) (c0 : Nat) (xs : List LevelV) (F : Hp) (h0 : RowAt F [] A0 (xs.flatMap LevelV.enc)) (hfit : xs.length * 16 ≤ 140737488355328) :
    Spec Tryz.prog 120 [.slice A0 xs.length c0] F [] fun v hs => ∃ A c h, v = .slice A xs.length c ∧ hs = [h] ∧ ArrE xs A c h := by
  have hl := flat_len LevelV.enc 2 LevelV.enc_len xs
  refine Spec.enter Tryz.func120 rfl Tryz.ntmps120 rfl fun B => ?_
  cases A0 with
  | none =>
    obtain rfl := rowNoneE h0
    repeat' (first | refine soA ?_ | refine sgA ?_ | refine sxA ?_ | refine sbA ?_ | refine fun (Q : Post) hQ => ?_ | refine fun (nb : Nat) => (?_ : WL _ _ _ _ _ _ _ _ _) | (refine WL.guard rfl rfl rfl (fun h => ?_) (fun h => ?_) <;> (try dsimp only at h)))
    refine X.pad ?_
    (refine seE ?_)
    exact ⟨[Hp.none], (by (exact keA)), none, 0, Hp.none, rfl, rfl, Arr.nil _ _⟩
  | some ad =>
    have h1 := onesE xs
    repeat' (first | ((apply WL.ex; (exact rfl); (apply WO.append (h := one nb (cells [] 64)) (news := xs.flatMap LevelV.enc) (m := xs.length); (exact rfl); (exact rfl); (exact tkA); (exact arr_none); (exact rfl); (decide); (exact hl); (exact h0.weak (by simp)); (exact h1); (omega); (omega); intro A' c' h' hap))) | (first | refine soA ?_ | refine sgA ?_ | refine sxA ?_ | refine sbA ?_ | refine fun (Q : Post) hQ => ?_ | refine fun (nb : Nat) => (?_ : WL _ _ _ _ _ _ _ _ _) | (refine WL.guard rfl rfl rfl (fun h => ?_) (fun h => ?_) <;> (try dsimp only at h))))
    (refine seE ?_)
    refine ⟨[h'], (by (exact keA)), A', c', h', by rw [Nat.zero_add], rfl, ?_⟩
    rw [Nat.zero_add] at hap
    exact hap
abbrev ArrP (xs : List SleepV) (A : Option Addr) (c : Nat) (h : Hp) : Prop := Arr 84 6 xs.length (xs.flatMap SleepV.enc) A c h
theorem onesP (xs : List SleepV) : (xs.flatMap SleepV.enc).all (·.oneCell') = true := by
  rw [List.all_flatMap, List.all_eq_true]; intro x _; rfl
theorem rowNoneP {F : Hp} {xs : List SleepV} (h : RowAt F [] none (xs.flatMap SleepV.enc)) : xs = [] := by
  cases xs with
  | nil => rfl
  | cons x t => obtain ⟨b, o, e, _⟩ := h 0 _ rfl; cases e
set_option maxHeartbeats 1000000 in
theorem cloneP_any (A0 : Option Addr) (c0 : Nat) (xs : List SleepV) (F : Hp) (h0 : RowAt F [] A0 (xs.flatMap SleepV.enc)) (hfit : xs.length * 48 ≤ 140737488355328) :
    Spec Tryz.prog 121 [.slice A0 xs.length c0] F [] fun v hs => ∃ A c h, v = .slice A xs.length c ∧ hs = [h] ∧ ArrP xs A c h := by
  have hl := flat_len SleepV.enc 6 SleepV.enc_len xs
  refine Spec.enter Tryz.func121 rfl Tryz.ntmps121 rfl fun B => ?_
  cases A0 with
  | none =>
    obtain rfl := rowNoneP h0
    repeat' (first | refine soA ?_ | refine sgA ?_ | refine sxA ?_ | refine sbA ?_ | refine fun (Q : Post) hQ => ?_ | refine fun (nb : Nat) => (?_ : WL _ _ _ _ _ _ _ _ _) | (refine WL.guard rfl rfl rfl (fun h => ?_) (fun h => ?_) <;> (try dsimp only at h)))
    refine X.pad ?_
    (refine seE ?_)
    exact ⟨[Hp.none], (by (exact keA)), none, 0, Hp.none, rfl, rfl, Arr.nil _ _⟩
  | some ad =>
    have h1 := onesP xs
    repeat' (first | ((apply WL.ex; (exact rfl); (apply WO.append (h := one nb (cells [] 84)) (news := xs.flatMap SleepV.enc) (m := xs.length); (exact rfl); (exact rfl); (exact tkA); (exact arr_none); (exact rfl); (decide); (exact hl); (exact h0.weak (by simp)); (exact h1); (omega); (omega); intro A' c' h' hap))) | (first | refine soA ?_ | refine sgA ?_ | refine sxA ?_ | refine sbA ?_ | refine fun (Q : Post) hQ => ?_ | refine fun (nb : Nat) => (?_ : WL _ _ _ _ _ _ _ _ _) | (refine WL.guard rfl rfl rfl (fun h => ?_) (fun h => ?_) <;> (try dsimp only at h))))
    (refine seE ?_)
    refine ⟨[h'], (by (exact keA)), A', c', h', by rw [Nat.zero_add], rfl, ?_⟩
    rw [Nat.zero_add] at hap
    exact hap
abbrev ArrD (xs : List DeviceV) (A : Option Addr) (c : Nat) (h : Hp) : Prop := Arr 86 7 xs.length (xs.flatMap DeviceV.enc) A c h
theorem onesD (xs : List DeviceV) : (xs.flatMap DeviceV.enc).all (·.oneCell') = true := by
  rw [List.all_flatMap, List.all_eq_true]; intro x _; rfl
theorem rowNoneD {F : Hp} {xs : List DeviceV} (h : RowAt F [] none (xs.flatMap DeviceV.enc)) : xs = [] := by
  cases xs with
  | nil => rfl
  | cons x t => obtain ⟨b, o, e, _⟩ := h 0 _ rfl; cases e
set_option maxHeartbeats 1000000 in
theorem cloneD_any (A0 : Option Addr) (c0 : Nat) (xs : List DeviceV) (F : Hp) (h0 : RowAt F [] A0 (xs.flatMap DeviceV.enc)) (hfit : xs.length * 56 ≤ 140737488355328) :
    Spec Tryz.prog 122 [.slice A0 xs.length c0] F [] fun v hs => ∃ A c h, v = .slice A xs.length c ∧ hs = [h] ∧ ArrD xs A c h := by
  have hl := flat_len DeviceV.enc 7 DeviceV.enc_len xs
  refine Spec.enter Tryz.func122 rfl Tryz.ntmps122 rfl fun B => ?_
  cases A0 with
  | none =>
    obtain rfl := rowNoneD h0
    repeat' (first | refine soA ?_ | refine sgA ?_ | refine sxA ?_ | refine sbA ?_ | refine fun (Q : Post) hQ => ?_ | refine fun (nb : Nat) => (?_ : WL _ _ _ _ _ _ _ _ _) | (refine WL.guard rfl rfl rfl (fun h => ?_) (fun h => ?_) <;> (try dsimp only at h)))
    refine X.pad ?_
    (refine seE ?_)
    exact ⟨[Hp.none], (by (exact keA)), none, 0, Hp.none, rfl, rfl, Arr.nil _ _⟩
  | some ad =>
    have h1 := onesD xs
    repeat' (first | ((apply WL.ex; (exact rfl); (apply WO.append (h := one nb (cells [] 86)) (news := xs.flatMap DeviceV.enc) (m := xs.length); (exact rfl); (exact rfl); (exact tkA); (exact arr_none); (exact rfl); (decide); (exact hl); (exact h0.weak (by simp)); (exact h1); (omega); (omega); intro A' c' h' hap))) | (first | refine soA ?_ | refine sgA ?_ | refine sxA ?_ | refine sbA ?_ | refine fun (Q : Post) hQ => ?_ | refine fun (nb : Nat) => (?_ : WL _ _ _ _ _ _ _ _ _) | (refine WL.guard rfl rfl rfl (fun h => ?_) (fun h => ?_) <;> (try dsimp only at h))))
    (refine seE ?_)
    refine ⟨[h'], (by (exact keA)), A', c', h', by rw [Nat.zero_add], rfl, ?_⟩
    rw [Nat.zero_add] at hap
    exact hap
end Go.Proofs.YtflgnpidelkkpaaGreat
