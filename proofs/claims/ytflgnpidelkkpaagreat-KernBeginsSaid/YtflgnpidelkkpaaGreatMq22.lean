/- part 22 of the proof: contracts of the functions that the law reaches, and plain laws. -/
import Derived.Test.YtflgnpidelkkpaaGreatMq7
import Derived.Test.YtflgnpidelkkpaaGreatMq21
import Derived.Test.YtflgnpidelkkpaaGreatMq9
import Derived.Test.YtflgnpidelkkpaaGreatMq17
import Derived.Test.YtflgnpidelkkpaaGreatMq6
import Derived.Test.YtflgnpidelkkpaaGreatMq1
namespace Go.Proofs.YtflgnpidelkkpaaGreat
set_option maxRecDepth 8000
set_option maxHeartbeats 1000000
set_option linter.unusedVariables false
set_option linter.unusedSimpArgs false
theorem cut_cells (T X sp Z : List Value) (h : X.length = Z.length) : splice (T ++ X ++ sp) T.length Z = T ++ (Z ++ sp) := by
  unfold splice
  have e1 : (T ++ X ++ sp).take T.length = T := by rw [List.append_assoc, List.take_left]
  have e2 : (T ++ X ++ sp).drop (T.length + Z.length) = sp := by rw [← h, ← List.length_append, List.drop_left]
  rw [e1, e2, List.append_assoc]
theorem set_take {α : Type} {ys : List α} {i : Nat} {x : α} (h : i < ys.length) : (ys.set i x).take (i + 1) = ys.take i ++ [x] := by
  rw [List.set_eq_take_append_cons_drop, if_pos h]
  have hl : (ys.take i).length = i := by rw [List.length_take]; omega
  rw [List.take_append, List.take_of_length_le (by omega), hl]
  simp
theorem Rn.sliceFromp {P : Program} {F : Hp} {hs : List Hp} {env : Env} {ty : TypeId} {t e sz by' m c b o : Nat} {x y : Operand} {k : IntKind} {i : Int} (j : Nat) (hne : c ≠ j) [hu : UT P t (.slice e)] [hz : SZ P e sz by'] (hx : ev env x = some (.slice (some ⟨b, o, none⟩) m c)) (hy : ev env y = some (.int k i)) (hi : i = (j : Int)) (hj : j ≤ m) :
    Rn P F hs (.slice t x (some y) none none) ty env (.slice (some ⟨b, o + j * sz, none⟩) (m - j) (c - j)) := by
  have h := Rn.sliceFrom (P := P) (F := F) (hs := hs) (ty := ty) (t := t) j hx hy hi hj
  rwa [if_neg hne] at h
structure DfS where
  i : Nat
  j : Nat
  ys : List HeldV
  h : Hp
theorem filter_first {p : HeldV → Bool} {l : List HeldV} {i : Nat} (hi : i < l.length) (h1 : p l[i] = true) (h2 : ∀ (j : Nat) (hj : j < i), p (l[j]'(by omega)) = false) : l.take i = (l.take (i + 1)).filter fun x => !p x := by
  have hx : l[i]? = some l[i] := List.getElem?_eq_getElem hi
  rw [List.take_add_one, hx]
  simp only [Option.toList, List.filter_append, List.filter_cons, h1, Bool.not_true, List.filter_nil]
  rw [if_neg (by simp), List.append_nil, List.filter_eq_self.2]
  intro x hxm
  obtain ⟨j, hj, rfl⟩ := List.getElem_of_mem hxm
  rw [List.length_take] at hj
  rw [List.getElem_take, h2 j (by omega)]; rfl
attribute [local irreducible] W X WL WA WB WG WO Rn Own one splice Arr Spec WQ WH Qn
set_option maxHeartbeats 8000000 in
theorem deleteFunc_any {f : FuncId} {fn : Func} {cd : Code} (hf : Tryz.prog.funcs[f]? = some fn) (hb : fn.body = some cd) (hnm : (fn.name == "runtime.NumGoroutine") = false) (cap : List Value) (p : HeldV → Bool) (A0 : Option Addr) (c0 : Nat) (l : List HeldV) (h : Hp) (F : Hp) (ha : ArrL l A0 c0 h) (hfit : l.length * 24 ≤ 140737488355328)
    (hp : ∀ G, F.le G → ∀ x : HeldV, Spec Tryz.prog f (.agg x.enc.toArray :: cap) G [] fun v hs => v = .bool (p x) ∧ hs = []) :
    Spec Tryz.prog 283 [.slice A0 l.length c0, .func (.func f) #[] cap.toArray] F [h] fun v hs => ∃ h', v = .slice A0 (l.filter fun x => !p x).length c0 ∧ hs = [h'] ∧ ArrL (l.filter fun x => !p x) A0 c0 h' := by
  refine Spec.enter Tryz.func283 rfl Tryz.ntmps283 rfl fun B => ?_
  repeat' (first | refine soA ?_ | refine sgA ?_ | refine sxA ?_ | refine sbA ?_ | refine fun (Q : Post) hQ => ?_ | refine fun (nb : Nat) => (?_ : WL _ _ _ _ _ _ _ _ _) | (refine WL.guard rfl rfl rfl (fun h => ?_) (fun h => ?_) <;> (try dsimp only at h)))
  apply WL.ex
  · exact rfl
  refine WO.callN Tryz.func252 rfl (by kernel_rfl) rfl Takes.nil (fun G hG hh => index_any hf hb hnm cap p A0 c0 l G (ha.rowH (hh h (by simp))) hfit (fun G' g' x => hp G' (hG.trans g') x)) ?_
  rintro v own' ⟨rfl, rfl⟩
  cases hfi : l.findIdx? p with
  | none =>
    have e : idxV p l = -1 := by unfold idxV; rw [hfi]
    rw [e]
    repeat' (first | refine soA ?_ | refine sgA ?_ | refine sxA ?_ | refine sbA ?_ | refine fun (Q : Post) hQ => ?_ | refine fun (nb : Nat) => (?_ : WL _ _ _ _ _ _ _ _ _) | (refine WL.guard rfl rfl rfl (fun h => ?_) (fun h => ?_) <;> (try dsimp only at h)))
    (refine seE ?_)
    have e2 : (l.filter fun x => !p x) = l := by
      rw [List.filter_eq_self]; intro x hx
      have := List.findIdx?_eq_none_iff.1 hfi x hx
      rw [this]; rfl
    exact ⟨[h], (by (exact keA)), h, by rw [e2], rfl, by rw [e2]; exact ha⟩
  | some i0 =>
    obtain ⟨hi0, hp0, hbefore⟩ := List.findIdx?_eq_some_iff_getElem.1 hfi
    have e : idxV p l = (i0 : Nat) := by unfold idxV; rw [hfi]
    have hff := filter_first hi0 hp0 (fun j hj => by simpa using hbefore j hj)
    rw [e]
    repeat' (first | ((apply WL.rd; (exact rfl); (exact Rn.cmp (b := false) rfl rfl (congrArg some (beq_eq_false_iff_ne.2 (by omega)))))) | (first | refine soA ?_ | refine sgA ?_ | refine sxA ?_ | refine sbA ?_ | refine fun (Q : Post) hQ => ?_ | refine fun (nb : Nat) => (?_ : WL _ _ _ _ _ _ _ _ _) | (refine WL.guard rfl rfl rfl (fun h => ?_) (fun h => ?_) <;> (try dsimp only at h))))
    refine W.loopK (σ := DfS) ⟨fun s => s.i < s.j ∧ s.j ≤ l.length ∧ s.ys.length = l.length ∧ s.ys.take s.i = ((l.take s.j).filter fun x => !p x) ∧ s.ys.drop s.j = l.drop s.j ∧ ArrL s.ys A0 c0 s.h, fun s => [(6, some (.int .i64 (s.j : Nat))), (5, some (.int .i64 (s.i : Nat))), (0, some (.slice A0 l.length c0)), (1, some (.func (.func f) #[] cap.toArray))], fun s => [s.h], fun s => l.length - s.j⟩ ⟨i0, i0 + 1, l, h⟩ ⟨by dsimp only; omega, by dsimp only; omega, rfl, hff, rfl, ha⟩ ⟨rfl, rfl, rfl, rfl, trivial⟩ (by (exact keA)) ?_
    clear ha hff hp0 hbefore hfi e
    rintro ⟨i, j, ys, h⟩ ⟨hij, hj, hyl, hti, hdj, ha⟩ Q hL
    dsimp only at hij hj hyl hti hdj ha ⊢
    repeat' (first | refine soA ?_ | refine sgA ?_ | refine sxA ?_ | refine sbA ?_ | refine fun (Q : Post) hQ => ?_ | refine fun (nb : Nat) => (?_ : WL _ _ _ _ _ _ _ _ _) | (refine WL.guard rfl rfl rfl (fun h => ?_) (fun h => ?_) <;> (try dsimp only at h)))
    refine W.cond rfl (fun h1 => ?_) (fun h1 => ?_)
    · have hlt : j < l.length := by have : (j : Int) < (l.length : Nat) := by simpa using h1
                                    omega
      have hxj : l[j]? = some l[j] := List.getElem?_eq_getElem hlt
      generalize l[j] = x at hxj
      have hyj : ys[j]? = some x := by
        have := congrArg (fun z => z[0]?) hdj
        simpa [hxj] using this
      obtain ⟨g, sp, rfl, rfl, hlen, hle, hmax⟩ := ha.some (by omega)
      have gx := get_flat' HeldV.enc 3 (fun _ => rfl) _ _ _ sp hyj
      have rx := flat_room HeldV.enc 3 (fun _ => rfl) ys i (by omega) sp
      have hset := set_flatI HeldV.enc 3 (fun _ => rfl) ys i (by omega) x sp
      have hnext : (l.take (j + 1)).filter (fun x => !p x) = (l.take j).filter (fun x => !p x) ++ ([x].filter fun x => !p x) := by rw [List.take_add_one, hxj, List.filter_append]; rfl
      have hdn : ys.drop (j + 1) = l.drop (j + 1) := by rw [← List.drop_drop, ← List.drop_drop, hdj]
      cases hpx : p x with
      | true =>
        have e2 : ([x].filter fun x => !p x) = [] := by simp [hpx]
        rw [e2, List.append_nil] at hnext
        have ha' := ha
        generalize ys.flatMap HeldV.enc ++ sp = L at *
        repeat' (first | ((apply WL.rd; (exact rfl); (exact Rn.indexAddr j rfl rfl rfl hlt))) | ((apply WL.rd; (exact rfl); (exact Rn.loadS rfl (CellsAt.mk At.one gx) rfl))) | ((refine WL.ex rfl (WO.callV (first := []) (captured := cap) rfl hf hb hnm rfl Takes.nil (fun G hG hh => hp G hG x) ?_); rintro v own' ⟨hv, rfl⟩; rw [hpx] at hv; subst hv)) | (first | refine soA ?_ | refine sgA ?_ | refine sxA ?_ | refine sbA ?_ | refine fun (Q : Post) hQ => ?_ | refine fun (nb : Nat) => (?_ : WL _ _ _ _ _ _ _ _ _) | (refine WL.guard rfl rfl rfl (fun h => ?_) (fun h => ?_) <;> (try dsimp only at h))))
        exact hL.nx ⟨i, j + 1, ys, one g (cells L 144)⟩ _ _ ⟨by dsimp only; omega, by dsimp only; omega, hyl, by rw [hnext]; exact hti, hdn, ha'⟩ (by dsimp only; omega) ⟨rfl, rfl, rfl, rfl, trivial⟩ (by (exact keA))
      | false =>
        have e2 : ([x].filter fun x => !p x) = [x] := by simp [hpx]
        rw [e2] at hnext
        have e5 : ((ys.set i x).flatMap HeldV.enc).length = (ys.set i x).length * 3 := flat_len HeldV.enc 3 HeldV.enc_len _
        have e6 : (ys.flatMap HeldV.enc).length = ys.length * 3 := flat_len HeldV.enc 3 HeldV.enc_len _
        have ha2 : ArrL (ys.set i x) (some ⟨g, 0, none⟩) c0 (one g (cells ((ys.set i x).flatMap HeldV.enc ++ sp) 144)) :=
          Arr.mk e5 (by rw [List.length_append] at hlen ⊢; rw [e5, List.length_set]; rw [e6] at hlen; exact hlen) (by rw [List.length_set]; exact hle) hmax
        rw [← hset] at ha2
        have hti2 : (ys.set i x).take (i + 1) = (l.take (j + 1)).filter fun x => !p x := by rw [set_take (by omega), hti, hnext]
        have hdn2 : (ys.set i x).drop (j + 1) = l.drop (j + 1) := by rw [List.drop_set_of_lt (by omega), hdn]
        generalize ys.flatMap HeldV.enc ++ sp = L at *
        repeat' (first | ((apply WL.rd; (exact rfl); (exact Rn.indexAddr j rfl rfl rfl hlt))) | ((apply WL.rd; (exact rfl); (exact Rn.loadS rfl (CellsAt.mk At.one gx) rfl))) | ((refine WL.ex rfl (WO.callV (first := []) (captured := cap) rfl hf hb hnm rfl Takes.nil (fun G hG hh => hp G hG x) ?_); rintro v own' ⟨hv, rfl⟩; rw [hpx] at hv; subst hv)) | ((apply WL.rd; (exact rfl); (exact Rn.indexAddr i rfl rfl rfl (by omega)))) | ((apply WL.ex0; (apply WO.storeC (l := L) (vs := x.enc) (b := g) (o := 0 + i * 3); (exact rfl); (exact rfl); (exact rfl); (exact rfl); (exact rfl); (exact rpA); (exact rx)))) | (first | refine soA ?_ | refine sgA ?_ | refine sxA ?_ | refine sbA ?_ | refine fun (Q : Post) hQ => ?_ | refine fun (nb : Nat) => (?_ : WL _ _ _ _ _ _ _ _ _) | (refine WL.guard rfl rfl rfl (fun h => ?_) (fun h => ?_) <;> (try dsimp only at h))))
        exact hL.nx ⟨i + 1, j + 1, ys.set i x, _⟩ _ _ ⟨by dsimp only; omega, by dsimp only; omega, by rw [List.length_set]; exact hyl, hti2, hdn2, ha2⟩ (by dsimp only; omega) ⟨rfl, rfl, rfl, rfl, trivial⟩ (by (exact keA))
    · have hjj : j = l.length := by have : (l.length : Int) ≤ (j : Nat) := by simpa using h1
                                    omega
      subst hjj
      rw [List.take_length] at hti
      obtain ⟨g, sp, rfl, rfl, hlen, hle, hmax⟩ := ha.some (by omega)
      have hl1 : (ys.take i).length = i := by rw [List.length_take]; omega
      have hlf : (l.filter fun x => !p x).length = i := by rw [← hti]; exact hl1
      have hf1 : ((ys.take i).flatMap HeldV.enc).length = i * 3 := by rw [flat_len HeldV.enc 3 HeldV.enc_len, hl1]
      have hf2 : ((ys.drop i).flatMap HeldV.enc).length = (l.length - i) * 3 := by rw [flat_len HeldV.enc 3 HeldV.enc_len, List.length_drop, hyl]
      have e6 : (ys.flatMap HeldV.enc).length = ys.length * 3 := flat_len HeldV.enc 3 HeldV.enc_len _
      have hcs : ys.flatMap HeldV.enc = (ys.take i).flatMap HeldV.enc ++ (ys.drop i).flatMap HeldV.enc := by rw [← List.flatMap_append, List.take_append_drop]
      have hz : (zrow [.int .i64 0, .int .i64 0, .int .i64 0] (l.length - i)).length = (l.length - i) * 3 := zrow_len _ _
      have hcut := cut_cells ((ys.take i).flatMap HeldV.enc) ((ys.drop i).flatMap HeldV.enc) sp (zrow [.int .i64 0, .int .i64 0, .int .i64 0] (l.length - i)) (by rw [hf2, hz])
      rw [← hcs, hf1, hti] at hcut
      have e7 : ((l.filter fun x => !p x).flatMap HeldV.enc).length = (l.filter fun x => !p x).length * 3 := flat_len HeldV.enc 3 HeldV.enc_len _
      have hin : 0 + i * 3 + (l.length - i) * 3 ≤ (ys.flatMap HeldV.enc ++ sp).length := by rw [List.length_append, e6, hyl]; omega
      have ha2 : ArrL (l.filter fun x => !p x) (some ⟨g, 0, none⟩) c0 (one g (cells (splice (ys.flatMap HeldV.enc ++ sp) (0 + i * 3) (zrow [.int .i64 0, .int .i64 0, .int .i64 0] (l.length - i))) 144)) := by
        rw [Nat.zero_add, hcut]
        exact Arr.mk e7 (by rw [List.length_append, List.length_append, e7, hlf, hz]; rw [List.length_append, e6, hyl] at hlen; omega) (by omega) hmax
      generalize ys.flatMap HeldV.enc ++ sp = L at *
      repeat' (first | ((apply WL.rd; (exact rfl); (exact Rn.sliceFromp i (by omega) rfl rfl rfl (by omega)))) | ((apply WL.ex0; (apply WO.clearS (l := L) (b := g) (o := 0 + i * 3) (zl := [.int .i64 0, .int .i64 0, .int .i64 0]); (exact rfl); (exact rfl); (exact rpA); (exact hin)))) | ((apply WL.rd; (exact rfl); (exact Rn.sliceTo i rfl rfl rfl (by omega)))) | (first | refine soA ?_ | refine sgA ?_ | refine sxA ?_ | refine sbA ?_ | refine fun (Q : Post) hQ => ?_ | refine fun (nb : Nat) => (?_ : WL _ _ _ _ _ _ _ _ _) | (refine WL.guard rfl rfl rfl (fun h => ?_) (fun h => ?_) <;> (try dsimp only at h))))
      (refine seE ?_)
      exact ⟨_, (by (exact keA)), _, by rw [hlf], rfl, ha2⟩
theorem free_any (b : Nat) (l : List HeldV) (task : Int) (F : Hp) (hs : List Hp) (ho : LockC b l hs) (hfit : l.length * 24 ≤ 140737488355328) : Spec Tryz.prog 272 [.pointer (some ⟨b, 0, none⟩), .int .i64 task] F hs fun v hs' => v = .tuple #[] ∧ LockC b (freeL task l) hs' := by
  obtain ⟨A, c, h, rfl, ha⟩ := ho
  refine Spec.enter Tryz.func272 rfl Tryz.ntmps272 rfl fun B => ?_
  repeat' (first | ((apply WL.rd; (exact rfl); (exact Rn.makeFunc rfl rfl))) | ((refine WL.ex rfl (WO.callN Tryz.func283 rfl (by kernel_rfl) rfl (own := [h]) (by (exact tsA)) (fun G hG hh => deleteFunc_any Tryz.func284 rfl (by kernel_rfl) [.pointer (some ⟨nb, 0, none⟩)] (fun x => x.task == task) A c l h G ha hfit (fun G' g' x => freeF_any x nb task G' (g' _ _ (one_in (hh _ (List.mem_cons_self ..)))))) ?_); rintro v own' ⟨h2, rfl, rfl, ha2⟩)) | (first | refine soA ?_ | refine sgA ?_ | refine sxA ?_ | refine sbA ?_ | refine fun (Q : Post) hQ => ?_ | refine fun (nb : Nat) => (?_ : WL _ _ _ _ _ _ _ _ _) | (refine WL.guard rfl rfl rfl (fun h => ?_) (fun h => ?_) <;> (try dsimp only at h))))
  (refine seE ?_)
  exact ⟨[one b (cells [.slice A (freeL task l).length c] 176), h2], (by (exact keA)), rfl, A, c, h2, rfl, ha2⟩
end Go.Proofs.YtflgnpidelkkpaaGreat
namespace Go.Proofs.YtflgnpidelkkpaaGreat
set_option maxRecDepth 8000
set_option maxHeartbeats 1000000
set_option linter.unusedVariables false
set_option linter.unusedSimpArgs false
def lowF (ts : List TaskV) (least : Int) (x : HeldV) : Int := if ceilT ts x.sem < least then ceilT ts x.sem else least
def lowT (ts : List TaskV) (l : List HeldV) : Int := l.foldl (lowF ts) 1099511627776
attribute [local irreducible] W X WL WA WB WG WO Rn Own one splice Arr Spec WQ WH Qn
set_option maxHeartbeats 4000000 in
theorem lkceil_any (b : Nat) (l : List HeldV) (A1 : Option Addr) (c1 : Nat) (ts : List TaskV) (F : Hp) (hs : List Hp) (h1 : TasksAt F A1 ts) (ho : LockC b l hs) (hfit : l.length * 24 ≤ 140737488355328) : Spec Tryz.prog 210 [.pointer (some ⟨b, 0, none⟩), .slice A1 ts.length c1] F hs fun v hs' => v = .int .i64 (lowT ts l) ∧ hs' = hs := by
  have ho' := ho
  obtain ⟨A, c, hq, rfl, ha⟩ := ho
  refine Spec.enter Tryz.func210 rfl Tryz.ntmps210 rfl fun B => ?_
  repeat' (first | ((refine WL.ex rfl (WO.callN Tryz.func91 rfl (by kernel_rfl) rfl (Takes.self _) (fun G hG hh => list_any b l G _ ho' hfit) ?_); rintro v own' ⟨A2, c2, h2, rfl, rfl, ha2⟩)) | (first | refine soA ?_ | refine sgA ?_ | refine sxA ?_ | refine sbA ?_ | refine fun (Q : Post) hQ => ?_ | refine fun (nb : Nat) => (?_ : WL _ _ _ _ _ _ _ _ _) | (refine WL.guard rfl rfl rfl (fun h => ?_) (fun h => ?_) <;> (try dsimp only at h))))
  refine W.loopK (σ := Nat) ⟨fun k => k ≤ l.length, fun k => [(11, some (.int .i64 (k : Nat))), (10, some (.int .i64 (l.length : Nat))), (9, some (.slice A2 l.length l.length)), (5, some (.int .i64 ((l.take k).foldl (lowF ts) 1099511627776))), (1, some (.slice A1 ts.length c1))], fun _ => [h2, one b (cells [.slice A l.length c] 176), hq], fun k => l.length - k⟩ 0 (Nat.zero_le _) ⟨rfl, rfl, rfl, rfl, rfl, trivial⟩ (keep_self _) fun k hk Q hL => ?_
  dsimp only at hk ⊢
  repeat' (first | refine soA ?_ | refine sgA ?_ | refine sxA ?_ | refine sbA ?_ | refine fun (Q : Post) hQ => ?_ | refine fun (nb : Nat) => (?_ : WL _ _ _ _ _ _ _ _ _) | (refine WL.guard rfl rfl rfl (fun h => ?_) (fun h => ?_) <;> (try dsimp only at h)))
  refine W.cond rfl (fun h => ?_) (fun h => ?_) <;> (try simp only [beq_iff_eq, bne_iff_ne, decide_eq_true_eq, decide_eq_false_iff_not, beq_eq_false_iff_ne, bne_eq_false_iff_eq, Bool.not_true, Bool.not_false, ne_eq, Int.not_lt, Int.not_le, Bool.not_eq_true', Bool.not_eq_false', Bool.not_eq_eq_eq_not] at h)
  · have hlt : k < l.length := by omega
    have hxk : l[k]? = some l[k] := List.getElem?_eq_getElem hlt
    generalize l[k] = x at hxk
    have hr : RowAt F [h2] A2 (l.flatMap HeldV.enc) := RowAt.arr ha2 (by simp)
    obtain ⟨g, o, rfl, g1⟩ := hr.elem 3 (fun _ => rfl) (by omega) k x hxk
    have hnext : (l.take (k + 1)).foldl (lowF ts) 1099511627776 = lowF ts ((l.take k).foldl (lowF ts) 1099511627776) x := by rw [List.take_add_one, hxk]; simp
    generalize (l.take k).foldl (lowF ts) 1099511627776 = least at hnext ⊢
    repeat' (first | ((apply WL.rd; (exact rfl); (exact Rn.indexAddr k rfl rfl (by first | rfl | omega) (by omega)))) | ((apply WL.rd; (exact rfl); (apply Rn.loadS; (exact rfl); (exact (CellsAt.weak g1 (by simp))); (exact rfl)))) | ((refine WL.ex rfl (WO.callN Tryz.func251 rfl (by kernel_rfl) rfl Takes.nil (fun G hG hh => ceilT_any A1 c1 ts x.sem G (h1.up hG)) ?_); rintro v own' ⟨rfl, rfl⟩)) | (first | refine soA ?_ | refine sgA ?_ | refine sxA ?_ | refine sbA ?_ | refine fun (Q : Post) hQ => ?_ | refine fun (nb : Nat) => (?_ : WL _ _ _ _ _ _ _ _ _) | (refine WL.guard rfl rfl rfl (fun h => ?_) (fun h => ?_) <;> (try dsimp only at h))))
    exact hL.nx (k + 1) _ _ (by dsimp only; omega) (by dsimp only; omega) ⟨rfl, rfl, rfl, by rw [hnext]; rfl, rfl, trivial⟩ (by (exact keA))
  · have hkk : k = l.length := by omega
    subst hkk
    rw [List.take_length]
    repeat' (first | refine soA ?_ | refine sgA ?_ | refine sxA ?_ | refine sbA ?_ | refine fun (Q : Post) hQ => ?_ | refine fun (nb : Nat) => (?_ : WL _ _ _ _ _ _ _ _ _) | (refine WL.guard rfl rfl rfl (fun h => ?_) (fun h => ?_) <;> (try dsimp only at h)))
    (refine seE ?_)
    exact ⟨[one b (cells [.slice A l.length c] 176), hq], (by (exact keA)), rfl, rfl⟩
end Go.Proofs.YtflgnpidelkkpaaGreat
namespace Go.Proofs.YtflgnpidelkkpaaGreat
set_option maxRecDepth 8000
set_option maxHeartbeats 1000000
set_option linter.unusedVariables false
set_option linter.unusedSimpArgs false
attribute [local irreducible] W X WL WA WB WG WO Rn Own one splice Arr Spec WQ WH Qn
theorem pop_any (b : Nat) (l : List HI) (F : Hp) (hs : List Hp) (ho : HeapC b l hs) : Spec Tryz.prog 162 [.pointer (some ⟨b, 0, none⟩)] F hs fun v hs' => (∃ x ∈ l, (∀ y ∈ l, ahead y x = false) ∧ v = .tuple #[.int .i64 x.id, .int .i64 x.key, .bool true] ∧ HeapC b (off x.id l) hs') ∨ (l = [] ∧ v = .tuple #[.int .i64 0, .int .i64 0, .bool false] ∧ HeapC b [] hs') := by
  refine Spec.enter Tryz.func162 rfl Tryz.ntmps162 rfl fun B => ?_
  repeat' (first | refine soA ?_ | refine sgA ?_ | refine sxA ?_ | refine sbA ?_ | refine fun (Q : Post) hQ => ?_ | refine fun (nb : Nat) => (?_ : WL _ _ _ _ _ _ _ _ _) | (refine WL.guard rfl rfl rfl (fun h => ?_) (fun h => ?_) <;> (try dsimp only at h)))
  apply WL.ex
  · exact rfl
  (refine WO.callN Tryz.func161 rfl (by kernel_rfl) rfl (by (exact tsA)) (fun G hG hh => top_any b l G _ ho) ?_; rintro v own' ⟨ht, rfl⟩)
  simp only [List.append_nil]
  rcases ht with ⟨x, hx, hm, rfl⟩ | ⟨rfl, rfl⟩
  · skip
    repeat' (first | ((refine WL.ex rfl (WO.callN Tryz.func214 rfl (by kernel_rfl) rfl (by (exact tsA)) (fun G hG hh => rem_any b l x.id G _ ho) ?_); rintro v own' ⟨rfl, ho'⟩)) | (first | refine soA ?_ | refine sgA ?_ | refine sxA ?_ | refine sbA ?_ | refine fun (Q : Post) hQ => ?_ | refine fun (nb : Nat) => (?_ : WL _ _ _ _ _ _ _ _ _) | (refine WL.guard rfl rfl rfl (fun h => ?_) (fun h => ?_) <;> (try dsimp only at h))))
    (refine seE ?_)
    exact ⟨_, keep_app _ _, .inl ⟨x, hx, hm, rfl, ho'⟩⟩
  · skip
    repeat' (first | refine soA ?_ | refine sgA ?_ | refine sxA ?_ | refine sbA ?_ | refine fun (Q : Post) hQ => ?_ | refine fun (nb : Nat) => (?_ : WL _ _ _ _ _ _ _ _ _) | (refine WL.guard rfl rfl rfl (fun h => ?_) (fun h => ?_) <;> (try dsimp only at h)))
    (refine seE ?_)
    exact ⟨_, keep_self _, .inr ⟨rfl, rfl, ho⟩⟩
end Go.Proofs.YtflgnpidelkkpaaGreat
namespace Go.Proofs.YtflgnpidelkkpaaGreat
set_option maxRecDepth 8000
set_option maxHeartbeats 1000000
set_option linter.unusedVariables false
set_option linter.unusedSimpArgs false
theorem HeapC.three {b : Nat} {l : List HI} {hs : List Hp} (h : HeapC b l hs) : ∃ p q r, hs = [p, q, r] := by
  obtain ⟨arr, ⟨A, c, m, ha, hm, e, _⟩, _⟩ := h
  exact ⟨_, _, _, e⟩
theorem nd_uniq {α β : Type} {f : α → β} : ∀ {l : List α}, (l.map f).Nodup → ∀ {a b : α}, a ∈ l → b ∈ l → f a = f b → a = b
  | [], _, _, _, h, _, _ => nomatch h
  | y :: t, h, a, b, ha, hb, e => by
    obtain ⟨h1, h2⟩ := List.nodup_cons.1 h
    rcases List.mem_cons.1 ha with rfl | ia <;> rcases List.mem_cons.1 hb with rfl | ib
    · rfl
    · exact absurd (List.mem_map.2 ⟨b, ib, e.symm⟩) h1
    · exact absurd (List.mem_map.2 ⟨a, ia, e⟩) h1
    · exact nd_uniq h2 ia ib e
end Go.Proofs.YtflgnpidelkkpaaGreat
namespace Go.Proofs.YtflgnpidelkkpaaGreat
set_option maxRecDepth 8000
set_option maxHeartbeats 1000000
set_option linter.unusedVariables false
set_option linter.unusedSimpArgs false
def toHT (x : TimerV) : HI := ⟨x.mom, x.id⟩
def offT (id : Int) (l : List TimerV) : List TimerV := l.filter fun x => x.id != id
def evD (l : List TimerV) : Int → Option Value := fun k => (l.find? fun x => x.id == k).map fun x => .int .i64 x.every
theorem offT_map (id : Int) (l : List TimerV) : off id (l.map toHT) = (offT id l).map toHT := by
  unfold off offT
  rw [List.filter_map]; rfl
theorem find_offT (id k : Int) (l : List TimerV) : (offT id l).find? (fun x => x.id == k) = if k = id then none else l.find? (fun x => x.id == k) := by
  unfold offT
  rw [List.find?_filter]
  by_cases h : k = id
  · subst h
    rw [if_pos rfl, List.find?_eq_none]
    intro x _; simp
  · rw [if_neg h]
    congr 1; funext x
    by_cases hx : x.id = k
    · simp [hx, h]
    · simp [hx]
theorem evD_off (id : Int) (l : List TimerV) : evD (offT id l) = upd (evD l) id none := by
  funext k
  unfold evD upd
  rw [find_offT]
  split <;> rfl
theorem evD_set (id mom every : Int) (l : List TimerV) : evD (offT id l ++ [⟨id, mom, every⟩]) = upd (evD l) id (some (.int .i64 every)) := by
  funext k
  unfold evD upd
  rw [List.find?_append, find_offT]
  by_cases h : k = id
  · subst h
    simp
  · have : id ≠ k := fun e => h e.symm
    simp [h, this]
def BdT (l : List TimerV) : Prop := ∀ x ∈ l, -1099511627776 ≤ x.mom ∧ x.mom ≤ 1099511627776
theorem BdT.off {l : List TimerV} (id : Int) (h : BdT l) : BdT (offT id l) := fun x hx => h x (List.mem_filter.1 hx).1
theorem BdT.set {l : List TimerV} {id mom every : Int} (h : BdT l) (h1 : -1099511627776 ≤ mom) (h2 : mom ≤ 1099511627776) : BdT (offT id l ++ [⟨id, mom, every⟩]) := fun x hx => by
  rcases List.mem_append.1 hx with hx | hx
  · exact h.off id x hx
  · rw [List.mem_singleton.1 hx]; exact ⟨h1, h2⟩
def TimC (b : Nat) (l : List TimerV) (hs : List Hp) : Prop := ∃ hb m hm p q r, hs = [one b (cells [.pointer (some ⟨hb, 0, none⟩), .map (some m)] 181), hm, p, q, r] ∧ HeapC hb (l.map toHT) [p, q, r] ∧ MapI (evD l) m hm ∧ BdT l
theorem TimC.nd {b : Nat} {l : List TimerV} {hs : List Hp} (h : TimC b l hs) : (l.map (·.id)).Nodup := by
  obtain ⟨hb, m, hm, p, q, r, _, h, _⟩ := h
  have := h.nd
  unfold Nd at this
  rw [List.map_map] at this
  exact this
theorem HeapC.setT {b : Nat} {l : List TimerV} {id mom every : Int} {hs : List Hp} (h : HeapC b ((⟨mom, id⟩ : HI) :: off id (l.map toHT)) hs) : HeapC b ((offT id l ++ [(⟨id, mom, every⟩ : TimerV)]).map toHT) hs := by
  refine h.perm ?_
  rw [offT_map, List.map_append, List.map_cons, List.map_nil]
  exact (List.perm_append_singleton _ _).symm
theorem evD_at {l : List TimerV} (h : (l.map (·.id)).Nodup) {x : TimerV} (hx : x ∈ l) : evD l x.id = some (.int .i64 x.every) := by
  unfold evD
  cases hf : l.find? (fun y => y.id == x.id) with
  | none => exact absurd (beq_self_eq_true x.id) (List.find?_eq_none.1 hf x hx)
  | some w =>
    have hw : w.id = x.id := by simpa using List.find?_some hf
    rw [nd_uniq h (List.mem_of_find?_eq_some hf) hx hw]; rfl
abbrev capV (mom : Int) : Int := if 1099511627776 < mom then 1099511627776 else mom
def laterV (mom every : Int) : Int := if every > 1099511627776 - mom then 1099511627776 else mom + every
attribute [local irreducible] W X WL WA WB WG WO Rn Own one splice Arr Spec WQ WH Qn
theorem tnew_any (F : Hp) : Spec Tryz.prog 76 [] F [] fun v hs => ∃ b, v = .pointer (some ⟨b, 0, none⟩) ∧ TimC b [] hs := by
  refine Spec.enter Tryz.func76 rfl Tryz.ntmps76 rfl fun B => ?_
  repeat' (first | ((refine WL.ex rfl (WO.callA Tryz.func123 rfl (by kernel_rfl) rfl (fun G hG => new_any G) ?_); rintro v own' ⟨b, rfl, h1⟩)) | ((refine WL.ex rfl (WO.makeMap ?_); intro m hm hmi)) | (first | refine soA ?_ | refine sgA ?_ | refine sxA ?_ | refine sbA ?_ | refine fun (Q : Post) hQ => ?_ | refine fun (nb : Nat) => (?_ : WL _ _ _ _ _ _ _ _ _) | (refine WL.guard rfl rfl rfl (fun h => ?_) (fun h => ?_) <;> (try dsimp only at h))))
  obtain ⟨p, q, r, rfl⟩ := h1.three
  (refine seE ?_)
  exact ⟨[one nb (cells [.pointer (some ⟨b, 0, none⟩), .map (some m)] 181), hm, p, q, r], (by (exact keA)), nb, rfl, b, m, hm, p, q, r, rfl, h1, hmi, fun x hx => nomatch hx⟩
theorem later_any (mom every : Int) (h1 : -1099511627776 ≤ mom) (h2 : mom ≤ 1099511627776) (h3 : 0 < every) (F : Hp) : Spec Tryz.prog 164 [.int .i64 mom, .int .i64 every] F [] fun v hs => v = .int .i64 (laterV mom every) ∧ hs = [] := by
  refine Spec.enter Tryz.func164 rfl Tryz.ntmps164 rfl fun B => ?_
  repeat' (first | refine soA ?_ | refine sgA ?_ | refine sxA ?_ | refine sbA ?_ | refine fun (Q : Post) hQ => ?_ | refine fun (nb : Nat) => (?_ : WL _ _ _ _ _ _ _ _ _) | (refine WL.guard rfl rfl rfl (fun h => ?_) (fun h => ?_) <;> (try dsimp only at h)))
  refine W.cond rfl (fun h => ?_) (fun h => ?_) <;> (try simp only [beq_iff_eq, bne_iff_ne, decide_eq_true_eq, decide_eq_false_iff_not, beq_eq_false_iff_ne, bne_eq_false_iff_eq, Bool.not_true, Bool.not_false, ne_eq, Int.not_lt, Int.not_le, Bool.not_eq_true', Bool.not_eq_false', Bool.not_eq_eq_eq_not] at h)
  · skip
    repeat' (first | refine soA ?_ | refine sgA ?_ | refine sxA ?_ | refine sbA ?_ | refine fun (Q : Post) hQ => ?_ | refine fun (nb : Nat) => (?_ : WL _ _ _ _ _ _ _ _ _) | (refine WL.guard rfl rfl rfl (fun h => ?_) (fun h => ?_) <;> (try dsimp only at h)))
    ((refine seE ?_); refine ⟨[], Keep.nil, ?_⟩)
    exact ⟨by unfold laterV; rw [if_pos h], rfl⟩
  · skip
    repeat' (first | refine soA ?_ | refine sgA ?_ | refine sxA ?_ | refine sbA ?_ | refine fun (Q : Post) hQ => ?_ | refine fun (nb : Nat) => (?_ : WL _ _ _ _ _ _ _ _ _) | (refine WL.guard rfl rfl rfl (fun h => ?_) (fun h => ?_) <;> (try dsimp only at h)))
    ((refine seE ?_); refine ⟨[], Keep.nil, ?_⟩)
    exact ⟨by unfold laterV; rw [if_neg (by omega)], rfl⟩
theorem tset_any (b : Nat) (l : List TimerV) (id mom every : Int) (h1 : -1099511627776 ≤ mom) (hl : l.length < 8796093022208) (F : Hp) (hs : List Hp) (ho : TimC b l hs) : Spec Tryz.prog 160 [.pointer (some ⟨b, 0, none⟩), .int .i64 id, .int .i64 mom, .int .i64 every] F hs fun v hs' => v = .tuple #[] ∧ TimC b (offT id l ++ [⟨id, capV mom, every⟩]) hs' := by
  obtain ⟨hb, m, hm, p, q, r, rfl, hc, hmi, hbd⟩ := ho
  refine Spec.enter Tryz.func160 rfl Tryz.ntmps160 rfl fun B => ?_
  repeat' (first | ((refine WL.ex rfl (WO.callN Tryz.func163 rfl (by kernel_rfl) rfl (own := [p, q, r]) (by (exact tsA)) (fun G hG hh => push_any hb _ id (capV mom) G _ hc (by rw [List.length_map]; exact hl)) ?_); rintro v own' ⟨rfl, hc1⟩; obtain ⟨p1, q1, r1, rfl⟩ := hc1.three)) | ((apply WL.ex0; (apply WO.mapUpdate (h := hm); (exact rfl); (exact rfl); (exact rfl); (exact tkA); (exact hmi); intro hm' hmi'))) | (first | refine soA ?_ | refine sgA ?_ | refine sxA ?_ | refine sbA ?_ | refine fun (Q : Post) hQ => ?_ | refine fun (nb : Nat) => (?_ : WL _ _ _ _ _ _ _ _ _) | (refine WL.guard rfl rfl rfl (fun h => ?_) (fun h => ?_) <;> (try dsimp only at h))))
  (refine seE ?_)
  refine ⟨[one b (cells [.pointer (some ⟨hb, 0, none⟩), .map (some m)] 181), hm', p1, q1, r1], (by (exact keA)), rfl, hb, m, hm', p1, q1, r1, rfl, hc1.setT, ?_, hbd.set (by unfold capV; split <;> omega) (by unfold capV; split <;> omega)⟩
  rw [evD_set]; exact hmi'
theorem tcancel_any (b : Nat) (l : List TimerV) (id : Int) (F : Hp) (hs : List Hp) (ho : TimC b l hs) : Spec Tryz.prog 159 [.pointer (some ⟨b, 0, none⟩), .int .i64 id] F hs fun v hs' => v = .bool (l.any fun x => x.id == id) ∧ TimC b (offT id l) hs' := by
  obtain ⟨hb, m, hm, p, q, r, rfl, hc, hmi, hbd⟩ := ho
  refine Spec.enter Tryz.func159 rfl Tryz.ntmps159 rfl fun B => ?_
  repeat' (first | ((apply WL.ex0; (apply WO.delete (t := 177) (h := hm); (exact rfl); (exact rfl); (exact rfl); (exact tkA); (exact hmi); intro hm' hmi'))) | ((refine WL.ex rfl (WO.callN Tryz.func214 rfl (by kernel_rfl) rfl (own := [p, q, r]) (by (exact tsA)) (fun G hG hh => rem_any hb _ id G _ hc) ?_); rintro v own' ⟨rfl, hc1⟩; obtain ⟨p1, q1, r1, rfl⟩ := hc1.three)) | (first | refine soA ?_ | refine sgA ?_ | refine sxA ?_ | refine sbA ?_ | refine fun (Q : Post) hQ => ?_ | refine fun (nb : Nat) => (?_ : WL _ _ _ _ _ _ _ _ _) | (refine WL.guard rfl rfl rfl (fun h => ?_) (fun h => ?_) <;> (try dsimp only at h))))
  (refine seE ?_)
  refine ⟨[one b (cells [.pointer (some ⟨hb, 0, none⟩), .map (some m)] 181), hm', p1, q1, r1], (by (exact keA)), (by rw [List.any_map]; rfl), hb, m, hm', p1, q1, r1, rfl, offT_map id l ▸ hc1, ?_, hbd.off id⟩
  rw [evD_off]; exact hmi'
end Go.Proofs.YtflgnpidelkkpaaGreat
namespace Go.Proofs.YtflgnpidelkkpaaGreat
set_option maxRecDepth 8000
set_option maxHeartbeats 1000000
set_option linter.unusedVariables false
set_option linter.unusedSimpArgs false
attribute [local irreducible] W X WL WA WB WG WO Rn Own one splice Arr Spec WQ WH Qn
def FirstT (l : List TimerV) (x : TimerV) : Prop := x ∈ l ∧ ∀ y ∈ l, ahead (toHT y) (toHT x) = false
theorem FirstT.uniq {l : List TimerV} (nd : (l.map (·.id)).Nodup) {x y : TimerV} (h : FirstT l x) (k : FirstT l y) : x = y := by
  have e := ahead_tot (h.2 y k.1) (k.2 x h.1)
  exact nd_uniq nd h.1 k.1 (congrArg HI.id e).symm
def nextT (x : TimerV) (l : List TimerV) : List TimerV := if 0 < x.every then offT x.id l ++ [⟨x.id, laterV x.mom x.every, x.every⟩] else offT x.id l
end Go.Proofs.YtflgnpidelkkpaaGreat
namespace Go.Proofs.YtflgnpidelkkpaaGreat
set_option maxRecDepth 8000
set_option maxHeartbeats 1000000
set_option linter.unusedVariables false
set_option linter.unusedSimpArgs false
attribute [local irreducible] W X WL WA WB WG WO Rn Own one splice Arr Spec WQ WH Qn
theorem firstT_of {l : List TimerV} {x : HI} (hx : x ∈ l.map toHT) (hm : ∀ y ∈ l.map toHT, ahead y x = false) : ∃ z, FirstT l z ∧ x = toHT z := by
  obtain ⟨z, hz, rfl⟩ := List.mem_map.1 hx
  exact ⟨z, ⟨hz, fun y hy => hm _ (List.mem_map.2 ⟨y, hy, rfl⟩)⟩, rfl⟩
theorem notdue {l : List TimerV} {z : TimerV} {now : Int} (h : FirstT l z) (hn : now < z.mom) : ∀ x ∈ l, now < x.mom := fun x hx => by
  have h2 := h.2 x hx
  rw [ahead_false] at h2
  have h2 : ¬ (x.mom < z.mom ∨ (x.mom = z.mom ∧ x.id < z.id)) := h2
  omega
theorem evD_same {l : List TimerV} {k : Int} {v : Value} (h : evD l k = some v) : upd (evD l) k (some v) = evD l := by
  funext q; unfold upd; split
  · next e => rw [e, h]
  · rfl
theorem BdT.next {l : List TimerV} {z : TimerV} (h : BdT l) (hz : z ∈ l) : BdT (nextT z l) := by
  have hb := h z hz
  unfold nextT
  split
  · exact h.set (by unfold laterV; split <;> omega) (by unfold laterV; split <;> omega)
  · exact h.off z.id
set_option maxHeartbeats 4000000 in
theorem tdue_any (b : Nat) (l : List TimerV) (now : Int) (hl : l.length < 8796093022208) (F : Hp) (hs : List Hp) (ho : TimC b l hs) : Spec Tryz.prog 103 [.pointer (some ⟨b, 0, none⟩), .int .i64 now] F hs fun v hs' => (∃ x, FirstT l x ∧ x.mom ≤ now ∧ v = .tuple #[.int .i64 x.id, .int .i64 x.mom, .bool true] ∧ TimC b (nextT x l) hs') ∨ ((∀ x ∈ l, now < x.mom) ∧ v = .tuple #[.int .i64 0, .int .i64 0, .bool false] ∧ hs' = hs) := by
  have hnd := ho.nd
  have ho' := ho
  obtain ⟨hb, m, hm, p, q, r, rfl, hc, hmi, hbd⟩ := ho
  refine Spec.enter Tryz.func103 rfl Tryz.ntmps103 rfl fun B => ?_
  repeat' (first | refine soA ?_ | refine sgA ?_ | refine sxA ?_ | refine sbA ?_ | refine fun (Q : Post) hQ => ?_ | refine fun (nb : Nat) => (?_ : WL _ _ _ _ _ _ _ _ _) | (refine WL.guard rfl rfl rfl (fun h => ?_) (fun h => ?_) <;> (try dsimp only at h)))
  apply WL.ex
  · exact rfl
  refine WO.callN Tryz.func161 rfl (by kernel_rfl) rfl (own := [p, q, r]) (by (exact tsA)) (fun G hG hh => top_any hb _ G _ hc) ?_
  rintro v own' ⟨ht, rfl⟩
  rcases ht with ⟨x, hx, hxm, rfl⟩ | ⟨he, rfl⟩
  · obtain ⟨z, hz, rfl⟩ := firstT_of hx hxm
    by_cases c1 : now < z.mom
    · skip
      repeat' (first | ((apply WL.rd; (exact rfl); (exact Rn.cmp (b := true) rfl rfl (congrArg some (decide_eq_true c1))))) | (first | refine soA ?_ | refine sgA ?_ | refine sxA ?_ | refine sbA ?_ | refine fun (Q : Post) hQ => ?_ | refine fun (nb : Nat) => (?_ : WL _ _ _ _ _ _ _ _ _) | (refine WL.guard rfl rfl rfl (fun h => ?_) (fun h => ?_) <;> (try dsimp only at h))))
      (refine seE ?_)
      exact ⟨_, (by (exact keA)), .inr ⟨notdue hz c1, rfl, rfl⟩⟩
    · have hzb := hbd z hz.1
      have hev : evD l (toHT z).id = some (.int .i64 z.every) := evD_at hnd hz.1
      repeat' (first | ((apply WL.rd; (exact rfl); (exact Rn.cmp (b := false) rfl rfl (congrArg some (decide_eq_false c1))))) | ((apply WL.rd; (exact rfl); (exact Rn.lookupS (t := 177) (h := hm) rfl rfl (by simp) hmi hev))) | (first | refine soA ?_ | refine sgA ?_ | refine sxA ?_ | refine sbA ?_ | refine fun (Q : Post) hQ => ?_ | refine fun (nb : Nat) => (?_ : WL _ _ _ _ _ _ _ _ _) | (refine WL.guard rfl rfl rfl (fun h => ?_) (fun h => ?_) <;> (try dsimp only at h))))
      refine W.cond rfl (fun h3 => ?_) (fun h3 => ?_)
      · have h3 : 0 < z.every := by simpa using h3
        repeat' (first | refine soA ?_ | refine sgA ?_ | refine sxA ?_ | refine sbA ?_ | refine fun (Q : Post) hQ => ?_ | refine fun (nb : Nat) => (?_ : WL _ _ _ _ _ _ _ _ _) | (refine WL.guard rfl rfl rfl (fun h => ?_) (fun h => ?_) <;> (try dsimp only at h)))
        refine dra [(0, [])] [] ?_
        refine drp 9 0 1 ?_
        refine drp 9 1 3 ?_
        refine drp 9 2 7 ?_
        refine drl 9 3 0 15 ?_
        refine drp 9 4 31 ?_
        refine drp 9 5 63 ?_
        refine drp 9 6 127 ?_
        refine dr1 7 ?_
        refine dre 9 7 255 ?_
        (refine WO.callN Tryz.func164 rfl (by kernel_rfl) rfl Takes.nil (fun G hG hh => later_any z.mom z.every hzb.1 hzb.2 h3 G) ?_; rintro v own' ⟨rfl, rfl⟩)
        refine ⟨piA, ?_⟩
        refine dr1 8 ?_
        refine dre 9 8 511 ?_
        (refine WO.callN Tryz.func163 rfl (by kernel_rfl) rfl (own := [p, q, r]) (by (exact tsA)) (fun G hG hh => push_any hb _ z.id (laterV z.mom z.every) G _ hc (by rw [List.length_map]; exact hl)) ?_; rintro v own' ⟨rfl, hc1⟩; obtain ⟨p1, q1, r1, rfl⟩ := hc1.three)
        refine ⟨piA, ?_⟩
        refine drz ?_
        repeat' (first | refine soA ?_ | refine sgA ?_ | refine sxA ?_ | refine sbA ?_ | refine fun (Q : Post) hQ => ?_ | refine fun (nb : Nat) => (?_ : WL _ _ _ _ _ _ _ _ _) | (refine WL.guard rfl rfl rfl (fun h => ?_) (fun h => ?_) <;> (try dsimp only at h)))
        (refine seE ?_)
        refine ⟨[one b (cells [.pointer (some ⟨hb, 0, none⟩), .map (some m)] 181), hm, p1, q1, r1], (by (exact keA)), .inl ⟨z, hz, by omega, rfl, ?_⟩⟩
        refine ⟨hb, m, hm, p1, q1, r1, rfl, ?_, ?_, hbd.next hz.1⟩
        · unfold nextT; rw [if_pos h3]; exact hc1.setT
        · unfold nextT; rw [if_pos h3, evD_set, evD_same (evD_at hnd hz.1)]; exact hmi
      · have h3 : z.every ≤ 0 := by simpa using h3
        repeat' (first | ((refine WL.ex rfl (WO.callN Tryz.func159 rfl (by kernel_rfl) rfl (own := [one b (cells [.pointer (some ⟨hb, 0, none⟩), .map (some m)] 181), hm, p, q, r]) (by (exact tsA)) (fun G hG hh => tcancel_any b l z.id G _ ho') ?_); rintro v own' ⟨rfl, hc1⟩)) | (first | refine soA ?_ | refine sgA ?_ | refine sxA ?_ | refine sbA ?_ | refine fun (Q : Post) hQ => ?_ | refine fun (nb : Nat) => (?_ : WL _ _ _ _ _ _ _ _ _) | (refine WL.guard rfl rfl rfl (fun h => ?_) (fun h => ?_) <;> (try dsimp only at h))))
        (refine seE ?_)
        refine ⟨own', (by first | exact keep_app _ _ | (exact keA)), .inl ⟨z, hz, by omega, rfl, ?_⟩⟩
        unfold nextT; rw [if_neg (by omega)]; exact hc1
  · skip
    repeat' (first | refine soA ?_ | refine sgA ?_ | refine sxA ?_ | refine sbA ?_ | refine fun (Q : Post) hQ => ?_ | refine fun (nb : Nat) => (?_ : WL _ _ _ _ _ _ _ _ _) | (refine WL.guard rfl rfl rfl (fun h => ?_) (fun h => ?_) <;> (try dsimp only at h)))
    (refine seE ?_)
    refine ⟨_, (by (exact keA)), .inr ⟨?_, rfl, rfl⟩⟩
    rw [List.map_eq_nil_iff] at he; subst he; exact fun x hx => nomatch hx
end Go.Proofs.YtflgnpidelkkpaaGreat
