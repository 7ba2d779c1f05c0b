/- part 21 of the proof: contracts of the functions that the law reaches, and plain laws. -/
import Derived.Test.YtflgnpidelkkpaaGreatMq7
import Derived.Test.YtflgnpidelkkpaaGreatMq20
import Derived.Test.YtflgnpidelkkpaaGreatMq1
import Derived.Test.YtflgnpidelkkpaaGreatMq8
import Derived.Test.YtflgnpidelkkpaaGreatMq9
import Derived.Test.YtflgnpidelkkpaaGreatMq16
namespace Go.Proofs.YtflgnpidelkkpaaGreat
set_option maxRecDepth 8000
set_option maxHeartbeats 1000000
set_option linter.unusedVariables false
set_option linter.unusedSimpArgs false
abbrev ArrN (xs : List Int) (A : Option Addr) (c : Nat) (h : Hp) : Prop := Arr 3 1 xs.length (xs.flatMap encI) A c h
theorem intsOneE (xs : List Int) : (xs.flatMap encI).all (·.oneCell') = true := by
  rw [List.all_flatMap, List.all_eq_true]; intro x _; rfl
theorem rowNoneI {F : Hp} {xs : List Int} (h : RowAt F [] none (xs.flatMap encI)) : xs = [] := by
  cases xs with
  | nil => rfl
  | cons x t => obtain ⟨b, o, e, _⟩ := h 0 _ rfl; cases e
attribute [local irreducible] W X WL WA WB WG WO Rn Own one splice Arr Spec WQ WH Qn
set_option maxHeartbeats 1000000 in
theorem cloneI_any (A0 : Option Addr) (c0 : Nat) (xs : List Int) (F : Hp) (h0 : RowAt F [] A0 (xs.flatMap encI)) (hfit : xs.length * 8 ≤ 140737488355328) :
    Spec Tryz.prog 90 [.slice A0 xs.length c0] F [] fun v hs => ∃ A c h, v = .slice A xs.length c ∧ hs = [h] ∧ ArrN xs A c h := by
  have hl := flat_len encI 1 encI_len xs
  refine Spec.enter Tryz.func90 rfl Tryz.ntmps90 rfl fun B => ?_
  cases A0 with
  | none =>
    obtain rfl := rowNoneI h0
    repeat' (first | refine soA ?_ | refine sgA ?_ | refine sxA ?_ | refine sbA ?_ | refine fun (Q : Post) hQ => ?_ | refine fun (nb : Nat) => (?_ : WL _ _ _ _ _ _ _ _ _) | (refine WL.guard rfl rfl rfl (fun h => ?_) (fun h => ?_) <;> (try dsimp only at h)))
    refine X.pad ?_
    (refine seE ?_)
    exact ⟨[Hp.none], (by (exact keA)), none, 0, Hp.none, rfl, rfl, Arr.nil _ _⟩
  | some ad =>
    have h1 := intsOneE xs
    repeat' (first | ((apply WL.ex; (exact rfl); (apply WO.append0 (news := xs.flatMap encI) (m := xs.length); (exact rfl); (exact rfl); (exact tkA); (exact rfl); (decide); (exact hl); (exact h0.weak (by simp)); (exact h1); (omega); (omega); intro A' c' h' hap))) | (first | refine soA ?_ | refine sgA ?_ | refine sxA ?_ | refine sbA ?_ | refine fun (Q : Post) hQ => ?_ | refine fun (nb : Nat) => (?_ : WL _ _ _ _ _ _ _ _ _) | (refine WL.guard rfl rfl rfl (fun h => ?_) (fun h => ?_) <;> (try dsimp only at h))))
    (refine seE ?_)
    exact ⟨[h'], (by (exact keA)), A', c', h', rfl, rfl, hap⟩
theorem clipI_any (A0 : Option Addr) (c0 n : Nat) (F : Hp) (hn : n ≤ c0) : Spec Tryz.prog 89 [.slice A0 n c0] F [] fun v hs => v = .slice A0 n n ∧ hs = [] := by
  refine Spec.enter Tryz.func89 rfl Tryz.ntmps89 rfl fun B => ?_
  repeat' (first | ((apply WL.rd; (exact rfl); (exact Rn.sliceClip n n rfl rfl rfl rfl rfl (Nat.le_refl _) hn))) | (first | refine soA ?_ | refine sgA ?_ | refine sxA ?_ | refine sbA ?_ | refine fun (Q : Post) hQ => ?_ | refine fun (nb : Nat) => (?_ : WL _ _ _ _ _ _ _ _ _) | (refine WL.guard rfl rfl rfl (fun h => ?_) (fun h => ?_) <;> (try dsimp only at h))))
  ((refine seE ?_); refine ⟨[], Keep.nil, ?_⟩)
  exact ⟨rfl, rfl⟩
def encO (per cy : Int) (A1 A2 : Option Addr) (n m : Nat) : List Value := [.int .i64 per, .int .i64 cy, .slice A1 n n, .slice A2 m m]
set_option maxHeartbeats 4000000 in
theorem ownE_any (t : TaskV) (F : Hp) (h1 : RowAt F [] t.sec.A (t.sec.xs.flatMap encI)) (h2 : RowAt F [] t.devs.A (t.devs.xs.flatMap encI)) (f1 : t.sec.xs.length * 8 ≤ 140737488355328) (f2 : t.devs.xs.length * 8 ≤ 140737488355328) :
    Spec Tryz.prog 86 [.agg t.enc.toArray] F [] fun v hs => ∃ A1 c1 k1 A2 c2 k2, v = .agg (encO t.period t.cycles A1 A2 t.sec.xs.length t.devs.xs.length).toArray ∧ hs = [k1, k2] ∧ ArrN t.sec.xs A1 c1 k1 ∧ ArrN t.devs.xs A2 c2 k2 := by
  refine Spec.enter Tryz.func86 rfl Tryz.ntmps86 rfl fun B => ?_
  repeat' (first | refine soA ?_ | refine sgA ?_ | refine sxA ?_ | refine sbA ?_ | refine fun (Q : Post) hQ => ?_ | refine fun (nb : Nat) => (?_ : WL _ _ _ _ _ _ _ _ _) | (refine WL.guard rfl rfl rfl (fun h => ?_) (fun h => ?_) <;> (try dsimp only at h)))
  refine dra [(1, [9, 11])] [] ?_
  refine drp 12 0 1 ?_
  refine drl 12 1 0 3 ?_
  refine drp 12 4 19 ?_
  refine drl 12 5 0 51 ?_
  refine dr1 2 ?_
  refine dre 12 2 55 ?_
  (refine WO.callN Tryz.func90 rfl (by kernel_rfl) rfl Takes.nil (fun G hG hh => cloneI_any _ _ t.sec.xs G (h1.up hG (by simp)) f1) ?_; rintro v own' ⟨A1, c1, k1, rfl, rfl, ha1⟩)
  refine ⟨piA, ?_⟩
  refine dr1 3 ?_
  refine dre 12 3 63 ?_
  (refine WO.callN Tryz.func89 rfl (by kernel_rfl) rfl Takes.nil (fun G hG hh => clipI_any A1 c1 t.sec.xs.length G ha1.le) ?_; rintro v own' ⟨rfl, rfl⟩)
  refine ⟨piA, ?_⟩
  refine drp 12 8 319 ?_
  refine dr1 6 ?_
  refine dre 12 6 383 ?_
  (refine WO.callN Tryz.func90 rfl (by kernel_rfl) rfl Takes.nil (fun G hG hh => cloneI_any _ _ t.devs.xs G (h2.up hG (by simp)) f2) ?_; rintro v own' ⟨A2, c2, k2, rfl, rfl, ha2⟩)
  refine ⟨piA, ?_⟩
  refine dr1 7 ?_
  refine dre 12 7 511 ?_
  (refine WO.callN Tryz.func89 rfl (by kernel_rfl) rfl Takes.nil (fun G hG hh => clipI_any A2 c2 t.devs.xs.length G ha2.le) ?_; rintro v own' ⟨rfl, rfl⟩)
  refine ⟨piA, ?_⟩
  refine dr1 9 ?_
  refine drf 12 9 1023 ?_
  (refine swA ?_)
  refine ⟨piA, ?_⟩
  refine drp 12 10 2047 ?_
  refine dr1 11 ?_
  refine drf 12 11 4095 ?_
  (refine swA ?_)
  refine ⟨piA, ?_⟩
  refine drz ?_
  repeat' (first | refine soA ?_ | refine sgA ?_ | refine sxA ?_ | refine sbA ?_ | refine fun (Q : Post) hQ => ?_ | refine fun (nb : Nat) => (?_ : WL _ _ _ _ _ _ _ _ _) | (refine WL.guard rfl rfl rfl (fun h => ?_) (fun h => ?_) <;> (try dsimp only at h)))
  (refine seE ?_)
  exact ⟨[k1, k2], (by (exact keA)), A1, c1, k1, A2, c2, k2, rfl, rfl, ha1, ha2⟩
end Go.Proofs.YtflgnpidelkkpaaGreat
namespace Go.Proofs.YtflgnpidelkkpaaGreat
set_option maxRecDepth 8000
set_option maxHeartbeats 1000000
set_option linter.unusedVariables false
set_option linter.unusedSimpArgs false
theorem del_cells (T X D sp Z : List Value) (h : X.length = Z.length) : splice (splice (T ++ X ++ D ++ sp) T.length D) (T.length + D.length) Z = T ++ D ++ (Z ++ sp) := by
  have e1 : splice (T ++ X ++ D ++ sp) T.length D = T ++ D ++ (X ++ D ++ sp).drop D.length := by
    unfold splice
    rw [show T ++ X ++ D ++ sp = T ++ (X ++ D ++ sp) by simp, List.take_left, List.drop_append, List.drop_eq_nil_of_le (by omega), List.nil_append]
    congr 2; omega
  rw [e1]
  unfold splice
  rw [← List.length_append, List.take_left, List.drop_append, List.drop_eq_nil_of_le (by omega), List.nil_append, List.drop_drop]
  have e2 : (X ++ D ++ sp).drop (D.length + ((T ++ D).length + Z.length - (T ++ D).length)) = sp := by
    rw [List.drop_append, List.drop_eq_nil_of_le (by simp; omega), List.nil_append]
    have : D.length + ((T ++ D).length + Z.length - (T ++ D).length) - (X ++ D).length = 0 := by simp; omega
    rw [this]; rfl
  rw [e2, List.append_assoc]
theorem split3 {l : List HeldV} {m : Nat} {x : HeldV} (h : l[m]? = some x) : l = l.take m ++ x :: l.drop (m + 1) := by
  have hlt : m < l.length := (List.getElem?_eq_some_iff.1 h).1
  have e1 := List.drop_eq_getElem_cons hlt
  have e2 : l[m] = x := (List.getElem?_eq_some_iff.1 h).2
  rw [e2] at e1
  rw [← e1, List.take_append_drop]
theorem Rn.sliceLHp {P : Program} {F : Hp} {hs : List Hp} {env : Env} {ty : TypeId} {t e sz by' m c b o : Nat} {x y y' : Operand} {k k' : IntKind} {i i' : Int} (j j' : Nat) (hne : c ≠ j) [hu : UT P t (.slice e)] [hz : SZ P e sz by'] (hx : ev env x = some (.slice (some ⟨b, o, none⟩) m c)) (hy : ev env y = some (.int k i)) (hy' : ev env y' = some (.int k' i')) (hi : i = (j : Int)) (hi' : i' = (j' : Int)) (hj : j ≤ j') (hj' : j' ≤ c) :
    Rn P F hs (.slice t x (some y) (some y') none) ty env (.slice (some ⟨b, o + j * sz, none⟩) (j' - j) (c - j)) := by
  have h := Rn.sliceLH (P := P) (F := F) (hs := hs) (ty := ty) (t := t) j j' hx hy hy' hi hi' hj hj'
  rwa [if_neg hne] at h
attribute [local irreducible] W X WL WA WB WG WO Rn Own one splice Arr Spec WQ WH Qn
set_option maxHeartbeats 4000000 in
theorem delete_any (A0 : Option Addr) (c0 m : Nat) (l : List HeldV) (x : HeldV) (hx : l[m]? = some x) (h : Hp) (F : Hp) (ha : ArrL l A0 c0 h) (hfit : l.length * 24 ≤ 140737488355328) :
    Spec Tryz.prog 211 [.slice A0 l.length c0, .int .i64 (m : Nat), .int .i64 ((m : Nat) + 1)] F [h] fun v hs => ∃ h', v = .slice A0 (l.take m ++ l.drop (m + 1)).length c0 ∧ hs = [h'] ∧ ArrL (l.take m ++ l.drop (m + 1)) A0 c0 h' := by
  have hlt : m < l.length := (List.getElem?_eq_some_iff.1 hx).1
  obtain ⟨g, sp, rfl, rfl, hlen, hle, hmax⟩ := ha.some (by omega)
  have hl1 : (l.take m).length = m := by rw [List.length_take]; omega
  have hl2 : (l.drop (m + 1)).length = l.length - (m + 1) := List.length_drop ..
  have hl3 : (l.take m ++ l.drop (m + 1)).length = l.length - 1 := by rw [List.length_append, hl1, hl2]; omega
  have hf0 := flat_len HeldV.enc 3 HeldV.enc_len l
  have hf1 : ((l.take m).flatMap HeldV.enc).length = m * 3 := by rw [flat_len HeldV.enc 3 HeldV.enc_len, hl1]
  have hf2 : ((l.drop (m + 1)).flatMap HeldV.enc).length = (l.length - (m + 1)) * 3 := by rw [flat_len HeldV.enc 3 HeldV.enc_len, hl2]
  have hcs : l.flatMap HeldV.enc = (l.take m).flatMap HeldV.enc ++ x.enc ++ (l.drop (m + 1)).flatMap HeldV.enc := by
    have := congrArg (List.flatMap HeldV.enc) (split3 hx)
    rw [List.flatMap_append, List.flatMap_cons] at this
    rw [this]; simp
  have hd := del_cells ((l.take m).flatMap HeldV.enc) x.enc ((l.drop (m + 1)).flatMap HeldV.enc) sp [.int .i64 0, .int .i64 0, .int .i64 0] rfl
  rw [← hcs, hf1, hf2] at hd
  have hlenL : (l.flatMap HeldV.enc ++ sp).length = l.length * 3 + sp.length := by rw [List.length_append, hf0]
  have hrow : RowAt F [one g (cells (l.flatMap HeldV.enc ++ sp) 144)] (some ⟨g, 0 + (m + 1) * 3, none⟩) ((l.drop (m + 1)).flatMap HeldV.enc) := fun j v ej => by
    refine ⟨g, _, rfl, CellAt.mk At.one ?_⟩
    rw [hcs, List.append_assoc, List.append_assoc, List.getElem?_append_right (by rw [hf1]; omega), List.getElem?_append_right (by rw [hf1]; show 3 ≤ _; omega), hf1, List.getElem?_append_left (by have := (List.getElem?_eq_some_iff.1 ej).1; show _ - 3 < _; omega)]
    rw [← ej]; congr 1; show _ - 3 = _; omega
  have hone := heldsOne (l.drop (m + 1))
  generalize hL : l.flatMap HeldV.enc ++ sp = L at *
  have hs1 : (splice L (0 + m * 3) ((l.drop (m + 1)).flatMap HeldV.enc)).length = L.length := splice_len _ _ _ (by rw [hf2]; omega)
  generalize hD : (l.drop (m + 1)).flatMap HeldV.enc = D at *
  refine Spec.enter Tryz.func211 rfl Tryz.ntmps211 rfl fun B => ?_
  repeat' (first | ((apply WL.rd; (exact rfl); (exact Rn.sliceLHM m (m + 1) l.length rfl rfl rfl rfl rfl rfl rfl (by omega) (by omega) hle))) | ((apply WL.rd; (exact rfl); (exact Rn.cmp (b := false) rfl rfl (congrArg some (beq_eq_false_iff_ne.2 (by omega)))))) | (first | refine soA ?_ | refine sgA ?_ | refine sxA ?_ | refine sbA ?_ | refine fun (Q : Post) hQ => ?_ | refine fun (nb : Nat) => (?_ : WL _ _ _ _ _ _ _ _ _) | (refine WL.guard rfl rfl rfl (fun h => ?_) (fun h => ?_) <;> (try dsimp only at h))))
  have hrow' : RowAt F [one g (cells L 144)] (some ⟨g, if c0 = m + 1 then 0 else 0 + (m + 1) * 3, none⟩) D := by
    by_cases e : c0 = m + 1
    · have : D = [] := List.eq_nil_of_length_eq_zero (by rw [hf2]; omega)
      rw [this]; exact RowAt.nil
    · rw [if_neg e]; exact hrow
  have hN : m + (l.length - (m + 1)) = l.length - 1 := by omega
  have e1 : l.length - (l.length - 1) = 1 := by omega
  refine dra [] [] ?_
  refine drp 8 0 1 ?_
  refine drp 8 1 3 ?_
  refine drp 8 2 7 (hy := by (exact Rn.sliceTo m rfl rfl rfl (by omega))) ?_
  refine drp 8 3 15 ?_
  refine drp 8 4 31 ?_
  refine drp 8 5 63 (hy := by (exact Rn.sliceFrom (m + 1) rfl rfl rfl (by omega))) ?_
  refine dr1 6 ?_
  refine dre 8 6 127 ?_
  (apply WO.appendIn (l := L) (cs := D) (b := g) (o := 0) (nn := m) (m := l.length - (m + 1)); (exact rfl); (exact rfl); (omega); (exact hf2); (exact hrow'.weak (by simp)); (exact hone); (exact rpA); (omega))
  refine ⟨piA, ?_⟩
  refine drp 8 7 255 ?_
  refine drz ?_
  rw [hN]
  repeat' (first | ((apply WL.rd; (exact rfl); (exact Rn.sliceLHp (l.length - 1) l.length (by omega) rfl rfl rfl rfl rfl (by omega) hle))) | (first | refine soA ?_ | refine sgA ?_ | refine sxA ?_ | refine sbA ?_ | refine fun (Q : Post) hQ => ?_ | refine fun (nb : Nat) => (?_ : WL _ _ _ _ _ _ _ _ _) | (refine WL.guard rfl rfl rfl (fun h => ?_) (fun h => ?_) <;> (try dsimp only at h))))
  rw [e1]
  repeat' (first | ((apply WL.ex0; (apply WO.clearS (l := splice L (0 + m * 3) D) (b := g) (o := 0 + (l.length - 1) * 3) (zl := [.int .i64 0, .int .i64 0, .int .i64 0]); (exact rfl); (exact rfl); (exact rpA); (show _ + 1 * 3 ≤ _; omega)))) | (first | refine soA ?_ | refine sgA ?_ | refine sxA ?_ | refine sbA ?_ | refine fun (Q : Post) hQ => ?_ | refine fun (nb : Nat) => (?_ : WL _ _ _ _ _ _ _ _ _) | (refine WL.guard rfl rfl rfl (fun h => ?_) (fun h => ?_) <;> (try dsimp only at h))))
  (refine seE ?_)
  refine ⟨_, (by (exact keA)), _, by rw [hl3], rfl, ?_⟩
  have e3 : 0 + (l.length - 1) * 3 = m * 3 + (l.length - (m + 1)) * 3 := by omega
  rw [e3, Nat.zero_add]
  show ArrL _ _ _ (one g (cells (splice (splice L (m * 3) D) (m * 3 + (l.length - (m + 1)) * 3) [.int .i64 0, .int .i64 0, .int .i64 0]) 144))
  rw [hd]
  have e4 : (l.take m ++ l.drop (m + 1)).flatMap HeldV.enc = (l.take m).flatMap HeldV.enc ++ D := by rw [List.flatMap_append, hD]
  rw [← e4]
  have e5 : ((l.take m ++ l.drop (m + 1)).flatMap HeldV.enc).length = (l.take m ++ l.drop (m + 1)).length * 3 := flat_len HeldV.enc 3 HeldV.enc_len _
  exact Arr.mk e5 (by rw [List.length_append, e5, hl3]; simp; rw [← hL] at hlen; rw [List.length_append, hf0] at hlen; omega) (by rw [hl3]; omega) hmax
end Go.Proofs.YtflgnpidelkkpaaGreat
namespace Go.Proofs.YtflgnpidelkkpaaGreat
set_option maxRecDepth 8000
set_option maxHeartbeats 1000000
set_option linter.unusedVariables false
set_option linter.unusedSimpArgs false
def LastH (l : List HeldV) (task : Int) (m : Nat) (x : HeldV) : Prop := l[m]? = some x ∧ x.task = task ∧ ∀ (j : Nat) y, m < j → l[j]? = some y → y.task ≠ task
theorem LastH.uniq {l : List HeldV} {task : Int} {m n : Nat} {x y : HeldV} (h : LastH l task m x) (k : LastH l task n y) : m = n ∧ x = y := by
  have e : m = n := by
    rcases Nat.lt_trichotomy m n with h1 | h1 | h1
    · exact absurd k.2.1 (h.2.2 n y h1 k.1)
    · exact h1
    · exact absurd h.2.1 (k.2.2 m x h1 h.1)
  subst e
  have := h.1; rw [k.1] at this
  exact ⟨rfl, (Option.some.inj this).symm⟩
def decV (i : Int) : Int := IntKind.i64.wrap (i - 1)
def spendX (task : Int) (x : HeldV) : HeldV := if x.task = task then ⟨x.task, x.sem, decV x.left⟩ else x
def spendL (task : Int) (l : List HeldV) : List HeldV := l.map (spendX task)
def freeL (task : Int) (l : List HeldV) : List HeldV := l.filter fun x => !(x.task == task)
structure GiS where
  n : Int
attribute [local irreducible] W X WL WA WB WG WO Rn Own one splice Arr Spec WQ WH Qn
set_option maxHeartbeats 4000000 in
theorem give_any (b : Nat) (l : List HeldV) (task s : Int) (F : Hp) (hs : List Hp) (ho : LockC b l hs) (hfit : l.length * 24 ≤ 140737488355328) : Spec Tryz.prog 157 [.pointer (some ⟨b, 0, none⟩), .int .i64 task, .int .i64 s] F hs fun v hs' => (∃ m x, LastH l task m x ∧ x.sem = s ∧ v = .int .i64 0 ∧ LockC b (l.take m ++ l.drop (m + 1)) hs') ∨ ((∀ m x, LastH l task m x → x.sem ≠ s) ∧ v = .int .i64 10 ∧ hs' = hs) := by
  obtain ⟨A, c, h, rfl, ha⟩ := ho
  refine Spec.enter Tryz.func157 rfl Tryz.ntmps157 rfl fun B => ?_
  repeat' (first | refine soA ?_ | refine sgA ?_ | refine sxA ?_ | refine sbA ?_ | refine fun (Q : Post) hQ => ?_ | refine fun (nb : Nat) => (?_ : WL _ _ _ _ _ _ _ _ _) | (refine WL.guard rfl rfl rfl (fun h => ?_) (fun h => ?_) <;> (try dsimp only at h)))
  refine W.loopK (σ := GiS) ⟨fun s => -1 ≤ s.n ∧ s.n < l.length ∧ ∀ (j : Nat) y, s.n < (j : Int) → l[j]? = some y → y.task ≠ task, fun s' => [(7, some (.int .i64 s'.n)), (0, some (.pointer (some ⟨b, 0, none⟩))), (1, some (.int .i64 task)), (2, some (.int .i64 s))], fun _ => [one b (cells [.slice A l.length c] 176), h], fun s => (s.n + 1).toNat⟩ ⟨(l.length : Int) - 1⟩ ⟨by dsimp only; omega, by dsimp only; omega, fun j y hj hy => by have := (List.getElem?_eq_some_iff.1 hy).1; dsimp only at hj; omega⟩ ⟨rfl, rfl, rfl, rfl, trivial⟩ (keep_self _) ?_
  rintro ⟨n⟩ ⟨hn1, hn2, hno⟩ Q hL
  dsimp only at hn1 hn2 hno ⊢
  repeat' (first | refine soA ?_ | refine sgA ?_ | refine sxA ?_ | refine sbA ?_ | refine fun (Q : Post) hQ => ?_ | refine fun (nb : Nat) => (?_ : WL _ _ _ _ _ _ _ _ _) | (refine WL.guard rfl rfl rfl (fun h => ?_) (fun h => ?_) <;> (try dsimp only at h)))
  refine W.cond rfl (fun h1 => ?_) (fun h1 => ?_)
  · have h1 : 0 ≤ n := by simpa using h1
    obtain ⟨m, rfl⟩ : ∃ m : Nat, n = m := ⟨n.toNat, by omega⟩
    have hlt : m < l.length := by omega
    have hxm : l[m]? = some l[m] := List.getElem?_eq_getElem hlt
    generalize l[m] = x at hxm
    have hr : RowAt F [one b (cells [.slice A l.length c] 176), h] A (l.flatMap HeldV.enc) := RowAt.arr ha (by simp)
    obtain ⟨g, o, e', g1⟩ := hr.elem 3 (fun _ => rfl) (by omega) m x hxm
    subst e'
    by_cases c1 : x.task = task
    · have hL' : LastH l task m x := ⟨hxm, c1, fun j y hj hy => hno j y (by omega) hy⟩
      by_cases c2 : x.sem = s
      · skip
        repeat' (first | ((apply WL.rd; (exact rfl); (exact Rn.indexAddr m rfl rfl (by first | rfl | omega) (by omega)))) | ((apply WL.rd; (exact rfl); (apply Rn.loadS; (exact rfl); (exact (CellsAt.weak g1 (by simp))); (exact rfl)))) | ((apply WL.rd; (exact rfl); (first | exact Rn.cmp (b := true) rfl rfl (congrArg some (beq_iff_eq.2 c1)) | exact Rn.cmp (b := false) rfl rfl (congrArg some (bne_eq_false_iff_eq.2 c2))))) | ((refine WL.ex rfl (WO.callN Tryz.func211 rfl (by kernel_rfl) rfl (own := [h]) (by (exact tsA)) (fun G hG hh => delete_any _ c m l x hxm h G ha hfit) ?_); rintro v own' ⟨h2, rfl, rfl, ha2⟩)) | (first | refine soA ?_ | refine sgA ?_ | refine sxA ?_ | refine sbA ?_ | refine fun (Q : Post) hQ => ?_ | refine fun (nb : Nat) => (?_ : WL _ _ _ _ _ _ _ _ _) | (refine WL.guard rfl rfl rfl (fun h => ?_) (fun h => ?_) <;> (try dsimp only at h))))
        (refine seE ?_)
        exact ⟨[one b (cells [.slice (some ⟨g, o, none⟩) (l.take m ++ l.drop (m + 1)).length c] 176), h2], (by (exact keA)), .inl ⟨m, x, hL', c2, rfl, _, c, h2, rfl, ha2⟩⟩
      · skip
        repeat' (first | ((apply WL.rd; (exact rfl); (exact Rn.indexAddr m rfl rfl (by first | rfl | omega) (by omega)))) | ((apply WL.rd; (exact rfl); (apply Rn.loadS; (exact rfl); (exact (CellsAt.weak g1 (by simp))); (exact rfl)))) | ((apply WL.rd; (exact rfl); (first | exact Rn.cmp (b := true) rfl rfl (congrArg some (beq_iff_eq.2 c1)) | exact Rn.cmp (b := true) rfl rfl (congrArg some (bne_iff_ne.2 c2))))) | (first | refine soA ?_ | refine sgA ?_ | refine sxA ?_ | refine sbA ?_ | refine fun (Q : Post) hQ => ?_ | refine fun (nb : Nat) => (?_ : WL _ _ _ _ _ _ _ _ _) | (refine WL.guard rfl rfl rfl (fun h => ?_) (fun h => ?_) <;> (try dsimp only at h))))
        (refine seE ?_)
        exact ⟨[one b (cells [.slice (some ⟨g, o, none⟩) l.length c] 176), h], (by (exact keA)), .inr ⟨fun m' x' h' => by obtain ⟨rfl, rfl⟩ := h'.uniq hL'; exact c2, rfl, rfl⟩⟩
    · skip
      repeat' (first | ((apply WL.rd; (exact rfl); (exact Rn.indexAddr m rfl rfl (by first | rfl | omega) (by omega)))) | ((apply WL.rd; (exact rfl); (apply Rn.loadS; (exact rfl); (exact (CellsAt.weak g1 (by simp))); (exact rfl)))) | ((apply WL.rd; (exact rfl); (exact Rn.cmp (b := false) rfl rfl (congrArg some (beq_eq_false_iff_ne.2 c1))))) | (first | refine soA ?_ | refine sgA ?_ | refine sxA ?_ | refine sbA ?_ | refine fun (Q : Post) hQ => ?_ | refine fun (nb : Nat) => (?_ : WL _ _ _ _ _ _ _ _ _) | (refine WL.guard rfl rfl rfl (fun h => ?_) (fun h => ?_) <;> (try dsimp only at h))))
      refine hL.nx ⟨(m : Int) - 1⟩ _ _ ⟨by dsimp only; omega, by dsimp only; omega, fun j y hj hy => ?_⟩ (by dsimp only; omega) ⟨rfl, rfl, rfl, rfl, trivial⟩ (by (exact keA))
      dsimp only at hj
      by_cases e : j = m
      · subst e; rw [hxm] at hy; cases hy; exact c1
      · exact hno j y (by omega) hy
  · have h1 : n < 0 := by simpa using h1
    repeat' (first | refine soA ?_ | refine sgA ?_ | refine sxA ?_ | refine sbA ?_ | refine fun (Q : Post) hQ => ?_ | refine fun (nb : Nat) => (?_ : WL _ _ _ _ _ _ _ _ _) | (refine WL.guard rfl rfl rfl (fun h => ?_) (fun h => ?_) <;> (try dsimp only at h)))
    (refine seE ?_)
    refine ⟨[one b (cells [.slice A l.length c] 176), h], (by (exact keA)), .inr ⟨fun m x hm => ?_, rfl, rfl⟩⟩
    exact absurd hm.2.1 (hno m x (by omega) hm.1)
theorem spend_mid {l : List HeldV} {task : Int} {k : Nat} {x : HeldV} (hx : l[k]? = some x) : (spendL task (l.take k) ++ l.drop k).set k (spendX task x) = spendL task (l.take (k + 1)) ++ l.drop (k + 1) := by
  have hlt : k < l.length := (List.getElem?_eq_some_iff.1 hx).1
  have e2 : l[k] = x := (List.getElem?_eq_some_iff.1 hx).2
  have e1 := List.drop_eq_getElem_cons hlt
  rw [e2] at e1
  have hl : (spendL task (l.take k)).length = k := by unfold spendL; rw [List.length_map, List.length_take]; omega
  rw [List.take_add_one, hx, e1, List.set_append, if_neg (by omega), hl, Nat.sub_self, List.set_cons_zero]
  unfold spendL
  simp
theorem spend_same {l : List HeldV} {task : Int} {k : Nat} {x : HeldV} (hx : l[k]? = some x) (h : x.task ≠ task) : spendL task (l.take (k + 1)) ++ l.drop (k + 1) = spendL task (l.take k) ++ l.drop k := by
  rw [← spend_mid hx]
  have e : spendX task x = x := by unfold spendX; rw [if_neg h]
  rw [e]
  have hlt : k < l.length := (List.getElem?_eq_some_iff.1 hx).1
  have e2 : l[k] = x := (List.getElem?_eq_some_iff.1 hx).2
  have e1 := List.drop_eq_getElem_cons hlt
  rw [e2] at e1
  have hl : (spendL task (l.take k)).length = k := by unfold spendL; rw [List.length_map, List.length_take]; omega
  rw [e1, List.set_append, if_neg (by omega), hl, Nat.sub_self, List.set_cons_zero]
theorem mid_get {l : List HeldV} {task : Int} {k : Nat} {x : HeldV} (hx : l[k]? = some x) : (spendL task (l.take k) ++ l.drop k)[k]? = some x := by
  have hlt : k < l.length := (List.getElem?_eq_some_iff.1 hx).1
  have hl : (spendL task (l.take k)).length = k := by unfold spendL; rw [List.length_map, List.length_take]; omega
  rw [List.getElem?_append_right (by omega), hl, Nat.sub_self, List.getElem?_drop, Nat.add_zero]; exact hx
theorem mid_len {l : List HeldV} {task : Int} {k : Nat} (hk : k ≤ l.length) : (spendL task (l.take k) ++ l.drop k).length = l.length := by
  unfold spendL; rw [List.length_append, List.length_map, List.length_take, List.length_drop]; omega
theorem splice_last3 {L : List Value} {o : Nat} {a b c d : Value} (h0 : L[o]? = some a) (h1 : L[o + 1]? = some b) (h2 : L[o + 2]? = some c) : splice L (o + 2) [d] = splice L o [a, b, d] := by
  have hlt : o + 2 < L.length := (List.getElem?_eq_some_iff.1 h2).1
  have e0 := List.take_add_one (l := L) (i := o)
  have e1 := List.take_add_one (l := L) (i := o + 1)
  rw [h0] at e0; rw [h1, e0] at e1
  unfold splice
  rw [show o + 2 = o + 1 + 1 by omega, e1]
  simp
structure SpS where
  k : Nat
  h : Hp
set_option maxHeartbeats 4000000 in
theorem spend_any (b : Nat) (l : List HeldV) (task : Int) (F : Hp) (hs : List Hp) (ho : LockC b l hs) (hfit : l.length * 24 ≤ 140737488355328) : Spec Tryz.prog 246 [.pointer (some ⟨b, 0, none⟩), .int .i64 task] F hs fun v hs' => v = .tuple #[] ∧ LockC b (spendL task l) hs' := by
  obtain ⟨A, c, h, rfl, ha⟩ := ho
  refine Spec.enter Tryz.func246 rfl Tryz.ntmps246 rfl fun B => ?_
  repeat' (first | refine soA ?_ | refine sgA ?_ | refine sxA ?_ | refine sbA ?_ | refine fun (Q : Post) hQ => ?_ | refine fun (nb : Nat) => (?_ : WL _ _ _ _ _ _ _ _ _) | (refine WL.guard rfl rfl rfl (fun h => ?_) (fun h => ?_) <;> (try dsimp only at h)))
  refine W.loopK (σ := SpS) ⟨fun s => s.k ≤ l.length ∧ ArrL (spendL task (l.take s.k) ++ l.drop s.k) A c s.h, fun s => [(12, some (.int .i64 (s.k : Nat))), (11, some (.int .i64 (l.length : Nat))), (0, some (.pointer (some ⟨b, 0, none⟩))), (1, some (.int .i64 task))], fun s => [one b (cells [.slice A l.length c] 176), s.h], fun s => l.length - s.k⟩ ⟨0, h⟩ ⟨Nat.zero_le _, ha⟩ ⟨rfl, rfl, rfl, rfl, trivial⟩ (keep_self _) ?_
  rintro ⟨k, h⟩ ⟨hk, ha⟩ Q hL
  dsimp only at hk ha ⊢
  repeat' (first | refine soA ?_ | refine sgA ?_ | refine sxA ?_ | refine sbA ?_ | refine fun (Q : Post) hQ => ?_ | refine fun (nb : Nat) => (?_ : WL _ _ _ _ _ _ _ _ _) | (refine WL.guard rfl rfl rfl (fun h => ?_) (fun h => ?_) <;> (try dsimp only at h)))
  refine W.cond rfl (fun h1 => ?_) (fun h1 => ?_)
  · have hlt : k < l.length := by have : (k : Int) < (l.length : Nat) := by simpa using h1
                                  omega
    have hxk : l[k]? = some l[k] := List.getElem?_eq_getElem hlt
    generalize l[k] = x at hxk
    have hml := mid_len (task := task) hk
    have hmg := mid_get (task := task) hxk
    obtain ⟨g, sp, rfl, rfl, hlen, hle, hmax⟩ := ha.some (by omega)
    have gx := get_flat' HeldV.enc 3 (fun _ => rfl) _ _ _ sp hmg
    have g0 := gx 0 _ rfl
    have g1 := gx 1 _ rfl
    have g2 := gx 2 _ rfl
    have rx := flat_room HeldV.enc 3 (fun _ => rfl) (spendL task (l.take k) ++ l.drop k) k (by omega) sp
    have hsm : splice ((spendL task (l.take k) ++ l.drop k).flatMap HeldV.enc ++ sp) (0 + k * 3 + 2) [.int .i64 (decV x.left)] = splice ((spendL task (l.take k) ++ l.drop k).flatMap HeldV.enc ++ sp) (0 + k * 3) (⟨x.task, x.sem, decV x.left⟩ : HeldV).enc := splice_last3 g0 g1 g2
    have hset := set_flatI HeldV.enc 3 (fun _ => rfl) (spendL task (l.take k) ++ l.drop k) k (by omega) ⟨x.task, x.sem, decV x.left⟩ sp
    by_cases c1 : x.task = task
    · have es : spendX task x = ⟨x.task, x.sem, decV x.left⟩ := by unfold spendX; rw [if_pos c1]
      rw [← es, spend_mid hxk, es, ← hsm] at hset
      have hml2 := mid_len (task := task) (k := k + 1) (l := l) (by omega)
      have e5 : ((spendL task (l.take (k + 1)) ++ l.drop (k + 1)).flatMap HeldV.enc).length = (spendL task (l.take (k + 1)) ++ l.drop (k + 1)).length * 3 := flat_len HeldV.enc 3 HeldV.enc_len _
      have e6 : ((spendL task (l.take k) ++ l.drop k).flatMap HeldV.enc).length = (spendL task (l.take k) ++ l.drop k).length * 3 := flat_len HeldV.enc 3 HeldV.enc_len _
      have ha2 : ArrL (spendL task (l.take (k + 1)) ++ l.drop (k + 1)) (some ⟨g, 0, none⟩) c (one g (cells ((spendL task (l.take (k + 1)) ++ l.drop (k + 1)).flatMap HeldV.enc ++ sp) 144)) :=
        Arr.mk e5 (by rw [List.length_append] at hlen ⊢; rw [e5, hml2]; rw [e6, hml] at hlen; exact hlen) (by rw [hml2]; rw [hml] at hle; exact hle) hmax
      rw [← hset] at ha2
      generalize (spendL task (l.take k) ++ l.drop k).flatMap HeldV.enc ++ sp = L at *
      repeat' (first | ((apply WL.rd; (exact rfl); (exact Rn.indexAddr k rfl rfl rfl hlt))) | ((apply WL.rd; (exact rfl); (apply Rn.load; (exact rfl); (first | exact CellAt.mk (by (exact atA)) g0 | exact CellAt.mk (by (exact atA)) g2)))) | ((apply WL.rd; (exact rfl); (exact Rn.cmp (b := true) rfl rfl (congrArg some (beq_iff_eq.2 c1))))) | ((apply WL.ex0; (apply WO.storeC (l := L) (vs := [.int .i64 (decV x.left)]) (b := g) (o := 0 + k * 3 + 2); (exact rfl); (exact rfl); (exact rfl); (exact rfl); (exact rfl); (exact rpA); (show _ + 1 ≤ _; omega)))) | (first | refine soA ?_ | refine sgA ?_ | refine sxA ?_ | refine sbA ?_ | refine fun (Q : Post) hQ => ?_ | refine fun (nb : Nat) => (?_ : WL _ _ _ _ _ _ _ _ _) | (refine WL.guard rfl rfl rfl (fun h => ?_) (fun h => ?_) <;> (try dsimp only at h))))
      exact hL.nx ⟨k + 1, _⟩ _ _ ⟨by dsimp only; omega, ha2⟩ (by dsimp only; omega) ⟨rfl, rfl, rfl, rfl, trivial⟩ (by (exact keA))
    · have ha2 : ArrL (spendL task (l.take (k + 1)) ++ l.drop (k + 1)) (some ⟨g, 0, none⟩) c (one g (cells ((spendL task (l.take k) ++ l.drop k).flatMap HeldV.enc ++ sp) 144)) := by rw [spend_same hxk c1]; exact ha
      generalize (spendL task (l.take k) ++ l.drop k).flatMap HeldV.enc ++ sp = L at *
      repeat' (first | ((apply WL.rd; (exact rfl); (exact Rn.indexAddr k rfl rfl rfl hlt))) | ((apply WL.rd; (exact rfl); (apply Rn.load; (exact rfl); (exact CellAt.mk (by (exact atA)) g0)))) | ((apply WL.rd; (exact rfl); (exact Rn.cmp (b := false) rfl rfl (congrArg some (beq_eq_false_iff_ne.2 c1))))) | (first | refine soA ?_ | refine sgA ?_ | refine sxA ?_ | refine sbA ?_ | refine fun (Q : Post) hQ => ?_ | refine fun (nb : Nat) => (?_ : WL _ _ _ _ _ _ _ _ _) | (refine WL.guard rfl rfl rfl (fun h => ?_) (fun h => ?_) <;> (try dsimp only at h))))
      exact hL.nx ⟨k + 1, one g (cells L 144)⟩ _ _ ⟨by dsimp only; omega, ha2⟩ (by dsimp only; omega) ⟨rfl, rfl, rfl, rfl, trivial⟩ (by (exact keA))
  · have hkk : k = l.length := by have : (l.length : Int) ≤ (k : Nat) := by simpa using h1
                                  omega
    subst hkk
    repeat' (first | refine soA ?_ | refine sgA ?_ | refine sxA ?_ | refine sbA ?_ | refine fun (Q : Post) hQ => ?_ | refine fun (nb : Nat) => (?_ : WL _ _ _ _ _ _ _ _ _) | (refine WL.guard rfl rfl rfl (fun h => ?_) (fun h => ?_) <;> (try dsimp only at h)))
    (refine seE ?_)
    have e : spendL task (l.take l.length) ++ l.drop l.length = spendL task l := by rw [List.take_length, List.drop_length, List.append_nil]
    rw [e] at ha
    exact ⟨[one b (cells [.slice A l.length c] 176), h], (by (exact keA)), rfl, A, c, h, by unfold spendL; rw [List.length_map], ha⟩
end Go.Proofs.YtflgnpidelkkpaaGreat
