/- part 9 of the proof: contracts of the functions that the law reaches, and plain laws. -/
import Derived.Test.YtflgnpidelkkpaaGreatMq7
import Derived.Test.YtflgnpidelkkpaaGreatMq8
namespace Go.Proofs.YtflgnpidelkkpaaGreat
set_option maxRecDepth 8000
set_option maxHeartbeats 1000000
set_option linter.unusedVariables false
set_option linter.unusedSimpArgs false
theorem arr_none {e : TypeId} {sz g : Nat} : Arr e sz 0 [] (some ⟨g, 0, none⟩) 0 (one g (cells [] e)) :=
  ⟨by simp, .inr ⟨g, [], rfl, rfl, by simp, Nat.le_refl 0, by simp [maxLen]⟩⟩
theorem idxV_any (p : HeldV → Bool) (xs : List HeldV) : decide (0 ≤ idxV p xs) = xs.any p := by
  unfold idxV
  cases h : xs.findIdx? p with
  | none =>
    rw [List.findIdx?_eq_none_iff] at h
    rw [List.any_eq_false.2 fun x hx => by simp [h x hx]]; rfl
  | some i =>
    obtain ⟨hlt, hp, _⟩ := List.findIdx?_eq_some_iff_getElem.1 h
    rw [List.any_eq_true.2 ⟨xs[i], List.getElem_mem hlt, hp⟩]
    exact decide_eq_true (by dsimp only; omega)
attribute [local irreducible] W X WL WA WB WG WO Rn Own one splice Arr Spec WQ WH Qn
theorem contains_any {f : FuncId} {fn : Func} {cd : Code} (hf : Tryz.prog.funcs[f]? = some fn) (hb : fn.body = some cd) (hnm : (fn.name == "runtime.NumGoroutine") = false) (cap : List Value) (p : HeldV → Bool) (A0 : Option Addr) (c0 : Nat) (xs : List HeldV) (F : Hp) (h0 : RowAt F [] A0 (xs.flatMap HeldV.enc)) (hfit : xs.length * 24 ≤ 140737488355328)
    (hp : ∀ G, F.le G → ∀ x : HeldV, Spec Tryz.prog f (.agg x.enc.toArray :: cap) G [] fun v hs => v = .bool (p x) ∧ hs = []) :
    Spec Tryz.prog 212 [.slice A0 xs.length c0, .func (.func f) #[] cap.toArray] F [] fun v hs => v = .bool (xs.any p) ∧ hs = [] := by
  refine Spec.enter Tryz.func212 rfl Tryz.ntmps212 rfl fun B => ?_
  repeat' (first | ((refine WL.ex rfl (WO.callN Tryz.func252 rfl (by kernel_rfl) rfl (by (exact tsA)) (fun G hG hh => index_any hf hb hnm cap p A0 c0 xs G (h0.up hG (by simp)) hfit (fun G' g' x => hp G' (hG.trans g') x)) ?_); rintro v own' ⟨rfl, rfl⟩)) | (first | refine soA ?_ | refine sgA ?_ | refine sxA ?_ | refine sbA ?_ | refine fun (Q : Post) hQ => ?_ | refine fun (nb : Nat) => (?_ : WL _ _ _ _ _ _ _ _ _) | (refine WL.guard rfl rfl rfl (fun h => ?_) (fun h => ?_) <;> (try dsimp only at h))))
  ((refine seE ?_); refine ⟨[], Keep.nil, ?_⟩)
  exact ⟨by rw [← idxV_any], rfl⟩
theorem rowNone {F : Hp} {xs : List HeldV} (h : RowAt F [] none (xs.flatMap HeldV.enc)) : xs = [] := by
  cases xs with
  | nil => rfl
  | cons x t => obtain ⟨b, o, e, _⟩ := h 0 _ rfl; cases e
set_option maxHeartbeats 1000000 in
theorem clone_any (A0 : Option Addr) (c0 : Nat) (xs : List HeldV) (F : Hp) (h0 : RowAt F [] A0 (xs.flatMap HeldV.enc)) (hfit : xs.length * 24 ≤ 140737488355328) :
    Spec Tryz.prog 142 [.slice A0 xs.length c0] F [] fun v hs => ∃ A c h, v = .slice A xs.length c ∧ hs = [h] ∧ ArrL xs A c h := by
  have hl := flat_len HeldV.enc 3 HeldV.enc_len xs
  refine Spec.enter Tryz.func142 rfl Tryz.ntmps142 rfl fun B => ?_
  cases A0 with
  | none =>
    obtain rfl := rowNone h0
    repeat' (first | refine soA ?_ | refine sgA ?_ | refine sxA ?_ | refine sbA ?_ | refine fun (Q : Post) hQ => ?_ | refine fun (nb : Nat) => (?_ : WL _ _ _ _ _ _ _ _ _) | (refine WL.guard rfl rfl rfl (fun h => ?_) (fun h => ?_) <;> (try dsimp only at h)))
    refine X.pad ?_
    (refine seE ?_)
    exact ⟨[Hp.none], (by (exact keA)), none, 0, Hp.none, rfl, rfl, Arr.nil _ _⟩
  | some ad =>
    have h1 := heldsOne xs
    repeat' (first | ((apply WL.ex; (exact rfl); (apply WO.append (h := one nb (cells [] 144)) (news := xs.flatMap HeldV.enc) (m := xs.length); (exact rfl); (exact rfl); (exact tkA); (exact arr_none); (exact rfl); (decide); (exact hl); (exact h0.weak (by simp)); (exact h1); (omega); (omega); intro A' c' h' hap))) | (first | refine soA ?_ | refine sgA ?_ | refine sxA ?_ | refine sbA ?_ | refine fun (Q : Post) hQ => ?_ | refine fun (nb : Nat) => (?_ : WL _ _ _ _ _ _ _ _ _) | (refine WL.guard rfl rfl rfl (fun h => ?_) (fun h => ?_) <;> (try dsimp only at h))))
    (refine seE ?_)
    refine ⟨[h'], (by (exact keA)), A', c', h', by rw [Nat.zero_add], rfl, ?_⟩
    rw [Nat.zero_add] at hap
    exact hap
theorem clip_any (A0 : Option Addr) (c0 n : Nat) (F : Hp) (hn : n ≤ c0) : Spec Tryz.prog 141 [.slice A0 n c0] F [] fun v hs => v = .slice A0 n n ∧ hs = [] := by
  refine Spec.enter Tryz.func141 rfl Tryz.ntmps141 rfl fun B => ?_
  repeat' (first | ((apply WL.rd; (exact rfl); (exact Rn.sliceClip n n rfl rfl rfl rfl rfl (Nat.le_refl _) hn))) | (first | refine soA ?_ | refine sgA ?_ | refine sxA ?_ | refine sbA ?_ | refine fun (Q : Post) hQ => ?_ | refine fun (nb : Nat) => (?_ : WL _ _ _ _ _ _ _ _ _) | (refine WL.guard rfl rfl rfl (fun h => ?_) (fun h => ?_) <;> (try dsimp only at h))))
  ((refine seE ?_); refine ⟨[], Keep.nil, ?_⟩)
  exact ⟨rfl, rfl⟩
theorem lknew_any (F : Hp) : Spec Tryz.prog 74 [] F [] fun v hs => ∃ b, v = .pointer (some ⟨b, 0, none⟩) ∧ LockC b [] hs := by
  refine Spec.enter Tryz.func74 rfl Tryz.ntmps74 rfl fun B => ?_
  repeat' (first | refine soA ?_ | refine sgA ?_ | refine sxA ?_ | refine sbA ?_ | refine fun (Q : Post) hQ => ?_ | refine fun (nb : Nat) => (?_ : WL _ _ _ _ _ _ _ _ _) | (refine WL.guard rfl rfl rfl (fun h => ?_) (fun h => ?_) <;> (try dsimp only at h)))
  refine X.pad ?_
  (refine seE ?_)
  exact ⟨[one nb (cells [.slice none 0 0] 176), Hp.none], (by (exact keA)), nb, rfl, none, 0, Hp.none, rfl, Arr.nil _ _⟩
theorem list_any (b : Nat) (l : List HeldV) (F : Hp) (hs : List Hp) (ho : LockC b l hs) (hfit : l.length * 24 ≤ 140737488355328) : Spec Tryz.prog 91 [.pointer (some ⟨b, 0, none⟩)] F hs fun v hs' => ∃ A c h, v = .slice A l.length l.length ∧ hs' = h :: hs ∧ ArrL l A c h := by
  obtain ⟨A, c, h, rfl, ha⟩ := ho
  refine Spec.enter Tryz.func91 rfl Tryz.ntmps91 rfl fun B => ?_
  repeat' (first | ((refine WL.ex rfl (WO.callN Tryz.func142 rfl (by kernel_rfl) rfl Takes.nil (fun G hG hh => clone_any A c l G (ha.rowH (hh h (by simp))) hfit) ?_); rintro v own' ⟨A2, c2, h2, rfl, rfl, ha2⟩)) | ((refine WL.ex rfl (WO.callN Tryz.func141 rfl (by kernel_rfl) rfl Takes.nil (fun G hG hh => clip_any A2 c2 l.length G ha2.le) ?_); rintro v own' ⟨rfl, rfl⟩)) | (first | refine soA ?_ | refine sgA ?_ | refine sxA ?_ | refine sbA ?_ | refine fun (Q : Post) hQ => ?_ | refine fun (nb : Nat) => (?_ : WL _ _ _ _ _ _ _ _ _) | (refine WL.guard rfl rfl rfl (fun h => ?_) (fun h => ?_) <;> (try dsimp only at h))))
  (refine seE ?_)
  exact ⟨[h2, one b (cells [.slice A l.length c] 176), h], (by (exact keA)), A2, c2, h2, rfl, rfl, ha2⟩
set_option maxHeartbeats 2000000 in
theorem over_any (b : Nat) (l : List HeldV) (task : Int) (F : Hp) (hs : List Hp) (ho : LockC b l hs) (hfit : l.length * 24 ≤ 140737488355328) : Spec Tryz.prog 243 [.pointer (some ⟨b, 0, none⟩), .int .i64 task] F hs fun v hs' => v = .bool (l.any fun x => (x.task == task) && decide (x.left ≤ 0)) ∧ hs' = hs := by
  obtain ⟨A, c, h, rfl, ha⟩ := ho
  refine Spec.enter Tryz.func243 rfl Tryz.ntmps243 rfl fun B => ?_
  repeat' (first | ((apply WL.rd; (exact rfl); (exact Rn.makeFunc rfl rfl))) | ((refine WL.ex rfl (WO.callN Tryz.func212 rfl (by kernel_rfl) rfl Takes.nil (fun G hG hh => contains_any Tryz.func268 rfl (by kernel_rfl) [.pointer (some ⟨nb, 0, none⟩)] (fun x => (x.task == task) && decide (x.left ≤ 0)) A c l G (ha.rowH (hh h (by simp))) hfit (fun G' g' x => overF_any x nb task G' (g' _ _ (one_in (hh _ (List.mem_cons_self ..)))))) ?_); rintro v own' ⟨rfl, rfl⟩)) | (first | refine soA ?_ | refine sgA ?_ | refine sxA ?_ | refine sbA ?_ | refine fun (Q : Post) hQ => ?_ | refine fun (nb : Nat) => (?_ : WL _ _ _ _ _ _ _ _ _) | (refine WL.guard rfl rfl rfl (fun h => ?_) (fun h => ?_) <;> (try dsimp only at h))))
  (refine seE ?_)
  exact ⟨[one b (cells [.slice A l.length c] 176), h], (by (exact keA)), rfl, rfl⟩
set_option maxHeartbeats 2000000 in
theorem take_has (b : Nat) (l : List HeldV) (task s cy : Int) (F : Hp) (hs : List Hp) (ho : LockC b l hs) (hfit : (l.length + 1) * 24 ≤ 140737488355328) (hany : (l.any fun x => x.sem == s) = true) : Spec Tryz.prog 158 [.pointer (some ⟨b, 0, none⟩), .int .i64 task, .int .i64 s, .int .i64 cy] F hs fun v hs' => v = .int .i64 10 ∧ hs' = hs := by
  obtain ⟨A, c, h, rfl, ha⟩ := ho
  refine Spec.enter Tryz.func158 rfl Tryz.ntmps158 rfl fun B => ?_
  repeat' (first | ((apply WL.rd; (exact rfl); (exact Rn.makeFunc rfl rfl))) | ((refine WL.ex rfl (WO.callN Tryz.func212 rfl (by kernel_rfl) rfl Takes.nil (fun G hG hh => contains_any Tryz.func213 rfl (by kernel_rfl) [.pointer (some ⟨nb, 0, none⟩)] (fun x => x.sem == s) A c l G (ha.rowH (hh h (by simp))) (by omega) (fun G' g' x => takeF_any x nb s G' (g' _ _ (one_in (hh _ (List.mem_cons_self ..)))))) ?_); rintro v own' ⟨hv, rfl⟩; rw [hany] at hv; subst hv)) | (first | refine soA ?_ | refine sgA ?_ | refine sxA ?_ | refine sbA ?_ | refine fun (Q : Post) hQ => ?_ | refine fun (nb : Nat) => (?_ : WL _ _ _ _ _ _ _ _ _) | (refine WL.guard rfl rfl rfl (fun h => ?_) (fun h => ?_) <;> (try dsimp only at h))))
  (refine seE ?_)
  exact ⟨[one b (cells [.slice A l.length c] 176), h], (by (exact keA)), rfl, rfl⟩
set_option maxHeartbeats 2000000 in
theorem take_new (b : Nat) (l : List HeldV) (task s cy : Int) (F : Hp) (hs : List Hp) (ho : LockC b l hs) (hfit : (l.length + 1) * 24 ≤ 140737488355328) (hany : (l.any fun x => x.sem == s) = false) : Spec Tryz.prog 158 [.pointer (some ⟨b, 0, none⟩), .int .i64 task, .int .i64 s, .int .i64 cy] F hs fun v hs' => v = .int .i64 0 ∧ LockC b (l ++ [⟨task, s, cy⟩]) hs' := by
  obtain ⟨A, c, h, rfl, ha⟩ := ho
  refine Spec.enter Tryz.func158 rfl Tryz.ntmps158 rfl fun B => ?_
  repeat' (first | ((apply WL.rd; (exact rfl); (exact Rn.makeFunc rfl rfl))) | ((refine WL.ex rfl (WO.callN Tryz.func212 rfl (by kernel_rfl) rfl Takes.nil (fun G hG hh => contains_any Tryz.func213 rfl (by kernel_rfl) [.pointer (some ⟨nb, 0, none⟩)] (fun x => x.sem == s) A c l G (ha.rowH (hh h (by simp))) (by omega) (fun G' g' x => takeF_any x nb s G' (g' _ _ (one_in (hh _ (List.mem_cons_self ..)))))) ?_); rintro v own' ⟨hv, rfl⟩; rw [hany] at hv; subst hv)) | (first | refine soA ?_ | refine sgA ?_ | refine sxA ?_ | refine sbA ?_ | refine fun (Q : Post) hQ => ?_ | refine fun (nb : Nat) => (?_ : WL _ _ _ _ _ _ _ _ _) | (refine WL.guard rfl rfl rfl (fun h => ?_) (fun h => ?_) <;> (try dsimp only at h))))
  refine dra [(0, [13]), (6, [])] [] ?_
  refine drp 14 0 1 ?_
  refine drp 14 1 3 ?_
  refine drp 14 2 7 ?_
  refine drp 14 3 15 ?_
  refine drl 14 4 0 31 ?_
  refine drp 14 5 63 ?_
  refine drl 14 6 1 127 ?_
  refine drp 14 7 255 ?_
  refine drp 14 8 511 ?_
  refine dr1 9 ?_
  refine dre 14 9 1023 ?_
  (apply WO.buildSlice; (exact rfl); (exact rfl); (exact fpA); intro nb)
  refine ⟨piA, ?_⟩
  refine dr1 10 ?_
  refine dre 14 10 2047 ?_
  (apply WO.append (h := h) (news := (⟨task, s, cy⟩ : HeldV).enc) (m := 1); (exact rfl); (exact rfl); (exact tkA); (exact ha); (exact rfl); (decide); (exact rfl); (apply RowAt.cells; (exact atA)); (exact rfl); (omega); (omega); intro A' c' h' ha')
  refine ⟨piA, ?_⟩
  refine drp 14 11 4095 ?_
  refine drp 14 12 8191 ?_
  refine dr1 13 ?_
  refine drf 14 13 16383 ?_
  (refine swA ?_)
  refine ⟨piA, ?_⟩
  refine drz ?_
  repeat' (first | refine soA ?_ | refine sgA ?_ | refine sxA ?_ | refine sbA ?_ | refine fun (Q : Post) hQ => ?_ | refine fun (nb : Nat) => (?_ : WL _ _ _ _ _ _ _ _ _) | (refine WL.guard rfl rfl rfl (fun h => ?_) (fun h => ?_) <;> (try dsimp only at h)))
  (refine seE ?_)
  refine ⟨[one b (cells [.slice A' (l.length + 1) c'] 176), h'], (by (exact keA)), rfl, A', c', h', by rw [List.length_append]; rfl, ?_⟩
  unfold ArrL; rw [List.length_append, List.flatMap_append, List.flatMap_singleton]; exact ha'
end Go.Proofs.YtflgnpidelkkpaaGreat
namespace Go.Proofs.YtflgnpidelkkpaaGreat
set_option maxRecDepth 8000
set_option maxHeartbeats 1000000
set_option linter.unusedVariables false
set_option linter.unusedSimpArgs false
def usesB (t : TaskV) (s : Int) : Bool := decide (0 ≤ s) && (decide (s < (t.sec.xs.length : Nat)) && match t.sec.xs[s.toNat]? with | some v => decide (0 < v) | none => false)
def ceilF (s : Int) (least : Int) (t : TaskV) : Int := if usesB t s = true ∧ t.period < least then t.period else least
def ceilT (ts : List TaskV) (s : Int) : Int := ts.foldl (ceilF s) 1099511627776
theorem ceilF_no {s least : Int} {t : TaskV} (h : usesB t s = false) : ceilF s least t = least := by unfold ceilF; rw [h]; simp
theorem ceilF_yes {s least : Int} {t : TaskV} (h : usesB t s = true) : ceilF s least t = if t.period < least then t.period else least := by unfold ceilF; rw [h]; simp
structure TasksAt (F : Hp) (A : Option Addr) (ts : List TaskV) : Prop where
  row : RowAt F [] A (ts.flatMap TaskV.enc)
  sec : ∀ t ∈ ts, RowAt F [] t.sec.A (t.sec.xs.flatMap encI)
  fit : ts.length * 64 ≤ 140737488351232
theorem TasksAt.up {F G : Hp} {A : Option Addr} {ts : List TaskV} (h : TasksAt F A ts) (hG : F.le G) : TasksAt G A ts := ⟨h.row.up hG (by simp), fun t ht => (h.sec t ht).up hG (by simp), h.fit⟩
attribute [local irreducible] W X WL WA WB WG WO Rn Own one splice Arr Spec WQ WH Qn
theorem ints_cell {F : Hp} {A : Option Addr} {xs : List Int} {i : Nat} {v : Int} (h : RowAt F [] A (xs.flatMap encI)) (hv : xs[i]? = some v) : ∃ g o, A = some ⟨g, o, none⟩ ∧ CellsAt F [] g (o + i * 1) [.int .i64 v] := by
  obtain ⟨g, o, e, hc⟩ := h.elem 1 (fun _ => rfl) (by omega) i v hv
  exact ⟨g, o, e, hc⟩
set_option maxHeartbeats 1000000 in
theorem usesT_any (t : TaskV) (s : Int) (F : Hp) (h0 : RowAt F [] t.sec.A (t.sec.xs.flatMap encI)) : Spec Tryz.prog 156 [.agg t.enc.toArray, .int .i64 s] F [] fun v hs => v = .bool (usesB t s) ∧ hs = [] := by
  refine Spec.enter Tryz.func156 rfl Tryz.ntmps156 rfl fun B => ?_
  by_cases c1 : 0 ≤ s
  · by_cases c2 : s < (t.sec.xs.length : Nat)
    · have hlt : s.toNat < t.sec.xs.length := by omega
      have hx : t.sec.xs[s.toNat]? = some t.sec.xs[s.toNat] := List.getElem?_eq_getElem hlt
      generalize t.sec.xs[s.toNat] = v at hx
      have hs : s = ((s.toNat : Nat) : Int) := by omega
      generalize s.toNat = n at hlt hx hs
      obtain ⟨g, o, e, hc⟩ := ints_cell h0 hx
      have e1 : usesB t s = decide (0 < v) := by
        unfold usesB
        have : s.toNat = n := by omega
        rw [decide_eq_true c1, decide_eq_true c2, this, hx]; rfl
      rw [e1]
      obtain ⟨per, cy, ⟨A, c, xs⟩, dv⟩ := t
      dsimp only at *
      subst e
      repeat' (first | ((apply WL.rd; (exact rfl); (first | exact Rn.cmp (b := true) rfl rfl (congrArg some (decide_eq_true c1)) | exact Rn.cmp (b := true) rfl rfl (congrArg some (decide_eq_true c2))))) | ((apply WL.rd; (exact rfl); (exact Rn.indexAddr n rfl rfl hs hlt))) | ((apply WL.rd; (exact rfl); (apply Rn.load; (exact rfl); (exact (CellsAt.weak hc (by simp)) 0 _ rfl)))) | (first | refine soA ?_ | refine sgA ?_ | refine sxA ?_ | refine sbA ?_ | refine fun (Q : Post) hQ => ?_ | refine fun (nb : Nat) => (?_ : WL _ _ _ _ _ _ _ _ _) | (refine WL.guard rfl rfl rfl (fun h => ?_) (fun h => ?_) <;> (try dsimp only at h))))
      ((refine seE ?_); refine ⟨[], Keep.nil, ?_⟩)
      exact ⟨rfl, rfl⟩
    · have e1 : usesB t s = false := by unfold usesB; rw [decide_eq_false c2]; simp
      rw [e1]
      repeat' (first | ((apply WL.rd; (exact rfl); (first | exact Rn.cmp (b := true) rfl rfl (congrArg some (decide_eq_true c1)) | exact Rn.cmp (b := false) rfl rfl (congrArg some (decide_eq_false c2))))) | (first | refine soA ?_ | refine sgA ?_ | refine sxA ?_ | refine sbA ?_ | refine fun (Q : Post) hQ => ?_ | refine fun (nb : Nat) => (?_ : WL _ _ _ _ _ _ _ _ _) | (refine WL.guard rfl rfl rfl (fun h => ?_) (fun h => ?_) <;> (try dsimp only at h))))
      ((refine seE ?_); refine ⟨[], Keep.nil, ?_⟩)
      exact ⟨rfl, rfl⟩
  · have e1 : usesB t s = false := by unfold usesB; rw [decide_eq_false c1]; rfl
    rw [e1]
    repeat' (first | ((apply WL.rd; (exact rfl); (exact Rn.cmp (b := false) rfl rfl (congrArg some (decide_eq_false c1))))) | (first | refine soA ?_ | refine sgA ?_ | refine sxA ?_ | refine sbA ?_ | refine fun (Q : Post) hQ => ?_ | refine fun (nb : Nat) => (?_ : WL _ _ _ _ _ _ _ _ _) | (refine WL.guard rfl rfl rfl (fun h => ?_) (fun h => ?_) <;> (try dsimp only at h))))
    ((refine seE ?_); refine ⟨[], Keep.nil, ?_⟩)
    exact ⟨rfl, rfl⟩
set_option maxHeartbeats 1000000 in
theorem rusesT_any (t : TaskV) (s : Int) (F : Hp) (h0 : RowAt F [] t.sec.A (t.sec.xs.flatMap encI)) : Spec Tryz.prog 184 [.agg t.enc.toArray, .int .i64 s] F [] fun v hs => v = .bool (usesB t s) ∧ hs = [] := by
  refine Spec.enter Tryz.func184 rfl Tryz.ntmps184 rfl fun B => ?_
  by_cases c1 : 0 ≤ s
  · by_cases c2 : s < (t.sec.xs.length : Nat)
    · have hlt : s.toNat < t.sec.xs.length := by omega
      have hx : t.sec.xs[s.toNat]? = some t.sec.xs[s.toNat] := List.getElem?_eq_getElem hlt
      generalize t.sec.xs[s.toNat] = v at hx
      have hs : s = ((s.toNat : Nat) : Int) := by omega
      generalize s.toNat = n at hlt hx hs
      obtain ⟨g, o, e, hc⟩ := ints_cell h0 hx
      have e1 : usesB t s = decide (0 < v) := by
        unfold usesB
        have : s.toNat = n := by omega
        rw [decide_eq_true c1, decide_eq_true c2, this, hx]; rfl
      rw [e1]
      obtain ⟨per, cy, ⟨A, c, xs⟩, dv⟩ := t
      dsimp only at *
      subst e
      repeat' (first | ((apply WL.rd; (exact rfl); (first | exact Rn.cmp (b := true) rfl rfl (congrArg some (decide_eq_true c1)) | exact Rn.cmp (b := true) rfl rfl (congrArg some (decide_eq_true c2))))) | ((apply WL.rd; (exact rfl); (exact Rn.indexAddr n rfl rfl hs hlt))) | ((apply WL.rd; (exact rfl); (apply Rn.load; (exact rfl); (exact (CellsAt.weak hc (by simp)) 0 _ rfl)))) | (first | refine soA ?_ | refine sgA ?_ | refine sxA ?_ | refine sbA ?_ | refine fun (Q : Post) hQ => ?_ | refine fun (nb : Nat) => (?_ : WL _ _ _ _ _ _ _ _ _) | (refine WL.guard rfl rfl rfl (fun h => ?_) (fun h => ?_) <;> (try dsimp only at h))))
      ((refine seE ?_); refine ⟨[], Keep.nil, ?_⟩)
      exact ⟨rfl, rfl⟩
    · have e1 : usesB t s = false := by unfold usesB; rw [decide_eq_false c2]; simp
      rw [e1]
      repeat' (first | ((apply WL.rd; (exact rfl); (first | exact Rn.cmp (b := true) rfl rfl (congrArg some (decide_eq_true c1)) | exact Rn.cmp (b := false) rfl rfl (congrArg some (decide_eq_false c2))))) | (first | refine soA ?_ | refine sgA ?_ | refine sxA ?_ | refine sbA ?_ | refine fun (Q : Post) hQ => ?_ | refine fun (nb : Nat) => (?_ : WL _ _ _ _ _ _ _ _ _) | (refine WL.guard rfl rfl rfl (fun h => ?_) (fun h => ?_) <;> (try dsimp only at h))))
      ((refine seE ?_); refine ⟨[], Keep.nil, ?_⟩)
      exact ⟨rfl, rfl⟩
  · have e1 : usesB t s = false := by unfold usesB; rw [decide_eq_false c1]; rfl
    rw [e1]
    repeat' (first | ((apply WL.rd; (exact rfl); (exact Rn.cmp (b := false) rfl rfl (congrArg some (decide_eq_false c1))))) | (first | refine soA ?_ | refine sgA ?_ | refine sxA ?_ | refine sbA ?_ | refine fun (Q : Post) hQ => ?_ | refine fun (nb : Nat) => (?_ : WL _ _ _ _ _ _ _ _ _) | (refine WL.guard rfl rfl rfl (fun h => ?_) (fun h => ?_) <;> (try dsimp only at h))))
    ((refine seE ?_); refine ⟨[], Keep.nil, ?_⟩)
    exact ⟨rfl, rfl⟩
set_option maxHeartbeats 1000000 in
theorem ceilT_any (A0 : Option Addr) (c0 : Nat) (ts : List TaskV) (s : Int) (F : Hp) (h0 : TasksAt F A0 ts) : Spec Tryz.prog 251 [.slice A0 ts.length c0, .int .i64 s] F [] fun v hs => v = .int .i64 (ceilT ts s) ∧ hs = [] := by
  have hfit := h0.fit
  refine Spec.enter Tryz.func251 rfl Tryz.ntmps251 rfl fun B => ?_
  repeat' (first | refine soA ?_ | refine sgA ?_ | refine sxA ?_ | refine sbA ?_ | refine fun (Q : Post) hQ => ?_ | refine fun (nb : Nat) => (?_ : WL _ _ _ _ _ _ _ _ _) | (refine WL.guard rfl rfl rfl (fun h => ?_) (fun h => ?_) <;> (try dsimp only at h)))
  refine W.loopK (σ := Nat) ⟨fun k => k ≤ ts.length, fun k => [(10, some (.int .i64 (k : Nat))), (9, some (.int .i64 (ts.length : Nat))), (8, some (.slice A0 ts.length c0)), (5, some (.int .i64 ((ts.take k).foldl (ceilF s) 1099511627776))), (1, some (.int .i64 s))], fun _ => [], fun k => ts.length - k⟩ 0 (Nat.zero_le _) ⟨rfl, rfl, rfl, rfl, rfl, trivial⟩ Keep.nil fun k hk Q hL => ?_
  dsimp only at hk ⊢
  repeat' (first | refine soA ?_ | refine sgA ?_ | refine sxA ?_ | refine sbA ?_ | refine fun (Q : Post) hQ => ?_ | refine fun (nb : Nat) => (?_ : WL _ _ _ _ _ _ _ _ _) | (refine WL.guard rfl rfl rfl (fun h => ?_) (fun h => ?_) <;> (try dsimp only at h)))
  refine W.cond rfl (fun h => ?_) (fun h => ?_) <;> (try simp only [beq_iff_eq, bne_iff_ne, decide_eq_true_eq, decide_eq_false_iff_not, beq_eq_false_iff_ne, bne_eq_false_iff_eq, Bool.not_true, Bool.not_false, ne_eq, Int.not_lt, Int.not_le, Bool.not_eq_true', Bool.not_eq_false', Bool.not_eq_eq_eq_not] at h)
  · have hlt : k < ts.length := by omega
    have hxk : ts[k]? = some ts[k] := List.getElem?_eq_getElem hlt
    generalize ts[k] = t at hxk
    have hsec := h0.sec t (List.mem_of_getElem? hxk)
    obtain ⟨g, o, rfl, g1⟩ := h0.row.elem 4 (fun _ => rfl) (by omega) k t hxk
    have hnext : (ts.take (k + 1)).foldl (ceilF s) 1099511627776 = ceilF s ((ts.take k).foldl (ceilF s) 1099511627776) t := by rw [List.take_add_one, hxk]; simp
    generalize (ts.take k).foldl (ceilF s) 1099511627776 = least at hnext ⊢
    cases hu : usesB t s with
    | true =>
      rw [ceilF_yes hu] at hnext
      repeat' (first | ((apply WL.rd; (exact rfl); (exact Rn.indexAddr k rfl rfl (by first | rfl | omega) (by omega)))) | ((apply WL.rd; (exact rfl); (apply Rn.loadS; (exact rfl); (exact (CellsAt.weak g1 (by simp))); (exact rfl)))) | ((refine WL.ex rfl (WO.callN Tryz.func156 rfl (by kernel_rfl) rfl Takes.nil (fun G hG hh => usesT_any t s G (hsec.up hG (by simp))) ?_); rintro v own' ⟨hv, rfl⟩; rw [hu] at hv; subst hv)) | (first | refine soA ?_ | refine sgA ?_ | refine sxA ?_ | refine sbA ?_ | refine fun (Q : Post) hQ => ?_ | refine fun (nb : Nat) => (?_ : WL _ _ _ _ _ _ _ _ _) | (refine WL.guard rfl rfl rfl (fun h => ?_) (fun h => ?_) <;> (try dsimp only at h))))
      exact hL.nx (k + 1) _ _ (by dsimp only; omega) (by dsimp only; omega) ⟨rfl, rfl, rfl, by rw [hnext]; rfl, rfl, trivial⟩ (by (exact keA))
    | false =>
      rw [ceilF_no hu] at hnext
      repeat' (first | ((apply WL.rd; (exact rfl); (exact Rn.indexAddr k rfl rfl (by first | rfl | omega) (by omega)))) | ((apply WL.rd; (exact rfl); (apply Rn.loadS; (exact rfl); (exact (CellsAt.weak g1 (by simp))); (exact rfl)))) | ((refine WL.ex rfl (WO.callN Tryz.func156 rfl (by kernel_rfl) rfl Takes.nil (fun G hG hh => usesT_any t s G (hsec.up hG (by simp))) ?_); rintro v own' ⟨hv, rfl⟩; rw [hu] at hv; subst hv)) | (first | refine soA ?_ | refine sgA ?_ | refine sxA ?_ | refine sbA ?_ | refine fun (Q : Post) hQ => ?_ | refine fun (nb : Nat) => (?_ : WL _ _ _ _ _ _ _ _ _) | (refine WL.guard rfl rfl rfl (fun h => ?_) (fun h => ?_) <;> (try dsimp only at h))))
      exact hL.nx (k + 1) _ _ (by dsimp only; omega) (by dsimp only; omega) ⟨rfl, rfl, rfl, by rw [hnext]; rfl, rfl, trivial⟩ (by (exact keA))
  · have hkk : k = ts.length := by omega
    subst hkk
    rw [List.take_length]
    repeat' (first | refine soA ?_ | refine sgA ?_ | refine sxA ?_ | refine sbA ?_ | refine fun (Q : Post) hQ => ?_ | refine fun (nb : Nat) => (?_ : WL _ _ _ _ _ _ _ _ _) | (refine WL.guard rfl rfl rfl (fun h => ?_) (fun h => ?_) <;> (try dsimp only at h)))
    ((refine seE ?_); refine ⟨[], Keep.nil, ?_⟩)
    exact ⟨rfl, rfl⟩
set_option maxHeartbeats 1000000 in
theorem rceilT_any (A0 : Option Addr) (c0 : Nat) (ts : List TaskV) (s : Int) (F : Hp) (h0 : TasksAt F A0 ts) : Spec Tryz.prog 167 [.slice A0 ts.length c0, .int .i64 s] F [] fun v hs => v = .int .i64 (ceilT ts s) ∧ hs = [] := by
  have hfit := h0.fit
  refine Spec.enter Tryz.func167 rfl Tryz.ntmps167 rfl fun B => ?_
  repeat' (first | refine soA ?_ | refine sgA ?_ | refine sxA ?_ | refine sbA ?_ | refine fun (Q : Post) hQ => ?_ | refine fun (nb : Nat) => (?_ : WL _ _ _ _ _ _ _ _ _) | (refine WL.guard rfl rfl rfl (fun h => ?_) (fun h => ?_) <;> (try dsimp only at h)))
  refine W.loopK (σ := Nat) ⟨fun k => k ≤ ts.length, fun k => [(6, some (.int .i64 (k : Nat))), (0, some (.slice A0 ts.length c0)), (5, some (.int .i64 ((ts.take k).foldl (ceilF s) 1099511627776))), (1, some (.int .i64 s))], fun _ => [], fun k => ts.length - k⟩ 0 (Nat.zero_le _) ⟨rfl, rfl, rfl, rfl, trivial⟩ Keep.nil fun k hk Q hL => ?_
  dsimp only at hk ⊢
  repeat' (first | refine soA ?_ | refine sgA ?_ | refine sxA ?_ | refine sbA ?_ | refine fun (Q : Post) hQ => ?_ | refine fun (nb : Nat) => (?_ : WL _ _ _ _ _ _ _ _ _) | (refine WL.guard rfl rfl rfl (fun h => ?_) (fun h => ?_) <;> (try dsimp only at h)))
  refine W.cond rfl (fun h => ?_) (fun h => ?_) <;> (try simp only [beq_iff_eq, bne_iff_ne, decide_eq_true_eq, decide_eq_false_iff_not, beq_eq_false_iff_ne, bne_eq_false_iff_eq, Bool.not_true, Bool.not_false, ne_eq, Int.not_lt, Int.not_le, Bool.not_eq_true', Bool.not_eq_false', Bool.not_eq_eq_eq_not] at h)
  · have hlt : k < ts.length := by omega
    have hxk : ts[k]? = some ts[k] := List.getElem?_eq_getElem hlt
    generalize ts[k] = t at hxk
    have hsec := h0.sec t (List.mem_of_getElem? hxk)
    obtain ⟨g, o, rfl, g1⟩ := h0.row.elem 4 (fun _ => rfl) (by omega) k t hxk
    have hnext : (ts.take (k + 1)).foldl (ceilF s) 1099511627776 = ceilF s ((ts.take k).foldl (ceilF s) 1099511627776) t := by rw [List.take_add_one, hxk]; simp
    generalize (ts.take k).foldl (ceilF s) 1099511627776 = least at hnext ⊢
    cases hu : usesB t s with
    | true =>
      rw [ceilF_yes hu] at hnext
      by_cases c1 : t.period < least
      · rw [if_pos c1] at hnext
        repeat' (first | ((apply WL.rd; (exact rfl); (exact Rn.indexAddr k rfl rfl (by first | rfl | omega) (by omega)))) | ((apply WL.rd; (exact rfl); (apply Rn.loadS; (exact rfl); (exact (CellsAt.weak g1 (by simp))); (exact rfl)))) | ((refine WL.ex rfl (WO.callN Tryz.func184 rfl (by kernel_rfl) rfl Takes.nil (fun G hG hh => rusesT_any t s G (hsec.up hG (by simp))) ?_); rintro v own' ⟨hv, rfl⟩; rw [hu] at hv; subst hv)) | ((apply WL.rd; (exact rfl); (apply Rn.load; (exact rfl); (exact (CellsAt.weak g1 (by simp)) 0 _ rfl)))) | ((apply WL.rd; (exact rfl); (exact Rn.cmp (b := true) rfl rfl (congrArg some (decide_eq_true c1))))) | (first | refine soA ?_ | refine sgA ?_ | refine sxA ?_ | refine sbA ?_ | refine fun (Q : Post) hQ => ?_ | refine fun (nb : Nat) => (?_ : WL _ _ _ _ _ _ _ _ _) | (refine WL.guard rfl rfl rfl (fun h => ?_) (fun h => ?_) <;> (try dsimp only at h))))
        exact hL.nx (k + 1) _ _ (by dsimp only; omega) (by dsimp only; omega) ⟨rfl, rfl, by rw [hnext]; rfl, rfl, trivial⟩ (by (exact keA))
      · rw [if_neg c1] at hnext
        repeat' (first | ((apply WL.rd; (exact rfl); (exact Rn.indexAddr k rfl rfl (by first | rfl | omega) (by omega)))) | ((apply WL.rd; (exact rfl); (apply Rn.loadS; (exact rfl); (exact (CellsAt.weak g1 (by simp))); (exact rfl)))) | ((refine WL.ex rfl (WO.callN Tryz.func184 rfl (by kernel_rfl) rfl Takes.nil (fun G hG hh => rusesT_any t s G (hsec.up hG (by simp))) ?_); rintro v own' ⟨hv, rfl⟩; rw [hu] at hv; subst hv)) | ((apply WL.rd; (exact rfl); (apply Rn.load; (exact rfl); (exact (CellsAt.weak g1 (by simp)) 0 _ rfl)))) | ((apply WL.rd; (exact rfl); (exact Rn.cmp (b := false) rfl rfl (congrArg some (decide_eq_false c1))))) | (first | refine soA ?_ | refine sgA ?_ | refine sxA ?_ | refine sbA ?_ | refine fun (Q : Post) hQ => ?_ | refine fun (nb : Nat) => (?_ : WL _ _ _ _ _ _ _ _ _) | (refine WL.guard rfl rfl rfl (fun h => ?_) (fun h => ?_) <;> (try dsimp only at h))))
        exact hL.nx (k + 1) _ _ (by dsimp only; omega) (by dsimp only; omega) ⟨rfl, rfl, by rw [hnext]; rfl, rfl, trivial⟩ (by (exact keA))
    | false =>
      rw [ceilF_no hu] at hnext
      repeat' (first | ((apply WL.rd; (exact rfl); (exact Rn.indexAddr k rfl rfl (by first | rfl | omega) (by omega)))) | ((apply WL.rd; (exact rfl); (apply Rn.loadS; (exact rfl); (exact (CellsAt.weak g1 (by simp))); (exact rfl)))) | ((refine WL.ex rfl (WO.callN Tryz.func184 rfl (by kernel_rfl) rfl Takes.nil (fun G hG hh => rusesT_any t s G (hsec.up hG (by simp))) ?_); rintro v own' ⟨hv, rfl⟩; rw [hu] at hv; subst hv)) | (first | refine soA ?_ | refine sgA ?_ | refine sxA ?_ | refine sbA ?_ | refine fun (Q : Post) hQ => ?_ | refine fun (nb : Nat) => (?_ : WL _ _ _ _ _ _ _ _ _) | (refine WL.guard rfl rfl rfl (fun h => ?_) (fun h => ?_) <;> (try dsimp only at h))))
      exact hL.nx (k + 1) _ _ (by dsimp only; omega) (by dsimp only; omega) ⟨rfl, rfl, by rw [hnext]; rfl, rfl, trivial⟩ (by (exact keA))
  · have hkk : k = ts.length := by omega
    subst hkk
    rw [List.take_length]
    repeat' (first | refine soA ?_ | refine sgA ?_ | refine sxA ?_ | refine sbA ?_ | refine fun (Q : Post) hQ => ?_ | refine fun (nb : Nat) => (?_ : WL _ _ _ _ _ _ _ _ _) | (refine WL.guard rfl rfl rfl (fun h => ?_) (fun h => ?_) <;> (try dsimp only at h)))
    ((refine seE ?_); refine ⟨[], Keep.nil, ?_⟩)
    exact ⟨rfl, rfl⟩
end Go.Proofs.YtflgnpidelkkpaaGreat
