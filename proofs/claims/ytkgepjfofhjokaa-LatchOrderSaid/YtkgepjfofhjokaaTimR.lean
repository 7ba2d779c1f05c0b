/- the reference's timers: Without, Set, Due. -/
import Derived.Test.YtkgepjfofhjokaaTim
namespace Go.Proofs.Ytkgepjfofhjokaa
set_option linter.unusedVariables false
set_option linter.unusedSimpArgs false
attribute [local irreducible] W X WL WA WB WG WO Rn Own one splice Arr Spec
abbrev ArrT (xs : List TimerV) (A : Option Addr) (c : Nat) (h : Hp) : Prop := Arr 72 3 xs.length (xs.flatMap TimerV.enc) A c h
def ListT (xs : List TimerV) (v : Value) (hs : List Hp) : Prop := ∃ A c h, v = .slice A xs.length c ∧ hs = [h] ∧ ArrT xs A c h
structure DT where
  k : Nat
  A : Option Addr
  c : Nat
  h : Hp
set_option maxHeartbeats 1000000 in
theorem rwithout_any (A0 : Option Addr) (c0 : Nat) (xs : List TimerV) (id : Int) (F : Hp) (h0 : RowAt F [] A0 (xs.flatMap TimerV.enc)) (hfit : xs.length * 24 ≤ 140737488355328) : Spec Try.prog 42 [.slice A0 xs.length c0, .int .i64 id] F [] fun v hs => ListT (offT id xs) v hs := by
  refine Spec.enter Try.func42 rfl Try.ntmps42 rfl fun B => ?_
  ((refine W.seqK fun Q hQ => ?_); (refine W.region ?_); (apply WL.rd; (exact rfl); exact Rn.assign rfl); (refine WL.nil ?_); (refine Cont.nx (by assumption) _ _ ?_); (refine W.seqK fun Q hQ => ?_); (refine W.region ?_); (apply WL.rd; (exact rfl); exact Rn.assign rfl); (refine WL.nil ?_); (refine Cont.nx (by assumption) _ _ ?_); (refine W.seqK fun Q hQ => ?_); (refine W.seqK fun Q hQ => ?_); (refine W.region ?_); (apply WL.rd; (exact rfl); exact Rn.assign rfl); (refine WL.nil ?_); (refine Cont.nx (by assumption) _ _ ?_); (refine W.blockK fun Q hQ => ?_))
  refine W.pad ?_
  refine W.loopK (σ := DT) ⟨fun s => s.k ≤ xs.length ∧ Arr 72 3 (offT id (xs.take s.k)).length ((offT id (xs.take s.k)).flatMap TimerV.enc) s.A s.c s.h, fun s => [(6, some (.int .i64 (s.k : Nat))), (5, some (.slice s.A (offT id (xs.take s.k)).length s.c)), (0, some (.slice A0 xs.length c0)), (1, some (.int .i64 id))], fun s => [s.h], fun s => xs.length - s.k⟩ ⟨0, none, 0, Hp.none⟩ ⟨Nat.zero_le _, Arr.nil _ _⟩ ⟨rfl, rfl, rfl, rfl, trivial⟩ (by (focus ((repeat (first | exact Keep.nil | (apply Keep.cons; (focus ((repeat (first | exact Take.here | apply Take.there)); done))))); done))) ?_
  rintro ⟨k, A, c, hp⟩ ⟨hk, ha⟩ Q hL
  dsimp only at hk ha ⊢
  ((refine W.seqK fun Q hQ => ?_); (refine W.seqK fun Q hQ => ?_); (refine W.region ?_); (apply WL.rd; (exact rfl); exact Rn.move rfl); (apply WL.rd; (exact rfl); exact Rn.move rfl); (apply WL.rd; (exact rfl); exact Rn.len rfl); (apply WL.rd; (exact rfl); exact Rn.cmp rfl rfl rfl); (refine WL.nil ?_); (refine Cont.nx (by assumption) _ _ ?_))
  refine W.cond rfl (fun h => ?_) (fun h => ?_) <;> (try simp only [beq_iff_eq, bne_iff_ne, decide_eq_true_eq, decide_eq_false_iff_not, beq_eq_false_iff_ne, bne_eq_false_iff_eq, Bool.not_true, Bool.not_false, ne_eq, Int.not_lt, Int.not_le, Bool.not_eq_true', Bool.not_eq_false', Bool.not_eq_eq_eq_not] at h)
  · have hlt : k < xs.length := by omega
    have hxk : xs[k]? = some xs[k] := List.getElem?_eq_getElem hlt
    generalize xs[k] = x at hxk
    obtain ⟨g, o, rfl, g1⟩ := h0.elem 3 (fun _ => rfl) (by omega) k x hxk
    have hnext : xs.take (k + 1) = xs.take k ++ [x] := by rw [List.take_add_one, hxk]; rfl
    have hlen : (offT id (xs.take k)).length ≤ k := Nat.le_trans (List.length_filter_le _ _) (by rw [List.length_take]; omega)
    ((refine W.skip ?_); (refine Cont.nx (by assumption) _ _ ?_); (refine W.seqK fun Q hQ => ?_); (refine W.blockK fun Q hQ => ?_); (refine W.seqK fun Q hQ => ?_); (refine W.region ?_); (apply WL.rd; (exact rfl); exact Rn.move rfl); (apply WL.rd; (exact rfl); exact Rn.move rfl); ((apply WL.rd; (exact rfl); (exact Rn.indexAddr k rfl rfl rfl hlt))); (apply WL.rd; (exact rfl); exact Rn.fieldAddr rfl); ((apply WL.rd; (exact rfl); (apply Rn.load; (exact rfl); (exact (CellsAt.weak g1 (by simp)) 0 _ rfl)))); (apply WL.rd; (exact rfl); exact Rn.move rfl); ((apply WL.rd; (exact rfl); (exact Rn.cmp rfl rfl rfl))); (refine WL.nil ?_); (refine Cont.nx (by assumption) _ _ ?_))
    refine W.cond rfl (fun h2 => ?_) (fun h2 => ?_)
    · have e : offT id (xs.take (k + 1)) = offT id (xs.take k) ++ [x] := by rw [hnext]; unfold offT; rw [List.filter_append]; congr 1; simpa using h2
      ((refine W.region ?_); (apply WL.rd; (exact rfl); exact Rn.move rfl); (apply WL.rd; (exact rfl); exact Rn.move rfl); (apply WL.rd; (exact rfl); exact Rn.move rfl); ((apply WL.rd; (exact rfl); (exact Rn.indexAddr k rfl rfl rfl hlt))); ((apply WL.rd; (exact rfl); (apply Rn.loadS; (exact rfl); (exact (CellsAt.weak g1 (by simp))); (exact rfl)))); (apply WL.ex; (exact rfl); apply WO.buildSlice; (exact rfl); (exact rfl); (focus ((repeat (first | exact Fill.nil | (apply Fill.cell; (exact rfl); (exact rfl); (exact rfl); (focus ((repeat (first | exact SetAt.zero | apply SetAt.succ)); done))) | (apply Fill.part; (exact rfl); (exact rfl); (exact rfl); (focus ((repeat (first | exact SpAt.nil | apply SpAt.put | apply SpAt.skip)); done))))); done)); intro nb))
      apply WL.ex
      · exact rfl
      (apply WO.append (h := hp) (news := x.enc) (m := 1); (exact rfl); (exact rfl); (focus ((repeat (first | exact Take.here | apply Take.there)); done)); (exact ha); (exact rfl); (decide); (exact rfl); (apply RowAt.cells; (focus ((repeat (first | exact At.one | exact At.here (by assumption) | exact At.ro (by assumption) | apply At.there)); done))); (exact rfl); (first | omega | (simp; omega) | simp); (first | omega | (simp; omega) | simp); intro A' c' h' hap)
      ((apply WL.rd; (exact rfl); exact Rn.assign rfl); (refine WL.nil ?_); (refine Blk.nx (by assumption) _ _ ?_); (refine Cont.nx (by assumption) _ _ ?_); (refine W.region ?_); (apply WL.rd; (exact rfl); exact Rn.move rfl); (apply WL.rd; (exact rfl); exact Rn.add rfl rfl (by omega)); (apply WL.rd; (exact rfl); exact Rn.assign rfl); (refine WL.nil ?_))
      exact hL.nx ⟨k + 1, A', c', h'⟩ _ _ ⟨by dsimp only; omega, by rw [e, List.length_append, List.flatMap_append, List.flatMap_singleton]; exact hap⟩ (by dsimp only; omega) ⟨rfl, by rw [e, List.length_append]; rfl, rfl, rfl, trivial⟩ (by (focus ((repeat (first | exact Keep.nil | (apply Keep.cons; (focus ((repeat (first | exact Take.here | apply Take.there)); done))))); done)))
    · have e : offT id (xs.take (k + 1)) = offT id (xs.take k) := by rw [hnext]; unfold offT; rw [List.filter_append]; have h3 : x.id = id := by simpa using h2
                                                                     simp [h3]
      ((refine W.skip ?_); (refine Blk.nx (by assumption) _ _ ?_); (refine Cont.nx (by assumption) _ _ ?_); (refine W.region ?_); (apply WL.rd; (exact rfl); exact Rn.move rfl); (apply WL.rd; (exact rfl); exact Rn.add rfl rfl (by omega)); (apply WL.rd; (exact rfl); exact Rn.assign rfl); (refine WL.nil ?_))
      exact hL.nx ⟨k + 1, A, c, hp⟩ _ _ ⟨by dsimp only; omega, by rw [e]; exact ha⟩ (by dsimp only; omega) ⟨rfl, by rw [e]; rfl, rfl, rfl, trivial⟩ (keep_self _)
  · have hkk : k = xs.length := by omega
    subst hkk
    rw [List.take_length] at ha
    ((refine W.exit ?_); (refine Cont.ex (by assumption) _ _ _ ?_); (refine Again.ex (by assumption) _ _ _ ?_); (refine Blk.ot (by assumption) _ _ ?_); (refine Cont.nx (by assumption) _ _ ?_); (refine W.seqK fun Q hQ => ?_); (refine W.region ?_); (apply WL.rd; (exact rfl); exact Rn.move rfl); (apply WL.rd; (exact rfl); exact Rn.assign rfl); (refine WL.nil ?_); (refine Cont.nx (by assumption) _ _ ?_); (refine W.ret ?_))
    (first | (apply X.ret1; (exact rfl); (exact rfl)) | (apply X.ret2; (exact rfl); (exact rfl); (exact rfl)) | (apply X.retSt; (exact rfl); infer_instance; infer_instance; (exact rfl); (exact rfl); (focus ((repeat (first | exact At.one | exact At.here (by assumption) | exact At.ro (by assumption) | apply At.there)); done)); (exact rfl)) | (apply X.retS; (exact rfl); infer_instance; infer_instance; (exact rfl); (focus ((repeat (first | exact At.one | exact At.here (by assumption) | exact At.ro (by assumption) | apply At.there)); done)); (exact rfl)) | (apply X.ret3; (exact rfl); (exact rfl); (exact rfl); (exact rfl)) | (apply X.ret4; (exact rfl); (exact rfl); (exact rfl); (exact rfl); (exact rfl)) | (apply X.ret0; (exact rfl)) | (apply X.end0; (exact rfl)))
    refine ⟨[hp], (by (focus ((repeat (first | exact Keep.nil | (apply Keep.cons; (focus ((repeat (first | exact Take.here | apply Take.there)); done))))); done))), A, c, hp, ?_, rfl, ha⟩
    rw [List.take_length]
set_option maxHeartbeats 1000000 in
set_option maxHeartbeats 1000000 in
set_option maxHeartbeats 1000000 in
set_option maxHeartbeats 1000000 in
theorem rset_any (A0 : Option Addr) (c0 : Nat) (xs : List TimerV) (id mom every : Int) (F : Hp) (h0 : RowAt F [] A0 (xs.flatMap TimerV.enc)) (hfit : (xs.length + 1) * 24 ≤ 140737488355328) : Spec Try.prog 41 [.slice A0 xs.length c0, .int .i64 id, .int .i64 mom, .int .i64 every] F [] fun v hs => ListT (offT id xs ++ [⟨id, capV mom, every⟩]) v hs := by
  have hlen := offT_len id xs
  refine Spec.enter Try.func41 rfl Try.ntmps41 rfl fun B => ?_
  ((refine W.seqK fun Q hQ => ?_); (refine W.region ?_); (apply WL.rd; (exact rfl); exact Rn.assign rfl); (refine WL.nil ?_); (refine Cont.nx (by assumption) _ _ ?_); (refine W.seqK fun Q hQ => ?_); (refine W.seqK fun Q hQ => ?_); (refine W.region ?_); (apply WL.rd; (exact rfl); exact Rn.move rfl); (apply WL.rd; (exact rfl); exact Rn.cmp rfl rfl rfl); (refine WL.nil ?_); (refine Cont.nx (by assumption) _ _ ?_))
  refine W.cond rfl (fun h => ?_) (fun h => ?_) <;> (try simp only [beq_iff_eq, bne_iff_ne, decide_eq_true_eq, decide_eq_false_iff_not, beq_eq_false_iff_ne, bne_eq_false_iff_eq, Bool.not_true, Bool.not_false, ne_eq, Int.not_lt, Int.not_le, Bool.not_eq_true', Bool.not_eq_false', Bool.not_eq_eq_eq_not] at h)
  · have e : capV mom = 1099511627776 := if_pos h
    have hne : (offT id xs ++ [(⟨id, 1099511627776, every⟩ : TimerV)]).length = (offT id xs).length + 1 := by simp
    ((refine W.region ?_); (apply WL.rd; (exact rfl); exact Rn.assign rfl); (refine WL.nil ?_); (refine Cont.nx (by assumption) _ _ ?_); (refine W.seqK fun Q hQ => ?_); (refine W.region ?_); (apply WL.rd; (exact rfl); exact Rn.move rfl); (apply WL.rd; (exact rfl); exact Rn.move rfl))
    apply WL.ex
    · exact rfl
    (refine WO.call0 Try.func42 rfl (by kernel_rfl) rfl (fun G hG hh => rwithout_any A0 c0 xs id G (h0.up hG (by simp)) (by omega)) ?_; rintro v own' ⟨A2, c2, h2, rfl, rfl, ha2⟩)
    ((apply WL.rd; (exact rfl); exact Rn.move rfl); (apply WL.rd; (exact rfl); exact Rn.move rfl); (apply WL.rd; (exact rfl); exact Rn.move rfl); (apply WL.rd; (exact rfl); apply Rn.build; (focus ((repeat (first | exact Fill.nil | (apply Fill.cell; (exact rfl); (exact rfl); (exact rfl); (focus ((repeat (first | exact SetAt.zero | apply SetAt.succ)); done))))); done))); (apply WL.ex; (exact rfl); apply WO.buildSlice; (exact rfl); (exact rfl); (focus ((repeat (first | exact Fill.nil | (apply Fill.cell; (exact rfl); (exact rfl); (exact rfl); (focus ((repeat (first | exact SetAt.zero | apply SetAt.succ)); done))) | (apply Fill.part; (exact rfl); (exact rfl); (exact rfl); (focus ((repeat (first | exact SpAt.nil | apply SpAt.put | apply SpAt.skip)); done))))); done)); intro nb))
    apply WL.ex
    · exact rfl
    (apply WO.append (h := h2) (news := (⟨id, 1099511627776, every⟩ : TimerV).enc) (m := 1); (exact rfl); (exact rfl); (focus ((repeat (first | exact Take.here | apply Take.there)); done)); (exact ha2); (exact rfl); (decide); (exact rfl); (apply RowAt.cells; (focus ((repeat (first | exact At.one | exact At.here (by assumption) | exact At.ro (by assumption) | apply At.there)); done))); (exact rfl); (first | omega | (simp; omega) | simp); (first | omega | (simp; omega) | simp); intro A' c' h' hap)
    ((apply WL.rd; (exact rfl); exact Rn.assign rfl); (refine WL.nil ?_); (refine Cont.nx (by assumption) _ _ ?_); (refine W.ret ?_))
    (first | (apply X.ret1; (exact rfl); (exact rfl)) | (apply X.ret2; (exact rfl); (exact rfl); (exact rfl)) | (apply X.retSt; (exact rfl); infer_instance; infer_instance; (exact rfl); (exact rfl); (focus ((repeat (first | exact At.one | exact At.here (by assumption) | exact At.ro (by assumption) | apply At.there)); done)); (exact rfl)) | (apply X.retS; (exact rfl); infer_instance; infer_instance; (exact rfl); (focus ((repeat (first | exact At.one | exact At.here (by assumption) | exact At.ro (by assumption) | apply At.there)); done)); (exact rfl)) | (apply X.ret3; (exact rfl); (exact rfl); (exact rfl); (exact rfl)) | (apply X.ret4; (exact rfl); (exact rfl); (exact rfl); (exact rfl); (exact rfl)) | (apply X.ret0; (exact rfl)) | (apply X.end0; (exact rfl)))
    exact ⟨[h'], (by (focus ((repeat (first | exact Keep.nil | (apply Keep.cons; (focus ((repeat (first | exact Take.here | apply Take.there)); done))))); done))), A', c', h', by rw [e, hne], rfl, by rw [e]; unfold ArrT; rw [hne, List.flatMap_append, List.flatMap_singleton]; exact hap⟩
  · have e : capV mom = mom := if_neg (by omega)
    have hne : (offT id xs ++ [(⟨id, mom, every⟩ : TimerV)]).length = (offT id xs).length + 1 := by simp
    ((refine W.skip ?_); (refine Cont.nx (by assumption) _ _ ?_); (refine W.seqK fun Q hQ => ?_); (refine W.region ?_); (apply WL.rd; (exact rfl); exact Rn.move rfl); (apply WL.rd; (exact rfl); exact Rn.move rfl))
    apply WL.ex
    · exact rfl
    (refine WO.call0 Try.func42 rfl (by kernel_rfl) rfl (fun G hG hh => rwithout_any A0 c0 xs id G (h0.up hG (by simp)) (by omega)) ?_; rintro v own' ⟨A2, c2, h2, rfl, rfl, ha2⟩)
    ((apply WL.rd; (exact rfl); exact Rn.move rfl); (apply WL.rd; (exact rfl); exact Rn.move rfl); (apply WL.rd; (exact rfl); exact Rn.move rfl); (apply WL.rd; (exact rfl); apply Rn.build; (focus ((repeat (first | exact Fill.nil | (apply Fill.cell; (exact rfl); (exact rfl); (exact rfl); (focus ((repeat (first | exact SetAt.zero | apply SetAt.succ)); done))))); done))); (apply WL.ex; (exact rfl); apply WO.buildSlice; (exact rfl); (exact rfl); (focus ((repeat (first | exact Fill.nil | (apply Fill.cell; (exact rfl); (exact rfl); (exact rfl); (focus ((repeat (first | exact SetAt.zero | apply SetAt.succ)); done))) | (apply Fill.part; (exact rfl); (exact rfl); (exact rfl); (focus ((repeat (first | exact SpAt.nil | apply SpAt.put | apply SpAt.skip)); done))))); done)); intro nb))
    apply WL.ex
    · exact rfl
    (apply WO.append (h := h2) (news := (⟨id, mom, every⟩ : TimerV).enc) (m := 1); (exact rfl); (exact rfl); (focus ((repeat (first | exact Take.here | apply Take.there)); done)); (exact ha2); (exact rfl); (decide); (exact rfl); (apply RowAt.cells; (focus ((repeat (first | exact At.one | exact At.here (by assumption) | exact At.ro (by assumption) | apply At.there)); done))); (exact rfl); (first | omega | (simp; omega) | simp); (first | omega | (simp; omega) | simp); intro A' c' h' hap)
    ((apply WL.rd; (exact rfl); exact Rn.assign rfl); (refine WL.nil ?_); (refine Cont.nx (by assumption) _ _ ?_); (refine W.ret ?_))
    (first | (apply X.ret1; (exact rfl); (exact rfl)) | (apply X.ret2; (exact rfl); (exact rfl); (exact rfl)) | (apply X.retSt; (exact rfl); infer_instance; infer_instance; (exact rfl); (exact rfl); (focus ((repeat (first | exact At.one | exact At.here (by assumption) | exact At.ro (by assumption) | apply At.there)); done)); (exact rfl)) | (apply X.retS; (exact rfl); infer_instance; infer_instance; (exact rfl); (focus ((repeat (first | exact At.one | exact At.here (by assumption) | exact At.ro (by assumption) | apply At.there)); done)); (exact rfl)) | (apply X.ret3; (exact rfl); (exact rfl); (exact rfl); (exact rfl)) | (apply X.ret4; (exact rfl); (exact rfl); (exact rfl); (exact rfl); (exact rfl)) | (apply X.ret0; (exact rfl)) | (apply X.end0; (exact rfl)))
    exact ⟨[h'], (by (focus ((repeat (first | exact Keep.nil | (apply Keep.cons; (focus ((repeat (first | exact Take.here | apply Take.there)); done))))); done))), A', c', h', by rw [e, hne], rfl, by rw [e]; unfold ArrT; rw [hne, List.flatMap_append, List.flatMap_singleton]; exact hap⟩
/-- no other one is due ahead of it -/
def FirstT (l : List TimerV) (x : TimerV) : Prop := x ∈ l ∧ ∀ y ∈ l, ahead (toHT y) (toHT x) = false
theorem FirstT.uniq {l : List TimerV} (nd : (l.map (·.id)).Nodup) {x y : TimerV} (h : FirstT l x) (k : FirstT l y) : x = y := by
  have e := ahead_tot (h.2 y k.1) (k.2 x h.1)
  exact nd_uniq nd h.1 k.1 (congrArg HI.id e).symm
def nextT (x : TimerV) (l : List TimerV) : List TimerV := if 0 < x.every then offT x.id l ++ [⟨x.id, laterV x.mom x.every, x.every⟩] else offT x.id l
structure DuS where
  i : Nat
  bv : Int
/-- the best one so far of those that are due -/
def BestT (xs : List TimerV) (now : Int) (i : Nat) (bv : Int) : Prop := (bv = -1 ∧ ∀ (j : Nat) y, j < i → xs[j]? = some y → now < y.mom) ∨ ∃ (m : Nat) (z : TimerV), bv = (m : Nat) ∧ m < i ∧ xs[m]? = some z ∧ z.mom ≤ now ∧ ∀ (j : Nat) y, j < i → xs[j]? = some y → now < y.mom ∨ ahead (toHT y) (toHT z) = false
theorem BestT.later {xs : List TimerV} {now : Int} {i : Nat} {bv : Int} {x : TimerV} (h : BestT xs now i bv) (hx : xs[i]? = some x) (hl : now < x.mom) : BestT xs now (i + 1) bv := by
  rcases h with ⟨rfl, h⟩ | ⟨m, z, rfl, hm, hz, hzn, h⟩
  · refine .inl ⟨rfl, fun j y hj hy => ?_⟩
    by_cases e : j = i
    · subst e; rw [hx] at hy; cases hy; exact hl
    · exact h j y (by omega) hy
  · refine .inr ⟨m, z, rfl, by omega, hz, hzn, fun j y hj hy => ?_⟩
    by_cases e : j = i
    · subst e; rw [hx] at hy; cases hy; exact .inl hl
    · exact h j y (by omega) hy
theorem BestT.keep {xs : List TimerV} {now : Int} {i m : Nat} {x z : TimerV} (h : ∀ (j : Nat) y, j < i → xs[j]? = some y → now < y.mom ∨ ahead (toHT y) (toHT z) = false) (hm : m < i) (hz : xs[m]? = some z) (hzn : z.mom ≤ now) (hx : xs[i]? = some x) (hl : ahead (toHT x) (toHT z) = false) : BestT xs now (i + 1) (m : Nat) := by
  refine .inr ⟨m, z, rfl, by omega, hz, hzn, fun j y hj hy => ?_⟩
  by_cases e : j = i
  · subst e; rw [hx] at hy; cases hy; exact .inr hl
  · exact h j y (by omega) hy
theorem BestT.turn {xs : List TimerV} {now : Int} {i : Nat} {x z : TimerV} (h : ∀ (j : Nat) y, j < i → xs[j]? = some y → now < y.mom ∨ ahead (toHT y) (toHT z) = false) (hx : xs[i]? = some x) (hn : x.mom ≤ now) (hl : ahead (toHT x) (toHT z) = true) : BestT xs now (i + 1) (i : Nat) := by
  refine .inr ⟨i, x, rfl, by omega, hx, hn, fun j y hj hy => ?_⟩
  by_cases e : j = i
  · subst e; rw [hx] at hy; cases hy; exact .inr (ahead_irr _)
  · rcases h j y (by omega) hy with h | h
    · exact .inl h
    · exact .inr (ahead_nahead hl h)
theorem BestT.first {xs : List TimerV} {now : Int} {i : Nat} {x : TimerV} (h : ∀ (j : Nat) y, j < i → xs[j]? = some y → now < y.mom) (hx : xs[i]? = some x) (hn : x.mom ≤ now) : BestT xs now (i + 1) (i : Nat) := by
  refine .inr ⟨i, x, rfl, by omega, hx, hn, fun j y hj hy => ?_⟩
  by_cases e : j = i
  · subst e; rw [hx] at hy; cases hy; exact .inr (ahead_irr _)
  · exact .inl (h j y (by omega) hy)
theorem BestT.none_due {xs : List TimerV} {now : Int} (h : ∀ (j : Nat) y, j < xs.length → xs[j]? = some y → now < y.mom) : ∀ x ∈ xs, now < x.mom := fun x hx => by
  obtain ⟨j, hj, e⟩ := List.getElem_of_mem hx
  exact h j x hj (by rw [List.getElem?_eq_getElem hj, e])
theorem BestT.isFirst {xs : List TimerV} {now : Int} {m : Nat} {z : TimerV} (h : ∀ (j : Nat) y, j < xs.length → xs[j]? = some y → now < y.mom ∨ ahead (toHT y) (toHT z) = false) (hz : xs[m]? = some z) (hzn : z.mom ≤ now) : FirstT xs z := by
  refine ⟨List.mem_of_getElem? hz, fun y hy => ?_⟩
  obtain ⟨j, hj, e⟩ := List.getElem_of_mem hy
  rcases h j y hj (by rw [List.getElem?_eq_getElem hj, e]) with h | h
  · rw [ahead_false]; show ¬ (y.mom < z.mom ∨ _); unfold toHT; dsimp only; omega
  · exact h
set_option maxHeartbeats 8000000 in
theorem rdue_any (A0 : Option Addr) (c0 : Nat) (xs : List TimerV) (now : Int) (F : Hp) (h0 : RowAt F [] A0 (xs.flatMap TimerV.enc)) (hfit : (xs.length + 1) * 24 ≤ 140737488355328) (hbd : BdT xs) : Spec Try.prog 74 [.slice A0 xs.length c0, .int .i64 now] F [] fun v hs => (∃ x u, FirstT xs x ∧ x.mom ≤ now ∧ v = .tuple #[u, .agg x.arr, .bool true] ∧ ListT (nextT x xs) u hs) ∨ ((∀ x ∈ xs, now < x.mom) ∧ v = .tuple #[.slice A0 xs.length c0, .agg (⟨0, 0, 0⟩ : TimerV).arr, .bool false] ∧ hs = []) := by
  refine Spec.enter Try.func74 rfl Try.ntmps74 rfl fun B => ?_
  ((refine W.seqK fun Q hQ => ?_); (refine W.region ?_); (apply WL.rd; (exact rfl); exact Rn.assign rfl); (refine WL.ex rfl (WO.alloc ?_); intro nb); (apply WL.rd; (exact rfl); exact Rn.assign rfl); (refine WL.nil ?_); (refine Cont.nx (by assumption) _ _ ?_); (refine W.seqK fun Q hQ => ?_); (refine W.region ?_); (apply WL.rd; (exact rfl); exact Rn.assign rfl); (refine WL.nil ?_); (refine Cont.nx (by assumption) _ _ ?_); (refine W.seqK fun Q hQ => ?_); (refine W.seqK fun Q hQ => ?_); (refine W.region ?_); (apply WL.rd; (exact rfl); exact Rn.assign rfl); (refine WL.nil ?_); (refine Cont.nx (by assumption) _ _ ?_); (refine W.blockK fun Q hQ => ?_))
  refine W.loopK (σ := DuS) ⟨fun s => s.i ≤ xs.length ∧ BestT xs now s.i s.bv, fun s => [(8, some (.int .i64 (s.i : Nat))), (7, some (.int .i64 s.bv)), (5, some (.pointer (some ⟨nb, 0, none⟩))), (0, some (.slice A0 xs.length c0)), (1, some (.int .i64 now))], fun s => [one nb (cells [.int .i64 0, .int .i64 0, .int .i64 0] 72)], fun s => xs.length - s.i⟩ ⟨0, -1⟩ ⟨Nat.zero_le _, .inl ⟨rfl, fun j y hj => absurd hj (Nat.not_lt_zero _)⟩⟩ ⟨rfl, rfl, rfl, rfl, rfl, trivial⟩ (by (focus ((repeat (first | exact Keep.nil | (apply Keep.cons; (focus ((repeat (first | exact Take.here | apply Take.there)); done))))); done))) ?_
  rintro ⟨i, bv⟩ ⟨hi, hb⟩ Q hL
  dsimp only at hi hb ⊢
  ((refine W.seqK fun Q hQ => ?_); (refine W.seqK fun Q hQ => ?_); (refine W.region ?_); (apply WL.rd; (exact rfl); exact Rn.move rfl); (apply WL.rd; (exact rfl); exact Rn.move rfl); (apply WL.rd; (exact rfl); exact Rn.len rfl); (apply WL.rd; (exact rfl); exact Rn.cmp rfl rfl rfl); (refine WL.nil ?_); (refine Cont.nx (by assumption) _ _ ?_))
  refine W.cond rfl (fun h => ?_) (fun h => ?_) <;> (try simp only [beq_iff_eq, bne_iff_ne, decide_eq_true_eq, decide_eq_false_iff_not, beq_eq_false_iff_ne, bne_eq_false_iff_eq, Bool.not_true, Bool.not_false, ne_eq, Int.not_lt, Int.not_le, Bool.not_eq_true', Bool.not_eq_false', Bool.not_eq_eq_eq_not] at h)
  · have hlt : i < xs.length := by omega
    have hxi : xs[i]? = some xs[i] := List.getElem?_eq_getElem hlt
    generalize xs[i] = x at hxi
    obtain ⟨g, o, rfl, g1⟩ := h0.elem 3 (fun _ => rfl) (by omega) i x hxi
    by_cases c1 : x.mom ≤ now
    · rcases hb with ⟨rfl, hb⟩ | ⟨m, z, rfl, hm, hz, hzn, hb⟩
      · skip
        ((refine W.skip ?_); (refine Cont.nx (by assumption) _ _ ?_); (refine W.seqK fun Q hQ => ?_); (refine W.blockK fun Q hQ => ?_); (refine W.seqK fun Q hQ => ?_))
        refine W.draw [] [] (by kernel_rfl) rfl (by kernel_rfl) (by (repeat (first | exact NP.body | refine Cont.np (by assumption) ?_ | refine Blk.np (by assumption) ?_ | refine Again.np (by assumption) ?_ | refine Scp.np (by assumption) ?_ | refine Met.np (by assumption) ?_))) (by (repeat (first | exact Pin.nil | (apply Pin.cons; (exact rfl); (focus ((repeat (first | exact Take.here | apply Take.there)); done)))))) ?_
        refine WA.tp (i := 0) (ls := bts 50 1) rfl rfl (by kernel_rfl) (Rn.move rfl) ?_
        refine WA.tp (i := 1) (ls := bts 50 3) rfl rfl (by kernel_rfl) (Rn.move rfl) ?_
        refine WA.tp (i := 2) (ls := bts 50 7) rfl rfl (by kernel_rfl) (by (exact Rn.indexAddr i rfl rfl rfl hlt)) ?_
        refine WA.tp (i := 3) (ls := bts 50 15) rfl rfl (by kernel_rfl) (by first | exact Rn.fieldAddr0 rfl | exact Rn.fieldAddr rfl) ?_
        refine WA.tp (i := 4) (ls := bts 50 31) rfl rfl (by kernel_rfl) (by (apply Rn.load; (exact rfl); (exact (CellsAt.weak g1 (by simp)) 1 _ rfl))) ?_
        refine WA.tp (i := 5) (ls := bts 50 63) rfl rfl (by kernel_rfl) (Rn.move rfl) ?_
        refine WA.tp (i := 6) (ls := bts 50 127) rfl rfl (by kernel_rfl) (by (exact Rn.cmp (b := true) rfl rfl (congrArg some (decide_eq_true c1)))) ?_
        refine WA.tp (i := 7) (ls := bts 50 255) rfl rfl (by kernel_rfl) (Rn.move rfl) ?_
        refine WA.tpY (i := 8) (ls := bts 50 511) rfl rfl rfl rfl (by kernel_rfl) (Rn.move rfl) ?_
        refine WA.tpY (i := 9) (ls := bts 50 1023) rfl rfl rfl rfl (by kernel_rfl) (by (exact Rn.cmp (b := true) rfl rfl (congrArg some rfl))) ?_
        refine WA.tpY (i := 10) (ls := bts 50 2047) rfl rfl rfl rfl (by kernel_rfl) (Rn.move rfl) ?_
        first | refine WA.tn (i := 11) (ls := bts 50 4095) rfl rfl rfl rfl rfl (by kernel_rfl) ?_ | refine WA.tnU (i := 11) (ls := bts 50 4095) rfl rfl rfl rfl (by kernel_rfl) ?_
        first | refine WA.tn (i := 12) (ls := bts 50 8191) rfl rfl rfl rfl rfl (by kernel_rfl) ?_ | refine WA.tnU (i := 12) (ls := bts 50 8191) rfl rfl rfl rfl (by kernel_rfl) ?_
        first | refine WA.tn (i := 13) (ls := bts 50 16383) rfl rfl rfl rfl rfl (by kernel_rfl) ?_ | refine WA.tnU (i := 13) (ls := bts 50 16383) rfl rfl rfl rfl (by kernel_rfl) ?_
        first | refine WA.tn (i := 14) (ls := bts 50 32767) rfl rfl rfl rfl rfl (by kernel_rfl) ?_ | refine WA.tnU (i := 14) (ls := bts 50 32767) rfl rfl rfl rfl (by kernel_rfl) ?_
        first | refine WA.tn (i := 15) (ls := bts 50 65535) rfl rfl rfl rfl rfl (by kernel_rfl) ?_ | refine WA.tnU (i := 15) (ls := bts 50 65535) rfl rfl rfl rfl (by kernel_rfl) ?_
        first | refine WA.tn (i := 16) (ls := bts 50 131071) rfl rfl rfl rfl rfl (by kernel_rfl) ?_ | refine WA.tnU (i := 16) (ls := bts 50 131071) rfl rfl rfl rfl (by kernel_rfl) ?_
        first | refine WA.tn (i := 17) (ls := bts 50 262143) rfl rfl rfl rfl rfl (by kernel_rfl) ?_ | refine WA.tnU (i := 17) (ls := bts 50 262143) rfl rfl rfl rfl (by kernel_rfl) ?_
        first | refine WA.tn (i := 18) (ls := bts 50 524287) rfl rfl rfl rfl rfl (by kernel_rfl) ?_ | refine WA.tnU (i := 18) (ls := bts 50 524287) rfl rfl rfl rfl (by kernel_rfl) ?_
        first | refine WA.tn (i := 19) (ls := bts 50 1048575) rfl rfl rfl rfl rfl (by kernel_rfl) ?_ | refine WA.tnU (i := 19) (ls := bts 50 1048575) rfl rfl rfl rfl (by kernel_rfl) ?_
        first | refine WA.tn (i := 20) (ls := bts 50 2097151) rfl rfl rfl rfl rfl (by kernel_rfl) ?_ | refine WA.tnU (i := 20) (ls := bts 50 2097151) rfl rfl rfl rfl (by kernel_rfl) ?_
        first | refine WA.tn (i := 21) (ls := bts 50 4194303) rfl rfl rfl rfl rfl (by kernel_rfl) ?_ | refine WA.tnU (i := 21) (ls := bts 50 4194303) rfl rfl rfl rfl (by kernel_rfl) ?_
        refine WA.tpY (i := 22) (ls := bts 50 8388607) rfl rfl rfl rfl (by kernel_rfl) (by first | exact Rn.pickT rfl rfl | exact Rn.pickF rfl rfl) ?_
        refine WA.tpY (i := 23) (ls := bts 50 16777215) rfl rfl rfl rfl (by kernel_rfl) (Rn.move rfl) ?_
        first | refine WA.tn (i := 24) (ls := bts 50 33554431) rfl rfl rfl rfl rfl (by kernel_rfl) ?_ | refine WA.tnU (i := 24) (ls := bts 50 33554431) rfl rfl rfl rfl (by kernel_rfl) ?_
        first | refine WA.tn (i := 25) (ls := bts 50 67108863) rfl rfl rfl rfl rfl (by kernel_rfl) ?_ | refine WA.tnU (i := 25) (ls := bts 50 67108863) rfl rfl rfl rfl (by kernel_rfl) ?_
        first | refine WA.tn (i := 26) (ls := bts 50 134217727) rfl rfl rfl rfl rfl (by kernel_rfl) ?_ | refine WA.tnU (i := 26) (ls := bts 50 134217727) rfl rfl rfl rfl (by kernel_rfl) ?_
        first | refine WA.tn (i := 27) (ls := bts 50 268435455) rfl rfl rfl rfl rfl (by kernel_rfl) ?_ | refine WA.tnU (i := 27) (ls := bts 50 268435455) rfl rfl rfl rfl (by kernel_rfl) ?_
        first | refine WA.tn (i := 28) (ls := bts 50 536870911) rfl rfl rfl rfl rfl (by kernel_rfl) ?_ | refine WA.tnU (i := 28) (ls := bts 50 536870911) rfl rfl rfl rfl (by kernel_rfl) ?_
        first | refine WA.tn (i := 29) (ls := bts 50 1073741823) rfl rfl rfl rfl rfl (by kernel_rfl) ?_ | refine WA.tnU (i := 29) (ls := bts 50 1073741823) rfl rfl rfl rfl (by kernel_rfl) ?_
        first | refine WA.tn (i := 30) (ls := bts 50 2147483647) rfl rfl rfl rfl rfl (by kernel_rfl) ?_ | refine WA.tnU (i := 30) (ls := bts 50 2147483647) rfl rfl rfl rfl (by kernel_rfl) ?_
        first | refine WA.tn (i := 31) (ls := bts 50 4294967295) rfl rfl rfl rfl rfl (by kernel_rfl) ?_ | refine WA.tnU (i := 31) (ls := bts 50 4294967295) rfl rfl rfl rfl (by kernel_rfl) ?_
        first | refine WA.tn (i := 32) (ls := bts 50 8589934591) rfl rfl rfl rfl rfl (by kernel_rfl) ?_ | refine WA.tnU (i := 32) (ls := bts 50 8589934591) rfl rfl rfl rfl (by kernel_rfl) ?_
        first | refine WA.tn (i := 33) (ls := bts 50 17179869183) rfl rfl rfl rfl rfl (by kernel_rfl) ?_ | refine WA.tnU (i := 33) (ls := bts 50 17179869183) rfl rfl rfl rfl (by kernel_rfl) ?_
        first | refine WA.tn (i := 34) (ls := bts 50 34359738367) rfl rfl rfl rfl rfl (by kernel_rfl) ?_ | refine WA.tnU (i := 34) (ls := bts 50 34359738367) rfl rfl rfl rfl (by kernel_rfl) ?_
        first | refine WA.tn (i := 35) (ls := bts 50 68719476735) rfl rfl rfl rfl rfl (by kernel_rfl) ?_ | refine WA.tnU (i := 35) (ls := bts 50 68719476735) rfl rfl rfl rfl (by kernel_rfl) ?_
        first | refine WA.tn (i := 36) (ls := bts 50 137438953471) rfl rfl rfl rfl rfl (by kernel_rfl) ?_ | refine WA.tnU (i := 36) (ls := bts 50 137438953471) rfl rfl rfl rfl (by kernel_rfl) ?_
        first | refine WA.tn (i := 37) (ls := bts 50 274877906943) rfl rfl rfl rfl rfl (by kernel_rfl) ?_ | refine WA.tnU (i := 37) (ls := bts 50 274877906943) rfl rfl rfl rfl (by kernel_rfl) ?_
        first | refine WA.tn (i := 38) (ls := bts 50 549755813887) rfl rfl rfl rfl rfl (by kernel_rfl) ?_ | refine WA.tnU (i := 38) (ls := bts 50 549755813887) rfl rfl rfl rfl (by kernel_rfl) ?_
        first | refine WA.tn (i := 39) (ls := bts 50 1099511627775) rfl rfl rfl rfl rfl (by kernel_rfl) ?_ | refine WA.tnU (i := 39) (ls := bts 50 1099511627775) rfl rfl rfl rfl (by kernel_rfl) ?_
        first | refine WA.tn (i := 40) (ls := bts 50 2199023255551) rfl rfl rfl rfl rfl (by kernel_rfl) ?_ | refine WA.tnU (i := 40) (ls := bts 50 2199023255551) rfl rfl rfl rfl (by kernel_rfl) ?_
        first | refine WA.tn (i := 41) (ls := bts 50 4398046511103) rfl rfl rfl rfl rfl (by kernel_rfl) ?_ | refine WA.tnU (i := 41) (ls := bts 50 4398046511103) rfl rfl rfl rfl (by kernel_rfl) ?_
        first | refine WA.tn (i := 42) (ls := bts 50 8796093022207) rfl rfl rfl rfl rfl (by kernel_rfl) ?_ | refine WA.tnU (i := 42) (ls := bts 50 8796093022207) rfl rfl rfl rfl (by kernel_rfl) ?_
        first | refine WA.tn (i := 43) (ls := bts 50 17592186044415) rfl rfl rfl rfl rfl (by kernel_rfl) ?_ | refine WA.tnU (i := 43) (ls := bts 50 17592186044415) rfl rfl rfl rfl (by kernel_rfl) ?_
        first | refine WA.tn (i := 44) (ls := bts 50 35184372088831) rfl rfl rfl rfl rfl (by kernel_rfl) ?_ | refine WA.tnU (i := 44) (ls := bts 50 35184372088831) rfl rfl rfl rfl (by kernel_rfl) ?_
        first | refine WA.tn (i := 45) (ls := bts 50 70368744177663) rfl rfl rfl rfl rfl (by kernel_rfl) ?_ | refine WA.tnU (i := 45) (ls := bts 50 70368744177663) rfl rfl rfl rfl (by kernel_rfl) ?_
        first | refine WA.tn (i := 46) (ls := bts 50 140737488355327) rfl rfl rfl rfl rfl (by kernel_rfl) ?_ | refine WA.tnU (i := 46) (ls := bts 50 140737488355327) rfl rfl rfl rfl (by kernel_rfl) ?_
        first | refine WA.tn (i := 47) (ls := bts 50 281474976710655) rfl rfl rfl rfl rfl (by kernel_rfl) ?_ | refine WA.tnU (i := 47) (ls := bts 50 281474976710655) rfl rfl rfl rfl (by kernel_rfl) ?_
        refine WA.tpY (i := 48) (ls := bts 50 562949953421311) rfl rfl rfl rfl (by kernel_rfl) (by first | exact Rn.pickT rfl rfl | exact Rn.pickF rfl rfl) ?_
        refine WA.tp (i := 49) (ls := bts 50 1125899906842623) rfl rfl (by kernel_rfl) (by first | exact Rn.pickT rfl rfl | exact Rn.pickF rfl rfl) ?_
        refine WA.done (by kernel_rfl) ?_
        ((refine Cont.nx (by assumption) _ _ ?_); (refine W.condT rfl ?_); (refine W.region ?_); (apply WL.rd; (exact rfl); exact Rn.move rfl); (apply WL.rd; (exact rfl); exact Rn.assign rfl); (refine WL.nil ?_); (refine Blk.nx (by assumption) _ _ ?_); (refine Cont.nx (by assumption) _ _ ?_); (refine W.region ?_); (apply WL.rd; (exact rfl); exact Rn.move rfl); (apply WL.rd; (exact rfl); exact Rn.add rfl rfl (by omega)); (apply WL.rd; (exact rfl); exact Rn.assign rfl); (refine WL.nil ?_))
        exact hL.nx ⟨i + 1, i⟩ _ _ ⟨by dsimp only; omega, BestT.first hb hxi c1⟩ (by dsimp only; omega) ⟨rfl, rfl, rfl, rfl, rfl, trivial⟩ (by (focus ((repeat (first | exact Keep.nil | (apply Keep.cons; (focus ((repeat (first | exact Take.here | apply Take.there)); done))))); done)))
      · have hltm : m < xs.length := by omega
        obtain ⟨g', o', e', g2⟩ := h0.elem 3 (fun _ => rfl) (by omega) m z hz
        cases e'
        by_cases c2 : x.mom < z.mom
        · skip
          ((refine W.skip ?_); (refine Cont.nx (by assumption) _ _ ?_); (refine W.seqK fun Q hQ => ?_); (refine W.blockK fun Q hQ => ?_); (refine W.seqK fun Q hQ => ?_))
          refine W.draw [] [] (by kernel_rfl) rfl (by kernel_rfl) (by (repeat (first | exact NP.body | refine Cont.np (by assumption) ?_ | refine Blk.np (by assumption) ?_ | refine Again.np (by assumption) ?_ | refine Scp.np (by assumption) ?_ | refine Met.np (by assumption) ?_))) (by (repeat (first | exact Pin.nil | (apply Pin.cons; (exact rfl); (focus ((repeat (first | exact Take.here | apply Take.there)); done)))))) ?_
          refine WA.tp (i := 0) (ls := bts 50 1) rfl rfl (by kernel_rfl) (Rn.move rfl) ?_
          refine WA.tp (i := 1) (ls := bts 50 3) rfl rfl (by kernel_rfl) (Rn.move rfl) ?_
          refine WA.tp (i := 2) (ls := bts 50 7) rfl rfl (by kernel_rfl) (by (exact Rn.indexAddr i rfl rfl rfl hlt)) ?_
          refine WA.tp (i := 3) (ls := bts 50 15) rfl rfl (by kernel_rfl) (by first | exact Rn.fieldAddr0 rfl | exact Rn.fieldAddr rfl) ?_
          refine WA.tp (i := 4) (ls := bts 50 31) rfl rfl (by kernel_rfl) (by (apply Rn.load; (exact rfl); (exact (CellsAt.weak g1 (by simp)) 1 _ rfl))) ?_
          refine WA.tp (i := 5) (ls := bts 50 63) rfl rfl (by kernel_rfl) (Rn.move rfl) ?_
          refine WA.tp (i := 6) (ls := bts 50 127) rfl rfl (by kernel_rfl) (by (exact Rn.cmp (b := true) rfl rfl (congrArg some (decide_eq_true c1)))) ?_
          refine WA.tp (i := 7) (ls := bts 50 255) rfl rfl (by kernel_rfl) (Rn.move rfl) ?_
          refine WA.tpY (i := 8) (ls := bts 50 511) rfl rfl rfl rfl (by kernel_rfl) (Rn.move rfl) ?_
          refine WA.tpY (i := 9) (ls := bts 50 1023) rfl rfl rfl rfl (by kernel_rfl) (by (exact Rn.cmp (b := false) rfl rfl (congrArg some (decide_eq_false (by omega))))) ?_
          refine WA.tpY (i := 10) (ls := bts 50 2047) rfl rfl rfl rfl (by kernel_rfl) (Rn.move rfl) ?_
          refine WA.tpY (i := 11) (ls := bts 50 4095) rfl rfl rfl rfl (by kernel_rfl) (Rn.move rfl) ?_
          refine WA.tpY (i := 12) (ls := bts 50 8191) rfl rfl rfl rfl (by kernel_rfl) (Rn.move rfl) ?_
          refine WA.tpY (i := 13) (ls := bts 50 16383) rfl rfl rfl rfl (by kernel_rfl) (by (exact Rn.indexAddr i rfl rfl rfl hlt)) ?_
          refine WA.tpY (i := 14) (ls := bts 50 32767) rfl rfl rfl rfl (by kernel_rfl) (by first | exact Rn.fieldAddr0 rfl | exact Rn.fieldAddr rfl) ?_
          refine WA.tpY (i := 15) (ls := bts 50 65535) rfl rfl rfl rfl (by kernel_rfl) (by (apply Rn.load; (exact rfl); (exact (CellsAt.weak g1 (by simp)) 1 _ rfl))) ?_
          refine WA.tpY (i := 16) (ls := bts 50 131071) rfl rfl rfl rfl (by kernel_rfl) (Rn.move rfl) ?_
          refine WA.tpY (i := 17) (ls := bts 50 262143) rfl rfl rfl rfl (by kernel_rfl) (Rn.move rfl) ?_
          refine WA.tpY (i := 18) (ls := bts 50 524287) rfl rfl rfl rfl (by kernel_rfl) (by (exact Rn.indexAddr m rfl rfl rfl hltm)) ?_
          refine WA.tpY (i := 19) (ls := bts 50 1048575) rfl rfl rfl rfl (by kernel_rfl) (by first | exact Rn.fieldAddr0 rfl | exact Rn.fieldAddr rfl) ?_
          refine WA.tpY (i := 20) (ls := bts 50 2097151) rfl rfl rfl rfl (by kernel_rfl) (by (apply Rn.load; (exact rfl); (exact (CellsAt.weak g2 (by simp)) 1 _ rfl))) ?_
          refine WA.tpY (i := 21) (ls := bts 50 4194303) rfl rfl rfl rfl (by kernel_rfl) (by (exact Rn.cmp (b := true) rfl rfl (congrArg some (decide_eq_true c2)))) ?_
          refine WA.tpY (i := 22) (ls := bts 50 8388607) rfl rfl rfl rfl (by kernel_rfl) (by first | exact Rn.pickT rfl rfl | exact Rn.pickF rfl rfl) ?_
          refine WA.tpY (i := 23) (ls := bts 50 16777215) rfl rfl rfl rfl (by kernel_rfl) (Rn.move rfl) ?_
          first | refine WA.tn (i := 24) (ls := bts 50 33554431) rfl rfl rfl rfl rfl (by kernel_rfl) ?_ | refine WA.tnU (i := 24) (ls := bts 50 33554431) rfl rfl rfl rfl (by kernel_rfl) ?_
          first | refine WA.tn (i := 25) (ls := bts 50 67108863) rfl rfl rfl rfl rfl (by kernel_rfl) ?_ | refine WA.tnU (i := 25) (ls := bts 50 67108863) rfl rfl rfl rfl (by kernel_rfl) ?_
          first | refine WA.tn (i := 26) (ls := bts 50 134217727) rfl rfl rfl rfl rfl (by kernel_rfl) ?_ | refine WA.tnU (i := 26) (ls := bts 50 134217727) rfl rfl rfl rfl (by kernel_rfl) ?_
          first | refine WA.tn (i := 27) (ls := bts 50 268435455) rfl rfl rfl rfl rfl (by kernel_rfl) ?_ | refine WA.tnU (i := 27) (ls := bts 50 268435455) rfl rfl rfl rfl (by kernel_rfl) ?_
          first | refine WA.tn (i := 28) (ls := bts 50 536870911) rfl rfl rfl rfl rfl (by kernel_rfl) ?_ | refine WA.tnU (i := 28) (ls := bts 50 536870911) rfl rfl rfl rfl (by kernel_rfl) ?_
          first | refine WA.tn (i := 29) (ls := bts 50 1073741823) rfl rfl rfl rfl rfl (by kernel_rfl) ?_ | refine WA.tnU (i := 29) (ls := bts 50 1073741823) rfl rfl rfl rfl (by kernel_rfl) ?_
          first | refine WA.tn (i := 30) (ls := bts 50 2147483647) rfl rfl rfl rfl rfl (by kernel_rfl) ?_ | refine WA.tnU (i := 30) (ls := bts 50 2147483647) rfl rfl rfl rfl (by kernel_rfl) ?_
          first | refine WA.tn (i := 31) (ls := bts 50 4294967295) rfl rfl rfl rfl rfl (by kernel_rfl) ?_ | refine WA.tnU (i := 31) (ls := bts 50 4294967295) rfl rfl rfl rfl (by kernel_rfl) ?_
          first | refine WA.tn (i := 32) (ls := bts 50 8589934591) rfl rfl rfl rfl rfl (by kernel_rfl) ?_ | refine WA.tnU (i := 32) (ls := bts 50 8589934591) rfl rfl rfl rfl (by kernel_rfl) ?_
          first | refine WA.tn (i := 33) (ls := bts 50 17179869183) rfl rfl rfl rfl rfl (by kernel_rfl) ?_ | refine WA.tnU (i := 33) (ls := bts 50 17179869183) rfl rfl rfl rfl (by kernel_rfl) ?_
          first | refine WA.tn (i := 34) (ls := bts 50 34359738367) rfl rfl rfl rfl rfl (by kernel_rfl) ?_ | refine WA.tnU (i := 34) (ls := bts 50 34359738367) rfl rfl rfl rfl (by kernel_rfl) ?_
          first | refine WA.tn (i := 35) (ls := bts 50 68719476735) rfl rfl rfl rfl rfl (by kernel_rfl) ?_ | refine WA.tnU (i := 35) (ls := bts 50 68719476735) rfl rfl rfl rfl (by kernel_rfl) ?_
          first | refine WA.tn (i := 36) (ls := bts 50 137438953471) rfl rfl rfl rfl rfl (by kernel_rfl) ?_ | refine WA.tnU (i := 36) (ls := bts 50 137438953471) rfl rfl rfl rfl (by kernel_rfl) ?_
          first | refine WA.tn (i := 37) (ls := bts 50 274877906943) rfl rfl rfl rfl rfl (by kernel_rfl) ?_ | refine WA.tnU (i := 37) (ls := bts 50 274877906943) rfl rfl rfl rfl (by kernel_rfl) ?_
          first | refine WA.tn (i := 38) (ls := bts 50 549755813887) rfl rfl rfl rfl rfl (by kernel_rfl) ?_ | refine WA.tnU (i := 38) (ls := bts 50 549755813887) rfl rfl rfl rfl (by kernel_rfl) ?_
          first | refine WA.tn (i := 39) (ls := bts 50 1099511627775) rfl rfl rfl rfl rfl (by kernel_rfl) ?_ | refine WA.tnU (i := 39) (ls := bts 50 1099511627775) rfl rfl rfl rfl (by kernel_rfl) ?_
          first | refine WA.tn (i := 40) (ls := bts 50 2199023255551) rfl rfl rfl rfl rfl (by kernel_rfl) ?_ | refine WA.tnU (i := 40) (ls := bts 50 2199023255551) rfl rfl rfl rfl (by kernel_rfl) ?_
          first | refine WA.tn (i := 41) (ls := bts 50 4398046511103) rfl rfl rfl rfl rfl (by kernel_rfl) ?_ | refine WA.tnU (i := 41) (ls := bts 50 4398046511103) rfl rfl rfl rfl (by kernel_rfl) ?_
          first | refine WA.tn (i := 42) (ls := bts 50 8796093022207) rfl rfl rfl rfl rfl (by kernel_rfl) ?_ | refine WA.tnU (i := 42) (ls := bts 50 8796093022207) rfl rfl rfl rfl (by kernel_rfl) ?_
          first | refine WA.tn (i := 43) (ls := bts 50 17592186044415) rfl rfl rfl rfl rfl (by kernel_rfl) ?_ | refine WA.tnU (i := 43) (ls := bts 50 17592186044415) rfl rfl rfl rfl (by kernel_rfl) ?_
          first | refine WA.tn (i := 44) (ls := bts 50 35184372088831) rfl rfl rfl rfl rfl (by kernel_rfl) ?_ | refine WA.tnU (i := 44) (ls := bts 50 35184372088831) rfl rfl rfl rfl (by kernel_rfl) ?_
          first | refine WA.tn (i := 45) (ls := bts 50 70368744177663) rfl rfl rfl rfl rfl (by kernel_rfl) ?_ | refine WA.tnU (i := 45) (ls := bts 50 70368744177663) rfl rfl rfl rfl (by kernel_rfl) ?_
          first | refine WA.tn (i := 46) (ls := bts 50 140737488355327) rfl rfl rfl rfl rfl (by kernel_rfl) ?_ | refine WA.tnU (i := 46) (ls := bts 50 140737488355327) rfl rfl rfl rfl (by kernel_rfl) ?_
          first | refine WA.tn (i := 47) (ls := bts 50 281474976710655) rfl rfl rfl rfl rfl (by kernel_rfl) ?_ | refine WA.tnU (i := 47) (ls := bts 50 281474976710655) rfl rfl rfl rfl (by kernel_rfl) ?_
          refine WA.tpY (i := 48) (ls := bts 50 562949953421311) rfl rfl rfl rfl (by kernel_rfl) (by first | exact Rn.pickT rfl rfl | exact Rn.pickF rfl rfl) ?_
          refine WA.tp (i := 49) (ls := bts 50 1125899906842623) rfl rfl (by kernel_rfl) (by first | exact Rn.pickT rfl rfl | exact Rn.pickF rfl rfl) ?_
          refine WA.done (by kernel_rfl) ?_
          ((refine Cont.nx (by assumption) _ _ ?_); (refine W.condT rfl ?_); (refine W.region ?_); (apply WL.rd; (exact rfl); exact Rn.move rfl); (apply WL.rd; (exact rfl); exact Rn.assign rfl); (refine WL.nil ?_); (refine Blk.nx (by assumption) _ _ ?_); (refine Cont.nx (by assumption) _ _ ?_); (refine W.region ?_); (apply WL.rd; (exact rfl); exact Rn.move rfl); (apply WL.rd; (exact rfl); exact Rn.add rfl rfl (by omega)); (apply WL.rd; (exact rfl); exact Rn.assign rfl); (refine WL.nil ?_))
          exact hL.nx ⟨i + 1, i⟩ _ _ ⟨by dsimp only; omega, BestT.turn hb hxi c1 (by rw [ahead_iff]; exact .inl c2)⟩ (by dsimp only; omega) ⟨rfl, rfl, rfl, rfl, rfl, trivial⟩ (by (focus ((repeat (first | exact Keep.nil | (apply Keep.cons; (focus ((repeat (first | exact Take.here | apply Take.there)); done))))); done)))
        · by_cases c3 : x.mom = z.mom
          · by_cases c4 : x.id < z.id
            · skip
              ((refine W.skip ?_); (refine Cont.nx (by assumption) _ _ ?_); (refine W.seqK fun Q hQ => ?_); (refine W.blockK fun Q hQ => ?_); (refine W.seqK fun Q hQ => ?_))
              refine W.draw [] [] (by kernel_rfl) rfl (by kernel_rfl) (by (repeat (first | exact NP.body | refine Cont.np (by assumption) ?_ | refine Blk.np (by assumption) ?_ | refine Again.np (by assumption) ?_ | refine Scp.np (by assumption) ?_ | refine Met.np (by assumption) ?_))) (by (repeat (first | exact Pin.nil | (apply Pin.cons; (exact rfl); (focus ((repeat (first | exact Take.here | apply Take.there)); done)))))) ?_
              refine WA.tp (i := 0) (ls := bts 50 1) rfl rfl (by kernel_rfl) (Rn.move rfl) ?_
              refine WA.tp (i := 1) (ls := bts 50 3) rfl rfl (by kernel_rfl) (Rn.move rfl) ?_
              refine WA.tp (i := 2) (ls := bts 50 7) rfl rfl (by kernel_rfl) (by (exact Rn.indexAddr i rfl rfl rfl hlt)) ?_
              refine WA.tp (i := 3) (ls := bts 50 15) rfl rfl (by kernel_rfl) (by first | exact Rn.fieldAddr0 rfl | exact Rn.fieldAddr rfl) ?_
              refine WA.tp (i := 4) (ls := bts 50 31) rfl rfl (by kernel_rfl) (by (apply Rn.load; (exact rfl); (exact (CellsAt.weak g1 (by simp)) 1 _ rfl))) ?_
              refine WA.tp (i := 5) (ls := bts 50 63) rfl rfl (by kernel_rfl) (Rn.move rfl) ?_
              refine WA.tp (i := 6) (ls := bts 50 127) rfl rfl (by kernel_rfl) (by (exact Rn.cmp (b := true) rfl rfl (congrArg some (decide_eq_true c1)))) ?_
              refine WA.tp (i := 7) (ls := bts 50 255) rfl rfl (by kernel_rfl) (Rn.move rfl) ?_
              refine WA.tpY (i := 8) (ls := bts 50 511) rfl rfl rfl rfl (by kernel_rfl) (Rn.move rfl) ?_
              refine WA.tpY (i := 9) (ls := bts 50 1023) rfl rfl rfl rfl (by kernel_rfl) (by (exact Rn.cmp (b := false) rfl rfl (congrArg some (decide_eq_false (by omega))))) ?_
              refine WA.tpY (i := 10) (ls := bts 50 2047) rfl rfl rfl rfl (by kernel_rfl) (Rn.move rfl) ?_
              refine WA.tpY (i := 11) (ls := bts 50 4095) rfl rfl rfl rfl (by kernel_rfl) (Rn.move rfl) ?_
              refine WA.tpY (i := 12) (ls := bts 50 8191) rfl rfl rfl rfl (by kernel_rfl) (Rn.move rfl) ?_
              refine WA.tpY (i := 13) (ls := bts 50 16383) rfl rfl rfl rfl (by kernel_rfl) (by (exact Rn.indexAddr i rfl rfl rfl hlt)) ?_
              refine WA.tpY (i := 14) (ls := bts 50 32767) rfl rfl rfl rfl (by kernel_rfl) (by first | exact Rn.fieldAddr0 rfl | exact Rn.fieldAddr rfl) ?_
              refine WA.tpY (i := 15) (ls := bts 50 65535) rfl rfl rfl rfl (by kernel_rfl) (by (apply Rn.load; (exact rfl); (exact (CellsAt.weak g1 (by simp)) 1 _ rfl))) ?_
              refine WA.tpY (i := 16) (ls := bts 50 131071) rfl rfl rfl rfl (by kernel_rfl) (Rn.move rfl) ?_
              refine WA.tpY (i := 17) (ls := bts 50 262143) rfl rfl rfl rfl (by kernel_rfl) (Rn.move rfl) ?_
              refine WA.tpY (i := 18) (ls := bts 50 524287) rfl rfl rfl rfl (by kernel_rfl) (by (exact Rn.indexAddr m rfl rfl rfl hltm)) ?_
              refine WA.tpY (i := 19) (ls := bts 50 1048575) rfl rfl rfl rfl (by kernel_rfl) (by first | exact Rn.fieldAddr0 rfl | exact Rn.fieldAddr rfl) ?_
              refine WA.tpY (i := 20) (ls := bts 50 2097151) rfl rfl rfl rfl (by kernel_rfl) (by (apply Rn.load; (exact rfl); (exact (CellsAt.weak g2 (by simp)) 1 _ rfl))) ?_
              refine WA.tpY (i := 21) (ls := bts 50 4194303) rfl rfl rfl rfl (by kernel_rfl) (by (exact Rn.cmp (b := false) rfl rfl (congrArg some (decide_eq_false c2)))) ?_
              refine WA.tpY (i := 22) (ls := bts 50 8388607) rfl rfl rfl rfl (by kernel_rfl) (by first | exact Rn.pickT rfl rfl | exact Rn.pickF rfl rfl) ?_
              refine WA.tpY (i := 23) (ls := bts 50 16777215) rfl rfl rfl rfl (by kernel_rfl) (Rn.move rfl) ?_
              refine WA.tpY (i := 24) (ls := bts 50 33554431) rfl rfl rfl rfl (by kernel_rfl) (Rn.move rfl) ?_
              refine WA.tpY (i := 25) (ls := bts 50 67108863) rfl rfl rfl rfl (by kernel_rfl) (Rn.move rfl) ?_
              refine WA.tpY (i := 26) (ls := bts 50 134217727) rfl rfl rfl rfl (by kernel_rfl) (by (exact Rn.indexAddr i rfl rfl rfl hlt)) ?_
              refine WA.tpY (i := 27) (ls := bts 50 268435455) rfl rfl rfl rfl (by kernel_rfl) (by first | exact Rn.fieldAddr0 rfl | exact Rn.fieldAddr rfl) ?_
              refine WA.tpY (i := 28) (ls := bts 50 536870911) rfl rfl rfl rfl (by kernel_rfl) (by (apply Rn.load; (exact rfl); (exact (CellsAt.weak g1 (by simp)) 1 _ rfl))) ?_
              refine WA.tpY (i := 29) (ls := bts 50 1073741823) rfl rfl rfl rfl (by kernel_rfl) (Rn.move rfl) ?_
              refine WA.tpY (i := 30) (ls := bts 50 2147483647) rfl rfl rfl rfl (by kernel_rfl) (Rn.move rfl) ?_
              refine WA.tpY (i := 31) (ls := bts 50 4294967295) rfl rfl rfl rfl (by kernel_rfl) (by (exact Rn.indexAddr m rfl rfl rfl hltm)) ?_
              refine WA.tpY (i := 32) (ls := bts 50 8589934591) rfl rfl rfl rfl (by kernel_rfl) (by first | exact Rn.fieldAddr0 rfl | exact Rn.fieldAddr rfl) ?_
              refine WA.tpY (i := 33) (ls := bts 50 17179869183) rfl rfl rfl rfl (by kernel_rfl) (by (apply Rn.load; (exact rfl); (exact (CellsAt.weak g2 (by simp)) 1 _ rfl))) ?_
              refine WA.tpY (i := 34) (ls := bts 50 34359738367) rfl rfl rfl rfl (by kernel_rfl) (by (exact Rn.cmp (b := true) rfl rfl (congrArg some (beq_iff_eq.2 c3)))) ?_
              refine WA.tpY (i := 35) (ls := bts 50 68719476735) rfl rfl rfl rfl (by kernel_rfl) (Rn.move rfl) ?_
              refine WA.tpY (i := 36) (ls := bts 50 137438953471) rfl rfl rfl rfl (by kernel_rfl) (Rn.move rfl) ?_
              refine WA.tpY (i := 37) (ls := bts 50 274877906943) rfl rfl rfl rfl (by kernel_rfl) (Rn.move rfl) ?_
              refine WA.tpY (i := 38) (ls := bts 50 549755813887) rfl rfl rfl rfl (by kernel_rfl) (by (exact Rn.indexAddr i rfl rfl rfl hlt)) ?_
              refine WA.tpY (i := 39) (ls := bts 50 1099511627775) rfl rfl rfl rfl (by kernel_rfl) (by first | exact Rn.fieldAddr0 rfl | exact Rn.fieldAddr rfl) ?_
              refine WA.tpY (i := 40) (ls := bts 50 2199023255551) rfl rfl rfl rfl (by kernel_rfl) (by (apply Rn.load; (exact rfl); (exact (CellsAt.weak g1 (by simp)) 0 _ rfl))) ?_
              refine WA.tpY (i := 41) (ls := bts 50 4398046511103) rfl rfl rfl rfl (by kernel_rfl) (Rn.move rfl) ?_
              refine WA.tpY (i := 42) (ls := bts 50 8796093022207) rfl rfl rfl rfl (by kernel_rfl) (Rn.move rfl) ?_
              refine WA.tpY (i := 43) (ls := bts 50 17592186044415) rfl rfl rfl rfl (by kernel_rfl) (by (exact Rn.indexAddr m rfl rfl rfl hltm)) ?_
              refine WA.tpY (i := 44) (ls := bts 50 35184372088831) rfl rfl rfl rfl (by kernel_rfl) (by first | exact Rn.fieldAddr0 rfl | exact Rn.fieldAddr rfl) ?_
              refine WA.tpY (i := 45) (ls := bts 50 70368744177663) rfl rfl rfl rfl (by kernel_rfl) (by (apply Rn.load; (exact rfl); (exact (CellsAt.weak g2 (by simp)) 0 _ rfl))) ?_
              refine WA.tpY (i := 46) (ls := bts 50 140737488355327) rfl rfl rfl rfl (by kernel_rfl) (by (exact Rn.cmp (b := true) rfl rfl (congrArg some (decide_eq_true c4)))) ?_
              refine WA.tpY (i := 47) (ls := bts 50 281474976710655) rfl rfl rfl rfl (by kernel_rfl) (by first | exact Rn.pickT rfl rfl | exact Rn.pickF rfl rfl) ?_
              refine WA.tpY (i := 48) (ls := bts 50 562949953421311) rfl rfl rfl rfl (by kernel_rfl) (by first | exact Rn.pickT rfl rfl | exact Rn.pickF rfl rfl) ?_
              refine WA.tp (i := 49) (ls := bts 50 1125899906842623) rfl rfl (by kernel_rfl) (by first | exact Rn.pickT rfl rfl | exact Rn.pickF rfl rfl) ?_
              refine WA.done (by kernel_rfl) ?_
              ((refine Cont.nx (by assumption) _ _ ?_); (refine W.condT rfl ?_); (refine W.region ?_); (apply WL.rd; (exact rfl); exact Rn.move rfl); (apply WL.rd; (exact rfl); exact Rn.assign rfl); (refine WL.nil ?_); (refine Blk.nx (by assumption) _ _ ?_); (refine Cont.nx (by assumption) _ _ ?_); (refine W.region ?_); (apply WL.rd; (exact rfl); exact Rn.move rfl); (apply WL.rd; (exact rfl); exact Rn.add rfl rfl (by omega)); (apply WL.rd; (exact rfl); exact Rn.assign rfl); (refine WL.nil ?_))
              exact hL.nx ⟨i + 1, i⟩ _ _ ⟨by dsimp only; omega, BestT.turn hb hxi c1 (by rw [ahead_iff]; exact .inr ⟨c3, c4⟩)⟩ (by dsimp only; omega) ⟨rfl, rfl, rfl, rfl, rfl, trivial⟩ (by (focus ((repeat (first | exact Keep.nil | (apply Keep.cons; (focus ((repeat (first | exact Take.here | apply Take.there)); done))))); done)))
            · skip
              ((refine W.skip ?_); (refine Cont.nx (by assumption) _ _ ?_); (refine W.seqK fun Q hQ => ?_); (refine W.blockK fun Q hQ => ?_); (refine W.seqK fun Q hQ => ?_))
              refine W.draw [] [] (by kernel_rfl) rfl (by kernel_rfl) (by (repeat (first | exact NP.body | refine Cont.np (by assumption) ?_ | refine Blk.np (by assumption) ?_ | refine Again.np (by assumption) ?_ | refine Scp.np (by assumption) ?_ | refine Met.np (by assumption) ?_))) (by (repeat (first | exact Pin.nil | (apply Pin.cons; (exact rfl); (focus ((repeat (first | exact Take.here | apply Take.there)); done)))))) ?_
              refine WA.tp (i := 0) (ls := bts 50 1) rfl rfl (by kernel_rfl) (Rn.move rfl) ?_
              refine WA.tp (i := 1) (ls := bts 50 3) rfl rfl (by kernel_rfl) (Rn.move rfl) ?_
              refine WA.tp (i := 2) (ls := bts 50 7) rfl rfl (by kernel_rfl) (by (exact Rn.indexAddr i rfl rfl rfl hlt)) ?_
              refine WA.tp (i := 3) (ls := bts 50 15) rfl rfl (by kernel_rfl) (by first | exact Rn.fieldAddr0 rfl | exact Rn.fieldAddr rfl) ?_
              refine WA.tp (i := 4) (ls := bts 50 31) rfl rfl (by kernel_rfl) (by (apply Rn.load; (exact rfl); (exact (CellsAt.weak g1 (by simp)) 1 _ rfl))) ?_
              refine WA.tp (i := 5) (ls := bts 50 63) rfl rfl (by kernel_rfl) (Rn.move rfl) ?_
              refine WA.tp (i := 6) (ls := bts 50 127) rfl rfl (by kernel_rfl) (by (exact Rn.cmp (b := true) rfl rfl (congrArg some (decide_eq_true c1)))) ?_
              refine WA.tp (i := 7) (ls := bts 50 255) rfl rfl (by kernel_rfl) (Rn.move rfl) ?_
              refine WA.tpY (i := 8) (ls := bts 50 511) rfl rfl rfl rfl (by kernel_rfl) (Rn.move rfl) ?_
              refine WA.tpY (i := 9) (ls := bts 50 1023) rfl rfl rfl rfl (by kernel_rfl) (by (exact Rn.cmp (b := false) rfl rfl (congrArg some (decide_eq_false (by omega))))) ?_
              refine WA.tpY (i := 10) (ls := bts 50 2047) rfl rfl rfl rfl (by kernel_rfl) (Rn.move rfl) ?_
              refine WA.tpY (i := 11) (ls := bts 50 4095) rfl rfl rfl rfl (by kernel_rfl) (Rn.move rfl) ?_
              refine WA.tpY (i := 12) (ls := bts 50 8191) rfl rfl rfl rfl (by kernel_rfl) (Rn.move rfl) ?_
              refine WA.tpY (i := 13) (ls := bts 50 16383) rfl rfl rfl rfl (by kernel_rfl) (by (exact Rn.indexAddr i rfl rfl rfl hlt)) ?_
              refine WA.tpY (i := 14) (ls := bts 50 32767) rfl rfl rfl rfl (by kernel_rfl) (by first | exact Rn.fieldAddr0 rfl | exact Rn.fieldAddr rfl) ?_
              refine WA.tpY (i := 15) (ls := bts 50 65535) rfl rfl rfl rfl (by kernel_rfl) (by (apply Rn.load; (exact rfl); (exact (CellsAt.weak g1 (by simp)) 1 _ rfl))) ?_
              refine WA.tpY (i := 16) (ls := bts 50 131071) rfl rfl rfl rfl (by kernel_rfl) (Rn.move rfl) ?_
              refine WA.tpY (i := 17) (ls := bts 50 262143) rfl rfl rfl rfl (by kernel_rfl) (Rn.move rfl) ?_
              refine WA.tpY (i := 18) (ls := bts 50 524287) rfl rfl rfl rfl (by kernel_rfl) (by (exact Rn.indexAddr m rfl rfl rfl hltm)) ?_
              refine WA.tpY (i := 19) (ls := bts 50 1048575) rfl rfl rfl rfl (by kernel_rfl) (by first | exact Rn.fieldAddr0 rfl | exact Rn.fieldAddr rfl) ?_
              refine WA.tpY (i := 20) (ls := bts 50 2097151) rfl rfl rfl rfl (by kernel_rfl) (by (apply Rn.load; (exact rfl); (exact (CellsAt.weak g2 (by simp)) 1 _ rfl))) ?_
              refine WA.tpY (i := 21) (ls := bts 50 4194303) rfl rfl rfl rfl (by kernel_rfl) (by (exact Rn.cmp (b := false) rfl rfl (congrArg some (decide_eq_false c2)))) ?_
              refine WA.tpY (i := 22) (ls := bts 50 8388607) rfl rfl rfl rfl (by kernel_rfl) (by first | exact Rn.pickT rfl rfl | exact Rn.pickF rfl rfl) ?_
              refine WA.tpY (i := 23) (ls := bts 50 16777215) rfl rfl rfl rfl (by kernel_rfl) (Rn.move rfl) ?_
              refine WA.tpY (i := 24) (ls := bts 50 33554431) rfl rfl rfl rfl (by kernel_rfl) (Rn.move rfl) ?_
              refine WA.tpY (i := 25) (ls := bts 50 67108863) rfl rfl rfl rfl (by kernel_rfl) (Rn.move rfl) ?_
              refine WA.tpY (i := 26) (ls := bts 50 134217727) rfl rfl rfl rfl (by kernel_rfl) (by (exact Rn.indexAddr i rfl rfl rfl hlt)) ?_
              refine WA.tpY (i := 27) (ls := bts 50 268435455) rfl rfl rfl rfl (by kernel_rfl) (by first | exact Rn.fieldAddr0 rfl | exact Rn.fieldAddr rfl) ?_
              refine WA.tpY (i := 28) (ls := bts 50 536870911) rfl rfl rfl rfl (by kernel_rfl) (by (apply Rn.load; (exact rfl); (exact (CellsAt.weak g1 (by simp)) 1 _ rfl))) ?_
              refine WA.tpY (i := 29) (ls := bts 50 1073741823) rfl rfl rfl rfl (by kernel_rfl) (Rn.move rfl) ?_
              refine WA.tpY (i := 30) (ls := bts 50 2147483647) rfl rfl rfl rfl (by kernel_rfl) (Rn.move rfl) ?_
              refine WA.tpY (i := 31) (ls := bts 50 4294967295) rfl rfl rfl rfl (by kernel_rfl) (by (exact Rn.indexAddr m rfl rfl rfl hltm)) ?_
              refine WA.tpY (i := 32) (ls := bts 50 8589934591) rfl rfl rfl rfl (by kernel_rfl) (by first | exact Rn.fieldAddr0 rfl | exact Rn.fieldAddr rfl) ?_
              refine WA.tpY (i := 33) (ls := bts 50 17179869183) rfl rfl rfl rfl (by kernel_rfl) (by (apply Rn.load; (exact rfl); (exact (CellsAt.weak g2 (by simp)) 1 _ rfl))) ?_
              refine WA.tpY (i := 34) (ls := bts 50 34359738367) rfl rfl rfl rfl (by kernel_rfl) (by (exact Rn.cmp (b := true) rfl rfl (congrArg some (beq_iff_eq.2 c3)))) ?_
              refine WA.tpY (i := 35) (ls := bts 50 68719476735) rfl rfl rfl rfl (by kernel_rfl) (Rn.move rfl) ?_
              refine WA.tpY (i := 36) (ls := bts 50 137438953471) rfl rfl rfl rfl (by kernel_rfl) (Rn.move rfl) ?_
              refine WA.tpY (i := 37) (ls := bts 50 274877906943) rfl rfl rfl rfl (by kernel_rfl) (Rn.move rfl) ?_
              refine WA.tpY (i := 38) (ls := bts 50 549755813887) rfl rfl rfl rfl (by kernel_rfl) (by (exact Rn.indexAddr i rfl rfl rfl hlt)) ?_
              refine WA.tpY (i := 39) (ls := bts 50 1099511627775) rfl rfl rfl rfl (by kernel_rfl) (by first | exact Rn.fieldAddr0 rfl | exact Rn.fieldAddr rfl) ?_
              refine WA.tpY (i := 40) (ls := bts 50 2199023255551) rfl rfl rfl rfl (by kernel_rfl) (by (apply Rn.load; (exact rfl); (exact (CellsAt.weak g1 (by simp)) 0 _ rfl))) ?_
              refine WA.tpY (i := 41) (ls := bts 50 4398046511103) rfl rfl rfl rfl (by kernel_rfl) (Rn.move rfl) ?_
              refine WA.tpY (i := 42) (ls := bts 50 8796093022207) rfl rfl rfl rfl (by kernel_rfl) (Rn.move rfl) ?_
              refine WA.tpY (i := 43) (ls := bts 50 17592186044415) rfl rfl rfl rfl (by kernel_rfl) (by (exact Rn.indexAddr m rfl rfl rfl hltm)) ?_
              refine WA.tpY (i := 44) (ls := bts 50 35184372088831) rfl rfl rfl rfl (by kernel_rfl) (by first | exact Rn.fieldAddr0 rfl | exact Rn.fieldAddr rfl) ?_
              refine WA.tpY (i := 45) (ls := bts 50 70368744177663) rfl rfl rfl rfl (by kernel_rfl) (by (apply Rn.load; (exact rfl); (exact (CellsAt.weak g2 (by simp)) 0 _ rfl))) ?_
              refine WA.tpY (i := 46) (ls := bts 50 140737488355327) rfl rfl rfl rfl (by kernel_rfl) (by (exact Rn.cmp (b := false) rfl rfl (congrArg some (decide_eq_false c4)))) ?_
              refine WA.tpY (i := 47) (ls := bts 50 281474976710655) rfl rfl rfl rfl (by kernel_rfl) (by first | exact Rn.pickT rfl rfl | exact Rn.pickF rfl rfl) ?_
              refine WA.tpY (i := 48) (ls := bts 50 562949953421311) rfl rfl rfl rfl (by kernel_rfl) (by first | exact Rn.pickT rfl rfl | exact Rn.pickF rfl rfl) ?_
              refine WA.tp (i := 49) (ls := bts 50 1125899906842623) rfl rfl (by kernel_rfl) (by first | exact Rn.pickT rfl rfl | exact Rn.pickF rfl rfl) ?_
              refine WA.done (by kernel_rfl) ?_
              ((refine Cont.nx (by assumption) _ _ ?_); (refine W.condF rfl ?_); (refine W.skip ?_); (refine Blk.nx (by assumption) _ _ ?_); (refine Cont.nx (by assumption) _ _ ?_); (refine W.region ?_); (apply WL.rd; (exact rfl); exact Rn.move rfl); (apply WL.rd; (exact rfl); exact Rn.add rfl rfl (by omega)); (apply WL.rd; (exact rfl); exact Rn.assign rfl); (refine WL.nil ?_))
              exact hL.nx ⟨i + 1, (m : Nat)⟩ _ _ ⟨by dsimp only; omega, BestT.keep hb hm hz hzn hxi (by rw [ahead_false]; unfold toHT; dsimp only; omega)⟩ (by dsimp only; omega) ⟨rfl, rfl, rfl, rfl, rfl, trivial⟩ (by (focus ((repeat (first | exact Keep.nil | (apply Keep.cons; (focus ((repeat (first | exact Take.here | apply Take.there)); done))))); done)))
          · skip
            ((refine W.skip ?_); (refine Cont.nx (by assumption) _ _ ?_); (refine W.seqK fun Q hQ => ?_); (refine W.blockK fun Q hQ => ?_); (refine W.seqK fun Q hQ => ?_))
            refine W.draw [] [] (by kernel_rfl) rfl (by kernel_rfl) (by (repeat (first | exact NP.body | refine Cont.np (by assumption) ?_ | refine Blk.np (by assumption) ?_ | refine Again.np (by assumption) ?_ | refine Scp.np (by assumption) ?_ | refine Met.np (by assumption) ?_))) (by (repeat (first | exact Pin.nil | (apply Pin.cons; (exact rfl); (focus ((repeat (first | exact Take.here | apply Take.there)); done)))))) ?_
            refine WA.tp (i := 0) (ls := bts 50 1) rfl rfl (by kernel_rfl) (Rn.move rfl) ?_
            refine WA.tp (i := 1) (ls := bts 50 3) rfl rfl (by kernel_rfl) (Rn.move rfl) ?_
            refine WA.tp (i := 2) (ls := bts 50 7) rfl rfl (by kernel_rfl) (by (exact Rn.indexAddr i rfl rfl rfl hlt)) ?_
            refine WA.tp (i := 3) (ls := bts 50 15) rfl rfl (by kernel_rfl) (by first | exact Rn.fieldAddr0 rfl | exact Rn.fieldAddr rfl) ?_
            refine WA.tp (i := 4) (ls := bts 50 31) rfl rfl (by kernel_rfl) (by (apply Rn.load; (exact rfl); (exact (CellsAt.weak g1 (by simp)) 1 _ rfl))) ?_
            refine WA.tp (i := 5) (ls := bts 50 63) rfl rfl (by kernel_rfl) (Rn.move rfl) ?_
            refine WA.tp (i := 6) (ls := bts 50 127) rfl rfl (by kernel_rfl) (by (exact Rn.cmp (b := true) rfl rfl (congrArg some (decide_eq_true c1)))) ?_
            refine WA.tp (i := 7) (ls := bts 50 255) rfl rfl (by kernel_rfl) (Rn.move rfl) ?_
            refine WA.tpY (i := 8) (ls := bts 50 511) rfl rfl rfl rfl (by kernel_rfl) (Rn.move rfl) ?_
            refine WA.tpY (i := 9) (ls := bts 50 1023) rfl rfl rfl rfl (by kernel_rfl) (by (exact Rn.cmp (b := false) rfl rfl (congrArg some (decide_eq_false (by omega))))) ?_
            refine WA.tpY (i := 10) (ls := bts 50 2047) rfl rfl rfl rfl (by kernel_rfl) (Rn.move rfl) ?_
            refine WA.tpY (i := 11) (ls := bts 50 4095) rfl rfl rfl rfl (by kernel_rfl) (Rn.move rfl) ?_
            refine WA.tpY (i := 12) (ls := bts 50 8191) rfl rfl rfl rfl (by kernel_rfl) (Rn.move rfl) ?_
            refine WA.tpY (i := 13) (ls := bts 50 16383) rfl rfl rfl rfl (by kernel_rfl) (by (exact Rn.indexAddr i rfl rfl rfl hlt)) ?_
            refine WA.tpY (i := 14) (ls := bts 50 32767) rfl rfl rfl rfl (by kernel_rfl) (by first | exact Rn.fieldAddr0 rfl | exact Rn.fieldAddr rfl) ?_
            refine WA.tpY (i := 15) (ls := bts 50 65535) rfl rfl rfl rfl (by kernel_rfl) (by (apply Rn.load; (exact rfl); (exact (CellsAt.weak g1 (by simp)) 1 _ rfl))) ?_
            refine WA.tpY (i := 16) (ls := bts 50 131071) rfl rfl rfl rfl (by kernel_rfl) (Rn.move rfl) ?_
            refine WA.tpY (i := 17) (ls := bts 50 262143) rfl rfl rfl rfl (by kernel_rfl) (Rn.move rfl) ?_
            refine WA.tpY (i := 18) (ls := bts 50 524287) rfl rfl rfl rfl (by kernel_rfl) (by (exact Rn.indexAddr m rfl rfl rfl hltm)) ?_
            refine WA.tpY (i := 19) (ls := bts 50 1048575) rfl rfl rfl rfl (by kernel_rfl) (by first | exact Rn.fieldAddr0 rfl | exact Rn.fieldAddr rfl) ?_
            refine WA.tpY (i := 20) (ls := bts 50 2097151) rfl rfl rfl rfl (by kernel_rfl) (by (apply Rn.load; (exact rfl); (exact (CellsAt.weak g2 (by simp)) 1 _ rfl))) ?_
            refine WA.tpY (i := 21) (ls := bts 50 4194303) rfl rfl rfl rfl (by kernel_rfl) (by (exact Rn.cmp (b := false) rfl rfl (congrArg some (decide_eq_false c2)))) ?_
            refine WA.tpY (i := 22) (ls := bts 50 8388607) rfl rfl rfl rfl (by kernel_rfl) (by first | exact Rn.pickT rfl rfl | exact Rn.pickF rfl rfl) ?_
            refine WA.tpY (i := 23) (ls := bts 50 16777215) rfl rfl rfl rfl (by kernel_rfl) (Rn.move rfl) ?_
            refine WA.tpY (i := 24) (ls := bts 50 33554431) rfl rfl rfl rfl (by kernel_rfl) (Rn.move rfl) ?_
            refine WA.tpY (i := 25) (ls := bts 50 67108863) rfl rfl rfl rfl (by kernel_rfl) (Rn.move rfl) ?_
            refine WA.tpY (i := 26) (ls := bts 50 134217727) rfl rfl rfl rfl (by kernel_rfl) (by (exact Rn.indexAddr i rfl rfl rfl hlt)) ?_
            refine WA.tpY (i := 27) (ls := bts 50 268435455) rfl rfl rfl rfl (by kernel_rfl) (by first | exact Rn.fieldAddr0 rfl | exact Rn.fieldAddr rfl) ?_
            refine WA.tpY (i := 28) (ls := bts 50 536870911) rfl rfl rfl rfl (by kernel_rfl) (by (apply Rn.load; (exact rfl); (exact (CellsAt.weak g1 (by simp)) 1 _ rfl))) ?_
            refine WA.tpY (i := 29) (ls := bts 50 1073741823) rfl rfl rfl rfl (by kernel_rfl) (Rn.move rfl) ?_
            refine WA.tpY (i := 30) (ls := bts 50 2147483647) rfl rfl rfl rfl (by kernel_rfl) (Rn.move rfl) ?_
            refine WA.tpY (i := 31) (ls := bts 50 4294967295) rfl rfl rfl rfl (by kernel_rfl) (by (exact Rn.indexAddr m rfl rfl rfl hltm)) ?_
            refine WA.tpY (i := 32) (ls := bts 50 8589934591) rfl rfl rfl rfl (by kernel_rfl) (by first | exact Rn.fieldAddr0 rfl | exact Rn.fieldAddr rfl) ?_
            refine WA.tpY (i := 33) (ls := bts 50 17179869183) rfl rfl rfl rfl (by kernel_rfl) (by (apply Rn.load; (exact rfl); (exact (CellsAt.weak g2 (by simp)) 1 _ rfl))) ?_
            refine WA.tpY (i := 34) (ls := bts 50 34359738367) rfl rfl rfl rfl (by kernel_rfl) (by (exact Rn.cmp (b := false) rfl rfl (congrArg some (beq_eq_false_iff_ne.2 c3)))) ?_
            refine WA.tpY (i := 35) (ls := bts 50 68719476735) rfl rfl rfl rfl (by kernel_rfl) (Rn.move rfl) ?_
            first | refine WA.tn (i := 36) (ls := bts 50 137438953471) rfl rfl rfl rfl rfl (by kernel_rfl) ?_ | refine WA.tnU (i := 36) (ls := bts 50 137438953471) rfl rfl rfl rfl (by kernel_rfl) ?_
            first | refine WA.tn (i := 37) (ls := bts 50 274877906943) rfl rfl rfl rfl rfl (by kernel_rfl) ?_ | refine WA.tnU (i := 37) (ls := bts 50 274877906943) rfl rfl rfl rfl (by kernel_rfl) ?_
            first | refine WA.tn (i := 38) (ls := bts 50 549755813887) rfl rfl rfl rfl rfl (by kernel_rfl) ?_ | refine WA.tnU (i := 38) (ls := bts 50 549755813887) rfl rfl rfl rfl (by kernel_rfl) ?_
            first | refine WA.tn (i := 39) (ls := bts 50 1099511627775) rfl rfl rfl rfl rfl (by kernel_rfl) ?_ | refine WA.tnU (i := 39) (ls := bts 50 1099511627775) rfl rfl rfl rfl (by kernel_rfl) ?_
            first | refine WA.tn (i := 40) (ls := bts 50 2199023255551) rfl rfl rfl rfl rfl (by kernel_rfl) ?_ | refine WA.tnU (i := 40) (ls := bts 50 2199023255551) rfl rfl rfl rfl (by kernel_rfl) ?_
            first | refine WA.tn (i := 41) (ls := bts 50 4398046511103) rfl rfl rfl rfl rfl (by kernel_rfl) ?_ | refine WA.tnU (i := 41) (ls := bts 50 4398046511103) rfl rfl rfl rfl (by kernel_rfl) ?_
            first | refine WA.tn (i := 42) (ls := bts 50 8796093022207) rfl rfl rfl rfl rfl (by kernel_rfl) ?_ | refine WA.tnU (i := 42) (ls := bts 50 8796093022207) rfl rfl rfl rfl (by kernel_rfl) ?_
            first | refine WA.tn (i := 43) (ls := bts 50 17592186044415) rfl rfl rfl rfl rfl (by kernel_rfl) ?_ | refine WA.tnU (i := 43) (ls := bts 50 17592186044415) rfl rfl rfl rfl (by kernel_rfl) ?_
            first | refine WA.tn (i := 44) (ls := bts 50 35184372088831) rfl rfl rfl rfl rfl (by kernel_rfl) ?_ | refine WA.tnU (i := 44) (ls := bts 50 35184372088831) rfl rfl rfl rfl (by kernel_rfl) ?_
            first | refine WA.tn (i := 45) (ls := bts 50 70368744177663) rfl rfl rfl rfl rfl (by kernel_rfl) ?_ | refine WA.tnU (i := 45) (ls := bts 50 70368744177663) rfl rfl rfl rfl (by kernel_rfl) ?_
            first | refine WA.tn (i := 46) (ls := bts 50 140737488355327) rfl rfl rfl rfl rfl (by kernel_rfl) ?_ | refine WA.tnU (i := 46) (ls := bts 50 140737488355327) rfl rfl rfl rfl (by kernel_rfl) ?_
            refine WA.tpY (i := 47) (ls := bts 50 281474976710655) rfl rfl rfl rfl (by kernel_rfl) (by first | exact Rn.pickT rfl rfl | exact Rn.pickF rfl rfl) ?_
            refine WA.tpY (i := 48) (ls := bts 50 562949953421311) rfl rfl rfl rfl (by kernel_rfl) (by first | exact Rn.pickT rfl rfl | exact Rn.pickF rfl rfl) ?_
            refine WA.tp (i := 49) (ls := bts 50 1125899906842623) rfl rfl (by kernel_rfl) (by first | exact Rn.pickT rfl rfl | exact Rn.pickF rfl rfl) ?_
            refine WA.done (by kernel_rfl) ?_
            ((refine Cont.nx (by assumption) _ _ ?_); (refine W.condF rfl ?_); (refine W.skip ?_); (refine Blk.nx (by assumption) _ _ ?_); (refine Cont.nx (by assumption) _ _ ?_); (refine W.region ?_); (apply WL.rd; (exact rfl); exact Rn.move rfl); (apply WL.rd; (exact rfl); exact Rn.add rfl rfl (by omega)); (apply WL.rd; (exact rfl); exact Rn.assign rfl); (refine WL.nil ?_))
            exact hL.nx ⟨i + 1, (m : Nat)⟩ _ _ ⟨by dsimp only; omega, BestT.keep hb hm hz hzn hxi (by rw [ahead_false]; unfold toHT; dsimp only; omega)⟩ (by dsimp only; omega) ⟨rfl, rfl, rfl, rfl, rfl, trivial⟩ (by (focus ((repeat (first | exact Keep.nil | (apply Keep.cons; (focus ((repeat (first | exact Take.here | apply Take.there)); done))))); done)))
    · skip
      ((refine W.skip ?_); (refine Cont.nx (by assumption) _ _ ?_); (refine W.seqK fun Q hQ => ?_); (refine W.blockK fun Q hQ => ?_); (refine W.seqK fun Q hQ => ?_))
      refine W.draw [] [] (by kernel_rfl) rfl (by kernel_rfl) (by (repeat (first | exact NP.body | refine Cont.np (by assumption) ?_ | refine Blk.np (by assumption) ?_ | refine Again.np (by assumption) ?_ | refine Scp.np (by assumption) ?_ | refine Met.np (by assumption) ?_))) (by (repeat (first | exact Pin.nil | (apply Pin.cons; (exact rfl); (focus ((repeat (first | exact Take.here | apply Take.there)); done)))))) ?_
      refine WA.tp (i := 0) (ls := bts 50 1) rfl rfl (by kernel_rfl) (Rn.move rfl) ?_
      refine WA.tp (i := 1) (ls := bts 50 3) rfl rfl (by kernel_rfl) (Rn.move rfl) ?_
      refine WA.tp (i := 2) (ls := bts 50 7) rfl rfl (by kernel_rfl) (by (exact Rn.indexAddr i rfl rfl rfl hlt)) ?_
      refine WA.tp (i := 3) (ls := bts 50 15) rfl rfl (by kernel_rfl) (by first | exact Rn.fieldAddr0 rfl | exact Rn.fieldAddr rfl) ?_
      refine WA.tp (i := 4) (ls := bts 50 31) rfl rfl (by kernel_rfl) (by (apply Rn.load; (exact rfl); (exact (CellsAt.weak g1 (by simp)) 1 _ rfl))) ?_
      refine WA.tp (i := 5) (ls := bts 50 63) rfl rfl (by kernel_rfl) (Rn.move rfl) ?_
      refine WA.tp (i := 6) (ls := bts 50 127) rfl rfl (by kernel_rfl) (by (exact Rn.cmp (b := false) rfl rfl (congrArg some (decide_eq_false c1)))) ?_
      refine WA.tp (i := 7) (ls := bts 50 255) rfl rfl (by kernel_rfl) (Rn.move rfl) ?_
      first | refine WA.tn (i := 8) (ls := bts 50 511) rfl rfl rfl rfl rfl (by kernel_rfl) ?_ | refine WA.tnU (i := 8) (ls := bts 50 511) rfl rfl rfl rfl (by kernel_rfl) ?_
      first | refine WA.tn (i := 9) (ls := bts 50 1023) rfl rfl rfl rfl rfl (by kernel_rfl) ?_ | refine WA.tnU (i := 9) (ls := bts 50 1023) rfl rfl rfl rfl (by kernel_rfl) ?_
      first | refine WA.tn (i := 10) (ls := bts 50 2047) rfl rfl rfl rfl rfl (by kernel_rfl) ?_ | refine WA.tnU (i := 10) (ls := bts 50 2047) rfl rfl rfl rfl (by kernel_rfl) ?_
      first | refine WA.tn (i := 11) (ls := bts 50 4095) rfl rfl rfl rfl rfl (by kernel_rfl) ?_ | refine WA.tnU (i := 11) (ls := bts 50 4095) rfl rfl rfl rfl (by kernel_rfl) ?_
      first | refine WA.tn (i := 12) (ls := bts 50 8191) rfl rfl rfl rfl rfl (by kernel_rfl) ?_ | refine WA.tnU (i := 12) (ls := bts 50 8191) rfl rfl rfl rfl (by kernel_rfl) ?_
      first | refine WA.tn (i := 13) (ls := bts 50 16383) rfl rfl rfl rfl rfl (by kernel_rfl) ?_ | refine WA.tnU (i := 13) (ls := bts 50 16383) rfl rfl rfl rfl (by kernel_rfl) ?_
      first | refine WA.tn (i := 14) (ls := bts 50 32767) rfl rfl rfl rfl rfl (by kernel_rfl) ?_ | refine WA.tnU (i := 14) (ls := bts 50 32767) rfl rfl rfl rfl (by kernel_rfl) ?_
      first | refine WA.tn (i := 15) (ls := bts 50 65535) rfl rfl rfl rfl rfl (by kernel_rfl) ?_ | refine WA.tnU (i := 15) (ls := bts 50 65535) rfl rfl rfl rfl (by kernel_rfl) ?_
      first | refine WA.tn (i := 16) (ls := bts 50 131071) rfl rfl rfl rfl rfl (by kernel_rfl) ?_ | refine WA.tnU (i := 16) (ls := bts 50 131071) rfl rfl rfl rfl (by kernel_rfl) ?_
      first | refine WA.tn (i := 17) (ls := bts 50 262143) rfl rfl rfl rfl rfl (by kernel_rfl) ?_ | refine WA.tnU (i := 17) (ls := bts 50 262143) rfl rfl rfl rfl (by kernel_rfl) ?_
      first | refine WA.tn (i := 18) (ls := bts 50 524287) rfl rfl rfl rfl rfl (by kernel_rfl) ?_ | refine WA.tnU (i := 18) (ls := bts 50 524287) rfl rfl rfl rfl (by kernel_rfl) ?_
      first | refine WA.tn (i := 19) (ls := bts 50 1048575) rfl rfl rfl rfl rfl (by kernel_rfl) ?_ | refine WA.tnU (i := 19) (ls := bts 50 1048575) rfl rfl rfl rfl (by kernel_rfl) ?_
      first | refine WA.tn (i := 20) (ls := bts 50 2097151) rfl rfl rfl rfl rfl (by kernel_rfl) ?_ | refine WA.tnU (i := 20) (ls := bts 50 2097151) rfl rfl rfl rfl (by kernel_rfl) ?_
      first | refine WA.tn (i := 21) (ls := bts 50 4194303) rfl rfl rfl rfl rfl (by kernel_rfl) ?_ | refine WA.tnU (i := 21) (ls := bts 50 4194303) rfl rfl rfl rfl (by kernel_rfl) ?_
      first | refine WA.tn (i := 22) (ls := bts 50 8388607) rfl rfl rfl rfl rfl (by kernel_rfl) ?_ | refine WA.tnU (i := 22) (ls := bts 50 8388607) rfl rfl rfl rfl (by kernel_rfl) ?_
      first | refine WA.tn (i := 23) (ls := bts 50 16777215) rfl rfl rfl rfl rfl (by kernel_rfl) ?_ | refine WA.tnU (i := 23) (ls := bts 50 16777215) rfl rfl rfl rfl (by kernel_rfl) ?_
      first | refine WA.tn (i := 24) (ls := bts 50 33554431) rfl rfl rfl rfl rfl (by kernel_rfl) ?_ | refine WA.tnU (i := 24) (ls := bts 50 33554431) rfl rfl rfl rfl (by kernel_rfl) ?_
      first | refine WA.tn (i := 25) (ls := bts 50 67108863) rfl rfl rfl rfl rfl (by kernel_rfl) ?_ | refine WA.tnU (i := 25) (ls := bts 50 67108863) rfl rfl rfl rfl (by kernel_rfl) ?_
      first | refine WA.tn (i := 26) (ls := bts 50 134217727) rfl rfl rfl rfl rfl (by kernel_rfl) ?_ | refine WA.tnU (i := 26) (ls := bts 50 134217727) rfl rfl rfl rfl (by kernel_rfl) ?_
      first | refine WA.tn (i := 27) (ls := bts 50 268435455) rfl rfl rfl rfl rfl (by kernel_rfl) ?_ | refine WA.tnU (i := 27) (ls := bts 50 268435455) rfl rfl rfl rfl (by kernel_rfl) ?_
      first | refine WA.tn (i := 28) (ls := bts 50 536870911) rfl rfl rfl rfl rfl (by kernel_rfl) ?_ | refine WA.tnU (i := 28) (ls := bts 50 536870911) rfl rfl rfl rfl (by kernel_rfl) ?_
      first | refine WA.tn (i := 29) (ls := bts 50 1073741823) rfl rfl rfl rfl rfl (by kernel_rfl) ?_ | refine WA.tnU (i := 29) (ls := bts 50 1073741823) rfl rfl rfl rfl (by kernel_rfl) ?_
      first | refine WA.tn (i := 30) (ls := bts 50 2147483647) rfl rfl rfl rfl rfl (by kernel_rfl) ?_ | refine WA.tnU (i := 30) (ls := bts 50 2147483647) rfl rfl rfl rfl (by kernel_rfl) ?_
      first | refine WA.tn (i := 31) (ls := bts 50 4294967295) rfl rfl rfl rfl rfl (by kernel_rfl) ?_ | refine WA.tnU (i := 31) (ls := bts 50 4294967295) rfl rfl rfl rfl (by kernel_rfl) ?_
      first | refine WA.tn (i := 32) (ls := bts 50 8589934591) rfl rfl rfl rfl rfl (by kernel_rfl) ?_ | refine WA.tnU (i := 32) (ls := bts 50 8589934591) rfl rfl rfl rfl (by kernel_rfl) ?_
      first | refine WA.tn (i := 33) (ls := bts 50 17179869183) rfl rfl rfl rfl rfl (by kernel_rfl) ?_ | refine WA.tnU (i := 33) (ls := bts 50 17179869183) rfl rfl rfl rfl (by kernel_rfl) ?_
      first | refine WA.tn (i := 34) (ls := bts 50 34359738367) rfl rfl rfl rfl rfl (by kernel_rfl) ?_ | refine WA.tnU (i := 34) (ls := bts 50 34359738367) rfl rfl rfl rfl (by kernel_rfl) ?_
      first | refine WA.tn (i := 35) (ls := bts 50 68719476735) rfl rfl rfl rfl rfl (by kernel_rfl) ?_ | refine WA.tnU (i := 35) (ls := bts 50 68719476735) rfl rfl rfl rfl (by kernel_rfl) ?_
      first | refine WA.tn (i := 36) (ls := bts 50 137438953471) rfl rfl rfl rfl rfl (by kernel_rfl) ?_ | refine WA.tnU (i := 36) (ls := bts 50 137438953471) rfl rfl rfl rfl (by kernel_rfl) ?_
      first | refine WA.tn (i := 37) (ls := bts 50 274877906943) rfl rfl rfl rfl rfl (by kernel_rfl) ?_ | refine WA.tnU (i := 37) (ls := bts 50 274877906943) rfl rfl rfl rfl (by kernel_rfl) ?_
      first | refine WA.tn (i := 38) (ls := bts 50 549755813887) rfl rfl rfl rfl rfl (by kernel_rfl) ?_ | refine WA.tnU (i := 38) (ls := bts 50 549755813887) rfl rfl rfl rfl (by kernel_rfl) ?_
      first | refine WA.tn (i := 39) (ls := bts 50 1099511627775) rfl rfl rfl rfl rfl (by kernel_rfl) ?_ | refine WA.tnU (i := 39) (ls := bts 50 1099511627775) rfl rfl rfl rfl (by kernel_rfl) ?_
      first | refine WA.tn (i := 40) (ls := bts 50 2199023255551) rfl rfl rfl rfl rfl (by kernel_rfl) ?_ | refine WA.tnU (i := 40) (ls := bts 50 2199023255551) rfl rfl rfl rfl (by kernel_rfl) ?_
      first | refine WA.tn (i := 41) (ls := bts 50 4398046511103) rfl rfl rfl rfl rfl (by kernel_rfl) ?_ | refine WA.tnU (i := 41) (ls := bts 50 4398046511103) rfl rfl rfl rfl (by kernel_rfl) ?_
      first | refine WA.tn (i := 42) (ls := bts 50 8796093022207) rfl rfl rfl rfl rfl (by kernel_rfl) ?_ | refine WA.tnU (i := 42) (ls := bts 50 8796093022207) rfl rfl rfl rfl (by kernel_rfl) ?_
      first | refine WA.tn (i := 43) (ls := bts 50 17592186044415) rfl rfl rfl rfl rfl (by kernel_rfl) ?_ | refine WA.tnU (i := 43) (ls := bts 50 17592186044415) rfl rfl rfl rfl (by kernel_rfl) ?_
      first | refine WA.tn (i := 44) (ls := bts 50 35184372088831) rfl rfl rfl rfl rfl (by kernel_rfl) ?_ | refine WA.tnU (i := 44) (ls := bts 50 35184372088831) rfl rfl rfl rfl (by kernel_rfl) ?_
      first | refine WA.tn (i := 45) (ls := bts 50 70368744177663) rfl rfl rfl rfl rfl (by kernel_rfl) ?_ | refine WA.tnU (i := 45) (ls := bts 50 70368744177663) rfl rfl rfl rfl (by kernel_rfl) ?_
      first | refine WA.tn (i := 46) (ls := bts 50 140737488355327) rfl rfl rfl rfl rfl (by kernel_rfl) ?_ | refine WA.tnU (i := 46) (ls := bts 50 140737488355327) rfl rfl rfl rfl (by kernel_rfl) ?_
      first | refine WA.tn (i := 47) (ls := bts 50 281474976710655) rfl rfl rfl rfl rfl (by kernel_rfl) ?_ | refine WA.tnU (i := 47) (ls := bts 50 281474976710655) rfl rfl rfl rfl (by kernel_rfl) ?_
      first | refine WA.tn (i := 48) (ls := bts 50 562949953421311) rfl rfl rfl rfl rfl (by kernel_rfl) ?_ | refine WA.tnU (i := 48) (ls := bts 50 562949953421311) rfl rfl rfl rfl (by kernel_rfl) ?_
      refine WA.tp (i := 49) (ls := bts 50 1125899906842623) rfl rfl (by kernel_rfl) (by first | exact Rn.pickT rfl rfl | exact Rn.pickF rfl rfl) ?_
      refine WA.done (by kernel_rfl) ?_
      ((refine Cont.nx (by assumption) _ _ ?_); (refine W.condF rfl ?_); (refine W.skip ?_); (refine Blk.nx (by assumption) _ _ ?_); (refine Cont.nx (by assumption) _ _ ?_); (refine W.region ?_); (apply WL.rd; (exact rfl); exact Rn.move rfl); (apply WL.rd; (exact rfl); exact Rn.add rfl rfl (by omega)); (apply WL.rd; (exact rfl); exact Rn.assign rfl); (refine WL.nil ?_))
      exact hL.nx ⟨i + 1, bv⟩ _ _ ⟨by dsimp only; omega, hb.later hxi (by omega)⟩ (by dsimp only; omega) ⟨rfl, rfl, rfl, rfl, rfl, trivial⟩ (by (focus ((repeat (first | exact Keep.nil | (apply Keep.cons; (focus ((repeat (first | exact Take.here | apply Take.there)); done))))); done)))
  · have hii : i = xs.length := by omega
    subst hii
    rcases hb with ⟨rfl, hb⟩ | ⟨m, z, rfl, hm, hz, hzn, hb⟩
    · skip
      ((refine W.exit ?_); (refine Cont.ex (by assumption) _ _ _ ?_); (refine Again.ex (by assumption) _ _ _ ?_); (refine Blk.ot (by assumption) _ _ ?_); (refine Cont.nx (by assumption) _ _ ?_); (refine W.seqK fun Q hQ => ?_); (refine W.seqK fun Q hQ => ?_); (refine W.region ?_); (apply WL.rd; (exact rfl); exact Rn.move rfl); (apply WL.rd; (exact rfl); exact Rn.cmp rfl rfl rfl); (refine WL.nil ?_); (refine Cont.nx (by assumption) _ _ ?_); (refine W.condT rfl ?_); (refine W.seqK fun Q hQ => ?_); (refine W.region ?_); (apply WL.rd; (exact rfl); exact Rn.move rfl); (apply WL.rd; (exact rfl); apply Rn.build; (focus ((repeat (first | exact Fill.nil | (apply Fill.cell; (exact rfl); (exact rfl); (exact rfl); (focus ((repeat (first | exact SetAt.zero | apply SetAt.succ)); done))))); done))); (apply WL.rd; (exact rfl); exact Rn.assign rfl); (apply WL.storeA; (exact rfl); (exact rfl); (focus ((repeat (first | exact At.one | exact At.here (by assumption) | exact At.ro (by assumption) | apply At.there)); done)); (exact rfl); (exact rfl); (exact rfl); (focus ((repeat (first | exact Repl.here | apply Repl.there)); done))); (apply WL.rd; (exact rfl); exact Rn.assign rfl); (refine WL.nil ?_); (refine Cont.nx (by assumption) _ _ ?_); (refine W.ret ?_); (refine Cont.rt (by assumption) _ _ ?_))
      (apply X.retTCT; (exact rfl); infer_instance; infer_instance; (exact rfl); (exact rfl); (exact rfl); (focus ((repeat (first | exact At.one | exact At.here (by assumption) | exact At.ro (by assumption) | apply At.there)); done)); (exact rfl))
      exact ⟨[], Keep.nil, .inr ⟨BestT.none_due hb, rfl, rfl⟩⟩
    · have hltm : m < xs.length := by omega
      obtain ⟨g, o, rfl, g2⟩ := h0.elem 3 (fun _ => rfl) (by omega) m z hz
      have hF := BestT.isFirst hb hz hzn
      ((refine W.exit ?_); (refine Cont.ex (by assumption) _ _ _ ?_); (refine Again.ex (by assumption) _ _ _ ?_); (refine Blk.ot (by assumption) _ _ ?_); (refine Cont.nx (by assumption) _ _ ?_); (refine W.seqK fun Q hQ => ?_); (refine W.seqK fun Q hQ => ?_); (refine W.region ?_); (apply WL.rd; (exact rfl); exact Rn.move rfl); ((apply WL.rd; (exact rfl); (exact Rn.cmp (b := false) rfl rfl (congrArg some (decide_eq_false (by omega)))))); (refine WL.nil ?_); (refine Cont.nx (by assumption) _ _ ?_); (refine W.condF rfl ?_); (refine W.skip ?_); (refine Cont.nx (by assumption) _ _ ?_); (refine W.seqK fun Q hQ => ?_); (refine W.region ?_); (apply WL.rd; (exact rfl); exact Rn.move rfl); (apply WL.rd; (exact rfl); exact Rn.move rfl); ((apply WL.rd; (exact rfl); (exact Rn.indexAddr m rfl rfl (by first | rfl | omega) (by omega)))); ((apply WL.rd; (exact rfl); (apply Rn.loadS; (exact rfl); (exact (CellsAt.weak g2 (by simp))); (exact rfl)))); (refine WL.ex rfl (WO.alloc ?_); intro nb); (apply WL.storeA; (exact rfl); (exact rfl); (focus ((repeat (first | exact At.one | exact At.here (by assumption) | exact At.ro (by assumption) | apply At.there)); done)); (exact rfl); (exact rfl); (exact rfl); (focus ((repeat (first | exact Repl.here | apply Repl.there)); done))); (refine WL.nil ?_); (refine Cont.nx (by assumption) _ _ ?_); (refine W.seqK fun Q hQ => ?_); (refine W.seqK fun Q hQ => ?_); (refine W.region ?_); (apply WL.rd; (exact rfl); exact Rn.fieldAddr0 rfl); (apply WL.rd; (exact rfl); apply Rn.load; (exact rfl); apply CellAt.mk; (focus ((repeat (first | exact At.one | exact At.here (by assumption) | exact At.ro (by assumption) | apply At.there)); done)); (exact rfl)); (apply WL.rd; (exact rfl); exact Rn.cmp rfl rfl rfl); (refine WL.nil ?_); (refine Cont.nx (by assumption) _ _ ?_))
      have hzb := hbd z hF.1
      refine W.cond rfl (fun h3 => ?_) (fun h3 => ?_)
      · have h3 : z.every ≤ 0 := by simpa using h3
        ((refine W.seqK fun Q hQ => ?_))
        refine W.draw [(9, [])] [] (by kernel_rfl) rfl (by kernel_rfl) (by (repeat (first | exact NP.body | refine Cont.np (by assumption) ?_ | refine Blk.np (by assumption) ?_ | refine Again.np (by assumption) ?_ | refine Scp.np (by assumption) ?_ | refine Met.np (by assumption) ?_))) (by (repeat (first | exact Pin.nil | (apply Pin.cons; (exact rfl); (focus ((repeat (first | exact Take.here | apply Take.there)); done)))))) ?_
        refine WA.tp (i := 0) (ls := bts 8 1) rfl rfl (by kernel_rfl) (Rn.move rfl) ?_
        refine WA.tp (i := 1) (ls := bts 8 3) rfl rfl (by kernel_rfl) (by first | exact Rn.fieldAddr0 rfl | exact Rn.fieldAddr rfl) ?_
        refine WA.ld (i := 2) (k := 0) (ls := bts 8 7) rfl rfl (by kernel_rfl) rfl (by kernel_rfl) (.cons (by (focus ((repeat (first | exact Take.here | apply Take.there)); done))) .nil) (by first | exact Rn.load rfl (.mk At.one rfl) | exact Rn.loadS rfl (.all At.one) rfl) ?_
        refine WA.ld (i := 4) (k := 0) (ls := bts 8 23) rfl rfl (by kernel_rfl) rfl (by kernel_rfl) (.cons (by (focus ((repeat (first | exact Take.here | apply Take.there)); done))) .nil) (by first | exact Rn.load rfl (.mk At.one rfl) | exact Rn.loadS rfl (.all At.one) rfl) ?_
        refine WA.one (i := 3) (by kernel_rfl) ?_
        refine WB.ex (i := 3) (ls := bts 8 31) rfl rfl (by kernel_rfl) ?_
        (refine WO.callN Try.func42 rfl (by kernel_rfl) rfl Takes.nil (fun G hG hh => rwithout_any _ c0 xs z.id G (h0.up hG (by simp)) (by omega)) ?_; rintro v own' ⟨A2, c2, h2, rfl, rfl, ha2⟩)
        refine ⟨(by (repeat (first | exact trivial | refine ⟨.inl (by decide), ?_⟩ | refine ⟨.inr (by (focus ((repeat (first | exact Keep.nil | (apply Keep.cons; (focus ((repeat (first | exact Take.here | apply Take.there)); done))))); done))), ?_⟩))), ?_⟩
        refine WA.tp (i := 5) (ls := bts 8 63) rfl rfl (by kernel_rfl) (Rn.assign rfl) ?_
        refine WA.one (i := 6) (by kernel_rfl) ?_
        refine WB.ex0 (i := 6) (ls := bts 8 127) rfl (by kernel_rfl) ?_
        (first | (apply WO.store' ; (exact rfl); (exact rfl); (focus ((repeat (first | exact At.one | exact At.here (by assumption) | exact At.ro (by assumption) | apply At.there)); done)); (exact rfl); (focus ((repeat (first | exact SetAt.zero | apply SetAt.succ)); done)); (focus ((repeat (first | exact Repl.here | apply Repl.there)); done))) | (apply WO.storeA'; (exact rfl); (exact rfl); (focus ((repeat (first | exact At.one | exact At.here (by assumption) | exact At.ro (by assumption) | apply At.there)); done)); (exact rfl); (exact rfl); (exact rfl); (focus ((repeat (first | exact Repl.here | apply Repl.there)); done))))
        refine ⟨(by (repeat (first | exact trivial | refine ⟨.inl (by decide), ?_⟩ | refine ⟨.inr (by (focus ((repeat (first | exact Keep.nil | (apply Keep.cons; (focus ((repeat (first | exact Take.here | apply Take.there)); done))))); done))), ?_⟩))), ?_⟩
        refine WA.tp (i := 7) (ls := bts 8 255) rfl rfl (by kernel_rfl) (Rn.assign rfl) ?_
        refine WA.done (by kernel_rfl) ?_
        ((refine Cont.nx (by assumption) _ _ ?_); (refine W.ret ?_); (refine Cont.rt (by assumption) _ _ ?_))
        (apply X.retTCT; (exact rfl); infer_instance; infer_instance; (exact rfl); (exact rfl); (exact rfl); (focus ((repeat (first | exact At.one | exact At.here (by assumption) | exact At.ro (by assumption) | apply At.there)); done)); (exact rfl))
        refine ⟨[h2], (by (focus ((repeat (first | exact Keep.nil | (apply Keep.cons; (focus ((repeat (first | exact Take.here | apply Take.there)); done))))); done))), .inl ⟨z, _, hF, hzn, rfl, ?_⟩⟩
        unfold nextT; rw [if_neg (by omega)]
        exact ⟨A2, c2, h2, rfl, rfl, ha2⟩
      · have h3 : 0 < z.every := by simpa using h3
        ((refine W.skip ?_); (refine Cont.nx (by assumption) _ _ ?_); (refine W.seqK fun Q hQ => ?_); (refine W.seqK fun Q hQ => ?_); (refine W.region ?_); (apply WL.rd; (exact rfl); exact Rn.fieldAddr0 rfl); (apply WL.rd; (exact rfl); apply Rn.load; (exact rfl); apply CellAt.mk; (focus ((repeat (first | exact At.one | exact At.here (by assumption) | exact At.ro (by assumption) | apply At.there)); done)); (exact rfl)); (apply WL.rd; (exact rfl); exact Rn.fieldAddr0 rfl); (apply WL.rd; (exact rfl); apply Rn.load; (exact rfl); apply CellAt.mk; (focus ((repeat (first | exact At.one | exact At.here (by assumption) | exact At.ro (by assumption) | apply At.there)); done)); (exact rfl)); (apply WL.rd; (exact rfl); exact Rn.sub rfl rfl (by omega)); (apply WL.rd; (exact rfl); exact Rn.cmp rfl rfl rfl); (refine WL.nil ?_); (refine Cont.nx (by assumption) _ _ ?_))
        refine W.cond rfl (fun h4 => ?_) (fun h4 => ?_)
        · have h4 : 1099511627776 - z.mom < z.every := by simpa using h4
          ((refine W.seqK fun Q hQ => ?_))
          refine W.draw [(9, [])] [] (by kernel_rfl) rfl (by kernel_rfl) (by (repeat (first | exact NP.body | refine Cont.np (by assumption) ?_ | refine Blk.np (by assumption) ?_ | refine Again.np (by assumption) ?_ | refine Scp.np (by assumption) ?_ | refine Met.np (by assumption) ?_))) (by (repeat (first | exact Pin.nil | (apply Pin.cons; (exact rfl); (focus ((repeat (first | exact Take.here | apply Take.there)); done)))))) ?_
          refine WA.tp (i := 0) (ls := bts 10 1) rfl rfl (by kernel_rfl) (Rn.move rfl) ?_
          refine WA.tp (i := 1) (ls := bts 10 3) rfl rfl (by kernel_rfl) (by first | exact Rn.fieldAddr0 rfl | exact Rn.fieldAddr rfl) ?_
          refine WA.ld (i := 2) (k := 0) (ls := bts 10 7) rfl rfl (by kernel_rfl) rfl (by kernel_rfl) (.cons (by (focus ((repeat (first | exact Take.here | apply Take.there)); done))) .nil) (by first | exact Rn.load rfl (.mk At.one rfl) | exact Rn.loadS rfl (.all At.one) rfl) ?_
          refine WA.tp (i := 3) (ls := bts 10 15) rfl rfl (by kernel_rfl) (by first | exact Rn.fieldAddr0 rfl | exact Rn.fieldAddr rfl) ?_
          refine WA.ld (i := 4) (k := 0) (ls := bts 10 31) rfl rfl (by kernel_rfl) rfl (by kernel_rfl) (.cons (by (focus ((repeat (first | exact Take.here | apply Take.there)); done))) .nil) (by first | exact Rn.load rfl (.mk At.one rfl) | exact Rn.loadS rfl (.all At.one) rfl) ?_
          refine WA.ld (i := 6) (k := 0) (ls := bts 10 95) rfl rfl (by kernel_rfl) rfl (by kernel_rfl) (.cons (by (focus ((repeat (first | exact Take.here | apply Take.there)); done))) .nil) (by first | exact Rn.load rfl (.mk At.one rfl) | exact Rn.loadS rfl (.all At.one) rfl) ?_
          refine WA.one (i := 5) (by kernel_rfl) ?_
          refine WB.ex (i := 5) (ls := bts 10 127) rfl rfl (by kernel_rfl) ?_
          (refine WO.callN Try.func41 rfl (by kernel_rfl) rfl Takes.nil (fun G hG hh => rset_any _ c0 xs z.id 1099511627776 z.every G (h0.up hG (by simp)) hfit) ?_; rintro v own' ⟨A2, c2, h2, rfl, rfl, ha2⟩)
          refine ⟨(by (repeat (first | exact trivial | refine ⟨.inl (by decide), ?_⟩ | refine ⟨.inr (by (focus ((repeat (first | exact Keep.nil | (apply Keep.cons; (focus ((repeat (first | exact Take.here | apply Take.there)); done))))); done))), ?_⟩))), ?_⟩
          refine WA.tp (i := 7) (ls := bts 10 255) rfl rfl (by kernel_rfl) (Rn.assign rfl) ?_
          refine WA.one (i := 8) (by kernel_rfl) ?_
          refine WB.ex0 (i := 8) (ls := bts 10 511) rfl (by kernel_rfl) ?_
          (first | (apply WO.store' ; (exact rfl); (exact rfl); (focus ((repeat (first | exact At.one | exact At.here (by assumption) | exact At.ro (by assumption) | apply At.there)); done)); (exact rfl); (focus ((repeat (first | exact SetAt.zero | apply SetAt.succ)); done)); (focus ((repeat (first | exact Repl.here | apply Repl.there)); done))) | (apply WO.storeA'; (exact rfl); (exact rfl); (focus ((repeat (first | exact At.one | exact At.here (by assumption) | exact At.ro (by assumption) | apply At.there)); done)); (exact rfl); (exact rfl); (exact rfl); (focus ((repeat (first | exact Repl.here | apply Repl.there)); done))))
          refine ⟨(by (repeat (first | exact trivial | refine ⟨.inl (by decide), ?_⟩ | refine ⟨.inr (by (focus ((repeat (first | exact Keep.nil | (apply Keep.cons; (focus ((repeat (first | exact Take.here | apply Take.there)); done))))); done))), ?_⟩))), ?_⟩
          refine WA.tp (i := 9) (ls := bts 10 1023) rfl rfl (by kernel_rfl) (Rn.assign rfl) ?_
          refine WA.done (by kernel_rfl) ?_
          ((refine Cont.nx (by assumption) _ _ ?_); (refine W.ret ?_); (refine Cont.rt (by assumption) _ _ ?_))
          (apply X.retTCT; (exact rfl); infer_instance; infer_instance; (exact rfl); (exact rfl); (exact rfl); (focus ((repeat (first | exact At.one | exact At.here (by assumption) | exact At.ro (by assumption) | apply At.there)); done)); (exact rfl))
          refine ⟨[h2], (by (focus ((repeat (first | exact Keep.nil | (apply Keep.cons; (focus ((repeat (first | exact Take.here | apply Take.there)); done))))); done))), .inl ⟨z, _, hF, hzn, rfl, ?_⟩⟩
          have e : laterV z.mom z.every = capV 1099511627776 := by unfold laterV capV; rw [if_pos h4, if_neg (by omega)]
          unfold nextT; rw [if_pos h3, e]
          exact ⟨A2, c2, h2, rfl, rfl, ha2⟩
        · have h4 : z.every ≤ 1099511627776 - z.mom := by simpa using h4
          ((refine W.skip ?_); (refine Cont.nx (by assumption) _ _ ?_); (refine W.seqK fun Q hQ => ?_))
          refine W.draw [(9, [])] [] (by kernel_rfl) rfl (by kernel_rfl) (by (repeat (first | exact NP.body | refine Cont.np (by assumption) ?_ | refine Blk.np (by assumption) ?_ | refine Again.np (by assumption) ?_ | refine Scp.np (by assumption) ?_ | refine Met.np (by assumption) ?_))) (by (repeat (first | exact Pin.nil | (apply Pin.cons; (exact rfl); (focus ((repeat (first | exact Take.here | apply Take.there)); done)))))) ?_
          refine WA.tp (i := 0) (ls := bts 15 1) rfl rfl (by kernel_rfl) (Rn.move rfl) ?_
          refine WA.tp (i := 1) (ls := bts 15 3) rfl rfl (by kernel_rfl) (by first | exact Rn.fieldAddr0 rfl | exact Rn.fieldAddr rfl) ?_
          refine WA.ld (i := 2) (k := 0) (ls := bts 15 7) rfl rfl (by kernel_rfl) rfl (by kernel_rfl) (.cons (by (focus ((repeat (first | exact Take.here | apply Take.there)); done))) .nil) (by first | exact Rn.load rfl (.mk At.one rfl) | exact Rn.loadS rfl (.all At.one) rfl) ?_
          refine WA.tp (i := 3) (ls := bts 15 15) rfl rfl (by kernel_rfl) (by first | exact Rn.fieldAddr0 rfl | exact Rn.fieldAddr rfl) ?_
          refine WA.ld (i := 4) (k := 0) (ls := bts 15 31) rfl rfl (by kernel_rfl) rfl (by kernel_rfl) (.cons (by (focus ((repeat (first | exact Take.here | apply Take.there)); done))) .nil) (by first | exact Rn.load rfl (.mk At.one rfl) | exact Rn.loadS rfl (.all At.one) rfl) ?_
          refine WA.tp (i := 5) (ls := bts 15 63) rfl rfl (by kernel_rfl) (by first | exact Rn.fieldAddr0 rfl | exact Rn.fieldAddr rfl) ?_
          refine WA.ld (i := 6) (k := 0) (ls := bts 15 127) rfl rfl (by kernel_rfl) rfl (by kernel_rfl) (.cons (by (focus ((repeat (first | exact Take.here | apply Take.there)); done))) .nil) (by first | exact Rn.load rfl (.mk At.one rfl) | exact Rn.loadS rfl (.all At.one) rfl) ?_
          refine WA.tp (i := 7) (ls := bts 15 255) rfl rfl (by kernel_rfl) (by first | exact Rn.add rfl rfl (by omega) | exact Rn.addW rfl rfl) ?_
          refine WA.tp (i := 8) (ls := bts 15 511) rfl rfl (by kernel_rfl) (by first | exact Rn.fieldAddr0 rfl | exact Rn.fieldAddr rfl) ?_
          refine WA.ld (i := 9) (k := 0) (ls := bts 15 1023) rfl rfl (by kernel_rfl) rfl (by kernel_rfl) (.cons (by (focus ((repeat (first | exact Take.here | apply Take.there)); done))) .nil) (by first | exact Rn.load rfl (.mk At.one rfl) | exact Rn.loadS rfl (.all At.one) rfl) ?_
          refine WA.ld (i := 11) (k := 0) (ls := bts 15 3071) rfl rfl (by kernel_rfl) rfl (by kernel_rfl) (.cons (by (focus ((repeat (first | exact Take.here | apply Take.there)); done))) .nil) (by first | exact Rn.load rfl (.mk At.one rfl) | exact Rn.loadS rfl (.all At.one) rfl) ?_
          refine WA.one (i := 10) (by kernel_rfl) ?_
          refine WB.ex (i := 10) (ls := bts 15 4095) rfl rfl (by kernel_rfl) ?_
          (refine WO.callN Try.func41 rfl (by kernel_rfl) rfl Takes.nil (fun G hG hh => rset_any _ c0 xs z.id (z.mom + z.every) z.every G (h0.up hG (by simp)) hfit) ?_; rintro v own' ⟨A2, c2, h2, rfl, rfl, ha2⟩)
          refine ⟨(by (repeat (first | exact trivial | refine ⟨.inl (by decide), ?_⟩ | refine ⟨.inr (by (focus ((repeat (first | exact Keep.nil | (apply Keep.cons; (focus ((repeat (first | exact Take.here | apply Take.there)); done))))); done))), ?_⟩))), ?_⟩
          refine WA.tp (i := 12) (ls := bts 15 8191) rfl rfl (by kernel_rfl) (Rn.assign rfl) ?_
          refine WA.one (i := 13) (by kernel_rfl) ?_
          refine WB.ex0 (i := 13) (ls := bts 15 16383) rfl (by kernel_rfl) ?_
          (first | (apply WO.store' ; (exact rfl); (exact rfl); (focus ((repeat (first | exact At.one | exact At.here (by assumption) | exact At.ro (by assumption) | apply At.there)); done)); (exact rfl); (focus ((repeat (first | exact SetAt.zero | apply SetAt.succ)); done)); (focus ((repeat (first | exact Repl.here | apply Repl.there)); done))) | (apply WO.storeA'; (exact rfl); (exact rfl); (focus ((repeat (first | exact At.one | exact At.here (by assumption) | exact At.ro (by assumption) | apply At.there)); done)); (exact rfl); (exact rfl); (exact rfl); (focus ((repeat (first | exact Repl.here | apply Repl.there)); done))))
          refine ⟨(by (repeat (first | exact trivial | refine ⟨.inl (by decide), ?_⟩ | refine ⟨.inr (by (focus ((repeat (first | exact Keep.nil | (apply Keep.cons; (focus ((repeat (first | exact Take.here | apply Take.there)); done))))); done))), ?_⟩))), ?_⟩
          refine WA.tp (i := 14) (ls := bts 15 32767) rfl rfl (by kernel_rfl) (Rn.assign rfl) ?_
          refine WA.done (by kernel_rfl) ?_
          ((refine Cont.nx (by assumption) _ _ ?_); (refine W.ret ?_))
          (apply X.retTCT; (exact rfl); infer_instance; infer_instance; (exact rfl); (exact rfl); (exact rfl); (focus ((repeat (first | exact At.one | exact At.here (by assumption) | exact At.ro (by assumption) | apply At.there)); done)); (exact rfl))
          refine ⟨[h2], (by (focus ((repeat (first | exact Keep.nil | (apply Keep.cons; (focus ((repeat (first | exact Take.here | apply Take.there)); done))))); done))), .inl ⟨z, _, hF, hzn, rfl, ?_⟩⟩
          have e : laterV z.mom z.every = capV (z.mom + z.every) := by unfold laterV capV; rw [if_neg (by omega), if_neg (by omega)]
          unfold nextT; rw [if_pos h3, e]
          exact ⟨A2, c2, h2, rfl, rfl, ha2⟩
end Go.Proofs.Ytkgepjfofhjokaa
