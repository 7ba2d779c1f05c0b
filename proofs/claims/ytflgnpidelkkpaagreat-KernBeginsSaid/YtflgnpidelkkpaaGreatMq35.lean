/- part 35 of the proof: contracts of the functions that the law reaches, and plain laws. -/
import Derived.Conc.LoneCalls
import Derived.Conc.LoneSelect
import Derived.Test.YtflgnpidelkkpaaGreatMq7
import Derived.Test.YtflgnpidelkkpaaGreatMq24
import Derived.Test.YtflgnpidelkkpaaGreatMq33
namespace Go.Proofs.YtflgnpidelkkpaaGreat
set_option maxRecDepth 8000
set_option maxHeartbeats 1000000
open Go.Conc
set_option linter.unusedVariables false
set_option linter.unusedSimpArgs false
def WC (P : Program) (n : Nat) (B : World) (F : Hp) (ops : Array Oper) (Q : Post) (l : List Nat) (env : Env) (hs : List Hp) : Prop :=
  ∀ a w, E n env a → Own B F hs w → ∀ (b : Frame) (k : List Item) (cs : List Frame), ∃ e a' w', Q e a' w' ∧ Arrives P (lone (b.at a (.inRegion ops l :: k)) cs w) b k cs e a' w'
section
variable {P : Program} {n : Nat} {B : World} {F : Hp} {ops : Array Oper} {Q : Post} {env : Env} {hs : List Hp} {rest : List Nat} {i d : Nat} {op : Op} {ty : TypeId} {pos : String} {aft : Array Edge}
theorem W.regionC {id : Nat} (h : WC P n B F ops Q (List.range ops.size) env hs) : W P n B F Q (.region id ops false) env hs := fun a w he ho b k cs =>
  let ⟨e, a', w', q, r⟩ := h a w he ho b k cs
  ⟨e, a', w', q, .of_steps (.one step_region) r⟩
theorem WC.nil (h : X n B F Q .normal env hs) : WC P n B F ops Q [] env hs := fun a w he ho b k cs => ⟨.normal, a, w, h a w he ho, .one step_region_end⟩
theorem WC.rd {v : Value} (hi : ops[i]? = some ⟨some d, op, ty, pos, aft, none⟩) (hd : Nat.blt d n = true) (h : Rn P F hs op ty env v) (k : WC P n B F ops Q rest ((d, some v) :: env) hs) : WC P n B F ops Q (i :: rest) env hs := fun a w he ho b k' cs => by
  have hr := h ⟨some d, op, ty, pos, aft, none⟩ rfl rfl n B a w he ho
  obtain ⟨e, a', w', q, r⟩ := k _ w (he.put hd v) ho b k' cs
  refine ⟨e, a', w', q, .of_steps (.one (step_lone_go ?_)) r⟩
  rw [stepG_op hi (by simp [Region.wanted])]
  have hfin : (b.at a (.inRegion ops (i :: rest) :: k')).finish v = b.at (a.put (some d) v) (.inRegion ops rest :: k') := by
    rw [Frame.finish_at, hi]; rfl
  rw [← hfin]; simp [stepG.apply, hr]
theorem comm_step {b : Frame} {k' : List Item} {cs : List Frame} {a : Act} {w : World} {o : Oper} {cases : Array CommCase} {bl : Bool} {sh : CommShape} (hi : ops[i]? = some o) (hg : o.guard = none) (hr : (execOp a.eval o).run P w = .ok (.comm cases bl sh) w) :
    ∃ es, stepG P true (G (b.at a (.inRegion ops (i :: rest) :: k')) cs) w = .comm (G (b.at a (.inRegion ops (i :: rest) :: k')) cs) cases bl sh w es := by
  rw [G, stepG_op hi (by simp [Region.wanted, hg])]
  simp only [stepG.apply, Sem.runT_eq, hr]
  exact ⟨_, rfl⟩
theorem Own.chan {c : Nat} {o : Obj} {cap : Nat} {buf : Array Value} {s r : Nat} {rs : List Hp} {w : World} (H : Own B F (one c o :: rs) w) : Own B F (one c (.chan cap buf false s r false) :: rs) (w.setChan c cap buf false s r false) :=
  H.upd (heap_setChan w c cap buf false s r false H.lt) (fun k hk => by simp only [World.setChan]; rw [Array.getElem?_setIfInBounds_ne (by omega)]) rfl rfl rfl
theorem WC.recv0 {t : TypeId} {x : Operand} {c cap s r : Nat} {buf : Array Value} {z : Value} {hs' : List Hp} {dst : Option Tmp} (hi : ops[i]? = some ⟨dst, .recv t x false, ty, pos, aft, none⟩) (hx : ev env x = some (.chan (some c)))
    (hz : ∀ (a : Act) (w : World), a.eval x = .chan (some c) → (execOp a.eval ⟨dst, .recv t x false, ty, pos, aft, none⟩).run P w = .ok (.comm #[rcase c z] true (.recv false)) w)
    (hr : Repl hs (one c (.chan cap buf false s r false)) (one c (.chan cap (buf.extract 1 buf.size) false s (r + 1) false)) hs') (hsome : 0 < buf.size)
    (k : ∀ a', (∃ a, E n env a ∧ a' = a.put dst (buf.getD 0 undef)) → ∀ w, Own B F hs' w → ∀ (b : Frame) (k : List Item) (cs : List Frame), ∃ e a2 w', Q e a2 w' ∧ Arrives P (lone (b.at a' (.inRegion ops rest :: k)) cs w) b k cs e a2 w') : WC P n B F ops Q (i :: rest) env hs := fun a w he ho b k' cs => by
  obtain ⟨rs, p1, p2⟩ := hr.perm
  have H := ho.perm p1
  have hc : w.heap[c]? = some (.chan cap buf false s r false) := H.all _ (.head _) _ _ (one_get _ _)
  obtain ⟨es, hst⟩ := comm_step (rest := rest) (b := b) (k' := k') (cs := cs) hi rfl (hz a w (he.ev hx))
  have hstep := step_lone_recv_buf false hst hc hsome
  obtain ⟨e, a2, w', q, ar⟩ := k (a.put dst (buf.getD 0 undef)) ⟨a, he, rfl⟩ _ (H.chan.perm p2.symm) b k' cs
  refine ⟨e, a2, w', q, .of_steps (.one (m₁ := lone (b.at (a.put dst (buf.getD 0 undef)) (.inRegion ops rest :: k')) cs _) ?_) ar⟩
  rw [lone_eq_solo, hstep, Frame.finish_at, hi]
  rfl
theorem WC.recv {t : TypeId} {x : Operand} {c cap s r : Nat} {buf : Array Value} {z : Value} {hs' : List Hp} (hi : ops[i]? = some ⟨some d, .recv t x false, ty, pos, aft, none⟩) (hd : Nat.blt d n = true) (hx : ev env x = some (.chan (some c)))
    (hz : ∀ (a : Act) (w : World), a.eval x = .chan (some c) → (execOp a.eval ⟨some d, .recv t x false, ty, pos, aft, none⟩).run P w = .ok (.comm #[rcase c z] true (.recv false)) w)
    (hr : Repl hs (one c (.chan cap buf false s r false)) (one c (.chan cap (buf.extract 1 buf.size) false s (r + 1) false)) hs') (hsome : 0 < buf.size)
    (k : WC P n B F ops Q rest ((d, some (buf.getD 0 undef)) :: env) hs') : WC P n B F ops Q (i :: rest) env hs :=
  WC.recv0 hi hx hz hr hsome fun a' ⟨a, he, e⟩ w ho => by subst e; exact k _ w (he.put hd _) ho
theorem WC.selSend {x y : Operand} {el : TypeId} {c cap s r : Nat} {buf : Array Value} {v z : Value} {hs' : List Hp} (hi : ops[i]? = some ⟨some d, .select #[⟨x, some y, el⟩] false, ty, pos, aft, none⟩) (hd : Nat.blt d n = true)
    (hx : ev env x = some (.chan (some c))) (hy : ev env y = some v)
    (hz : ∀ (a : Act) (w : World), a.eval x = .chan (some c) → a.eval y = v → (execOp a.eval ⟨some d, .select #[⟨x, some y, el⟩] false, ty, pos, aft, none⟩).run P w = .ok (.comm #[scase c v z] false .select) w)
    (hr : Repl hs (one c (.chan cap buf false s r false)) (one c (.chan cap (buf.push v) false (s + 1) r false)) hs') (hroom : buf.size < cap)
    (k : WC P n B F ops Q rest ((d, some (.tuple #[goInt 0, .bool false])) :: env) hs') : WC P n B F ops Q (i :: rest) env hs := fun a w he ho b k' cs => by
  obtain ⟨rs, p1, p2⟩ := hr.perm
  have H := ho.perm p1
  have hc : w.heap[c]? = some (.chan cap buf false s r false) := H.all _ (.head _) _ _ (one_get _ _)
  obtain ⟨es, hst⟩ := comm_step (rest := rest) (b := b) (k' := k') (cs := cs) hi rfl (hz a w (he.ev hx) (he.ev hy))
  have hstep := step_lone_select_send_room hst hc hroom
  obtain ⟨e, a2, w', q, ar⟩ := k _ _ (he.put hd (.tuple #[goInt 0, .bool false])) (H.chan.perm p2.symm) b k' cs
  refine ⟨e, a2, w', q, .of_steps (.one (m₁ := lone (b.at (a.put (some d) (.tuple #[goInt 0, .bool false])) (.inRegion ops rest :: k')) cs _) ?_) ar⟩
  rw [lone_eq_solo, hstep, Frame.finish_at, hi]
  rfl
theorem WC.selFull {x y : Operand} {el : TypeId} {c cap s r : Nat} {buf : Array Value} {v z : Value} (hi : ops[i]? = some ⟨some d, .select #[⟨x, some y, el⟩] false, ty, pos, aft, none⟩) (hd : Nat.blt d n = true)
    (hx : ev env x = some (.chan (some c))) (hy : ev env y = some v)
    (hz : ∀ (a : Act) (w : World), a.eval x = .chan (some c) → a.eval y = v → (execOp a.eval ⟨some d, .select #[⟨x, some y, el⟩] false, ty, pos, aft, none⟩).run P w = .ok (.comm #[scase c v z] false .select) w)
    (hr : ∃ r', hs.Perm (one c (.chan cap buf false s r false) :: r')) (hfull : cap ≤ buf.size)
    (k : WC P n B F ops Q rest ((d, some (.tuple #[goInt (-1), .bool false])) :: env) hs) : WC P n B F ops Q (i :: rest) env hs := fun a w he ho b k' cs => by
  obtain ⟨rs, p1⟩ := hr
  have H := ho.perm p1
  have hc : w.heap[c]? = some (.chan cap buf false s r false) := H.all _ (.head _) _ _ (one_get _ _)
  obtain ⟨es, hst⟩ := comm_step (rest := rest) (b := b) (k' := k') (cs := cs) hi rfl (hz a w (he.ev hx) (he.ev hy))
  have hstep := step_lone_select_send_full hst hc hfull
  obtain ⟨e, a2, w', q, ar⟩ := k _ _ (he.put hd (.tuple #[goInt (-1), .bool false])) ho b k' cs
  refine ⟨e, a2, w', q, .of_steps (.one (m₁ := lone (b.at (a.put (some d) (.tuple #[goInt (-1), .bool false])) (.inRegion ops rest :: k')) cs _) ?_) ar⟩
  rw [lone_eq_solo, hstep, Frame.finish_at, hi]
  rfl
end
end Go.Proofs.YtflgnpidelkkpaaGreat
namespace Go.Proofs.YtflgnpidelkkpaaGreat
set_option maxRecDepth 8000
set_option maxHeartbeats 1000000
open Go.Conc
set_option linter.unusedVariables false
set_option linter.unusedSimpArgs false
theorem unit_push (n : Nat) : (Array.replicate n unitV).push unitV = Array.replicate (n + 1) unitV := Array.replicate_succ.symm
theorem unit_pop (n : Nat) : (Array.replicate (n + 1) unitV).extract 1 (Array.replicate (n + 1) unitV).size = Array.replicate n unitV := by
  apply Array.ext
  · simp
  · intro i h1 h2; simp
instance : ZR Tryz.prog 201 (.agg #[]) [] := ⟨by kernel_rfl, rfl⟩
instance : PL Tryz.prog 201 [] := ⟨by kernel_rfl⟩
attribute [local irreducible] W X WL WA WB WG WO Rn Own one splice Arr Spec WQ WH Qn
theorem ktake_any (b : Nat) (s : Kn) (a : KA) (n x y : Nat) (F : Hp) : Spec Tryz.prog 144 [ptrV b] F [one b (cells (KM s a) 108), one a.ch (chanO n x y)] fun v hs' =>
    v = .bool (decide (n < 6)) ∧ hs' = [one b (cells (KM s a) 108), one a.ch (if n < 6 then chanO (n + 1) (x + 1) y else chanO n x y)] := by
  refine Spec.enter Tryz.func144 rfl Tryz.ntmps144 rfl fun B => ?_
  by_cases h : n < 6
  · rw [if_pos h, decide_eq_true h]
    repeat' (first | ((refine W.regionC (id := 3) (show WC _ _ _ _ _ _ [0, 1, 2] _ _ from ?_))) | (first | refine soA ?_ | refine sgA ?_ | refine sxA ?_ | refine sbA ?_ | refine fun (Q : Post) hQ => ?_ | refine fun (nb : Nat) => (?_ : WL _ _ _ _ _ _ _ _ _) | (refine WL.guard rfl rfl rfl (fun h => ?_) (fun h => ?_) <;> (try dsimp only at h))))
    apply WC.selSend (c := a.ch) (cap := 6) (s := x) (r := y) (buf := Array.replicate n unitV) (v := unitV) (z := unitV)
    · exact rfl
    · exact rfl
    · exact rfl
    · exact rfl
    · intro a0 w0 h1 h2
      have hz := run_zero (ZR.eq (P := Tryz.prog) (t := 201)) (w := w0)
      unfold execOp
      simp [h1, h2, Sem.run_bind, hz, scase]
    · exact rpA
    · simpa using h
    · rw [unit_push]
      refine WC.rd rfl rfl (Rn.extract rfl rfl) ?_
      refine WC.rd rfl rfl (Rn.cmp rfl rfl rfl) ?_
      refine WC.nil ?_
      repeat' (first | refine soA ?_ | refine sgA ?_ | refine sxA ?_ | refine sbA ?_ | refine fun (Q : Post) hQ => ?_ | refine fun (nb : Nat) => (?_ : WL _ _ _ _ _ _ _ _ _) | (refine WL.guard rfl rfl rfl (fun h => ?_) (fun h => ?_) <;> (try dsimp only at h)))
      (refine seE ?_)
      exact ⟨_, (by (exact keA)), rfl, rfl⟩
  · rw [if_neg h, decide_eq_false h]
    repeat' (first | ((refine W.regionC (id := 3) (show WC _ _ _ _ _ _ [0, 1, 2] _ _ from ?_))) | (first | refine soA ?_ | refine sgA ?_ | refine sxA ?_ | refine sbA ?_ | refine fun (Q : Post) hQ => ?_ | refine fun (nb : Nat) => (?_ : WL _ _ _ _ _ _ _ _ _) | (refine WL.guard rfl rfl rfl (fun h => ?_) (fun h => ?_) <;> (try dsimp only at h))))
    apply WC.selFull (c := a.ch) (cap := 6) (s := x) (r := y) (buf := Array.replicate n unitV) (v := unitV) (z := unitV)
    · exact rfl
    · exact rfl
    · exact rfl
    · exact rfl
    · intro a0 w0 h1 h2
      have hz := run_zero (ZR.eq (P := Tryz.prog) (t := 201)) (w := w0)
      unfold execOp
      simp [h1, h2, Sem.run_bind, hz, scase]
    · exact ⟨_, List.Perm.swap _ _ _⟩
    · simpa using h
    · refine WC.rd rfl rfl (Rn.extract rfl rfl) ?_
      refine WC.rd rfl rfl (Rn.cmp rfl rfl rfl) ?_
      refine WC.nil ?_
      repeat' (first | refine soA ?_ | refine sgA ?_ | refine sxA ?_ | refine sbA ?_ | refine fun (Q : Post) hQ => ?_ | refine fun (nb : Nat) => (?_ : WL _ _ _ _ _ _ _ _ _) | (refine WL.guard rfl rfl rfl (fun h => ?_) (fun h => ?_) <;> (try dsimp only at h)))
      (refine seE ?_)
      exact ⟨_, (by (exact keA)), rfl, rfl⟩
end Go.Proofs.YtflgnpidelkkpaaGreat
namespace Go.Proofs.YtflgnpidelkkpaaGreat
set_option maxRecDepth 8000
set_option maxHeartbeats 1000000
open Go.Conc
set_option linter.unusedVariables false
set_option linter.unusedSimpArgs false
theorem getJ_eq (l : List JobV) (n : Int) : ∃ j : JobV, getJ l n = .tuple #[.agg j.enc.toArray, .bool (l.any fun j => j.task == n)] := by
  unfold getJ
  cases h : l.find? (fun x => x.task == n) with
  | none =>
    refine ⟨JobZ, ?_⟩
    rw [List.any_eq_false.2 (fun x hx => List.find?_eq_none.1 h x hx)]
  | some x =>
    refine ⟨x, ?_⟩
    rw [List.any_eq_true.2 ⟨x, List.mem_of_find?_eq_some h, List.find?_some h⟩]
theorem there_set {ts : List TT} : ∀ {m : Nat} {t : TT}, ts[m]? = some t → t.period ≠ 0 → (thereK (ts.set m TZ)).length + 1 = (thereK ts).length := by
  induction ts with
  | nil => intro m t h; cases h
  | cons x r ih =>
    intro m t h hp
    cases m with
    | zero =>
      injection h with h; subst h
      have e1 : thereK (TZ :: r) = thereK r := by unfold thereK; rw [List.filter_cons_of_neg (by simp [TZ])]
      have e2 : thereK (x :: r) = x :: thereK r := by unfold thereK; rw [List.filter_cons_of_pos (by simp [hp])]
      rw [List.set_cons_zero, e1, e2, List.length_cons]
    | succ m =>
      have h' : r[m]? = some t := h
      have := ih h' hp
      rw [List.set_cons_succ]
      unfold thereK at this ⊢
      rw [List.filter_cons, List.filter_cons]
      split <;> (try simp only [List.length_cons]) <;> omega
def taskZ : TaskV := ⟨0, 0, ⟨none, 0, []⟩, ⟨none, 0, []⟩⟩
theorem set_pl (ts : List TaskV) (m : Nat) (t : TaskV) : (ts.set m t).map TaskV.pl = (ts.map TaskV.pl).set m t.pl := List.map_set
attribute [local irreducible] W X WL WA WB WG WO Rn Own one splice Arr Spec WQ WH Qn
set_option maxHeartbeats 8000000 in
theorem remove_any (b : Nat) (s : Kn) (n : Int) (F : Hp) (hs : List Hp) (ho : KerC b s hs) (w : KOk s) : Spec Tryz.prog 93 [ptrV b, .int .i64 n] F hs fun v hs' => v = .int .i64 (removeK s n).2 ∧ KerC b (removeK s n).1 hs' := by
  have ho2 := ho
  obtain ⟨a, hP, hT, hM, hN, hU, hS, hK, hL, hA, hI, hD, hE, hR, hV, hC, rfl, k⟩ := ho
  refine Spec.enter Tryz.func93 rfl Tryz.ntmps93 rfl fun B => ?_
  have hhl := w.hlen
  repeat' (first | ((refine W.region (id := 1) (WL.ofQ ?_))) | ((apply WQ.rd; (exact rfl); (refine Qn.call Tryz.func80 rfl (by kernel_rfl) rfl (by (exact tsA)) (fun G hG hh => has_any b s a n G (k.kf w (hh (one b (cells (KM s a) 108)) (List.Mem.head _)) (hh hP (by simp)) (hh hT (by simp)) (hh hM (by simp)) (hh hN (by simp)) (hh hU (by simp))))))) | (first | refine sqA ?_ | refine soA ?_ | refine sgA ?_ | refine sxA ?_ | refine sbA ?_ | refine fun (Q : Post) hQ => ?_ | refine fun (nb : Nat) => (?_ : WL _ _ _ _ _ _ _ _ _) | (refine WL.guard rfl rfl rfl (fun h => ?_) (fun h => ?_) <;> (try dsimp only at h)) | (refine WQ.guard rfl rfl rfl (fun h => ?_) (fun h => ?_) <;> (try dsimp only at h))))
  refine W.cond rfl (fun h => ?_) (fun h => ?_)
  · have h1 : hasK s n = false := by simpa using h
    have e : removeK s n = (s, 6) := by unfold removeK; rw [if_pos h1]
    repeat' (first | refine soA ?_ | refine sgA ?_ | refine sxA ?_ | refine sbA ?_ | refine fun (Q : Post) hQ => ?_ | refine fun (nb : Nat) => (?_ : WL _ _ _ _ _ _ _ _ _) | (refine WL.guard rfl rfl rfl (fun h => ?_) (fun h => ?_) <;> (try dsimp only at h)))
    (refine seE ?_)
    exact ⟨[one b (cells (KM s a) 108), hP, hT, hM, hN, hU, hS, hK, hL, hA, hI, hD, hE, hR, hV, hC], (by (exact keA)), by rw [e], by rw [e]; exact ho2⟩
  · have h1 : hasK s n = true := by simpa using h
    obtain ⟨jz, hget⟩ := getJ_eq s.jobs n
    cases hj : (s.jobs.any fun j => j.task == n) with
    | true =>
      have e : removeK s n = (s, 8) := by unfold removeK; rw [if_neg (by rw [h1]; decide), if_pos (.inl hj)]
      rw [hj] at hget
      repeat' (first | ((refine WL.ex rfl (WO.callN Tryz.func150 rfl (by kernel_rfl) rfl (own := [hS]) (by (exact tsA)) (fun G hG hh => Spec.objR k.hS fun hs hr => hget ▸ ryget_any a.sb s.jobs n G hs hr) ?_); rintro v own' ⟨rfl, rfl⟩)) | (first | refine soA ?_ | refine sgA ?_ | refine sxA ?_ | refine sbA ?_ | refine fun (Q : Post) hQ => ?_ | refine fun (nb : Nat) => (?_ : WL _ _ _ _ _ _ _ _ _) | (refine WL.guard rfl rfl rfl (fun h => ?_) (fun h => ?_) <;> (try dsimp only at h))))
      (refine seE ?_)
      exact ⟨[one b (cells (KM s a) 108), hP, hT, hM, hN, hU, hS, hK, hL, hA, hI, hD, hE, hR, hV, hC], (by (exact keA)), by rw [e], by rw [e]; exact ho2⟩
    | false =>
      rw [hj] at hget
      cases hl : (s.latch.any fun x => x.id == n) with
      | true =>
        have e : removeK s n = (s, 8) := by unfold removeK; rw [if_neg (by rw [h1]; decide), if_pos (.inr (.inl hl))]
        repeat' (first | ((refine WL.ex rfl (WO.callN Tryz.func150 rfl (by kernel_rfl) rfl (own := [hS]) (by (exact tsA)) (fun G hG hh => Spec.objR k.hS fun hs hr => hget ▸ ryget_any a.sb s.jobs n G hs hr) ?_); rintro v own' ⟨rfl, rfl⟩)) | ((refine WL.ex rfl (WO.callN Tryz.func151 rfl (by kernel_rfl) rfl (own := [hA]) (by (exact tsA)) (fun G hG hh => Spec.objR k.hA fun hs hr => hl ▸ lwaits_any a.la s.latch n G hs hr) ?_); rintro v own' ⟨rfl, rfl⟩)) | (first | refine soA ?_ | refine sgA ?_ | refine sxA ?_ | refine sbA ?_ | refine fun (Q : Post) hQ => ?_ | refine fun (nb : Nat) => (?_ : WL _ _ _ _ _ _ _ _ _) | (refine WL.guard rfl rfl rfl (fun h => ?_) (fun h => ?_) <;> (try dsimp only at h))))
        (refine seE ?_)
        exact ⟨[one b (cells (KM s a) 108), hP, hT, hM, hN, hU, hS, hK, hL, hA, hI, hD, hE, hR, hV, hC], (by (exact keA)), by rw [e], by rw [e]; exact ho2⟩
      | false =>
        by_cases hh0 : s.held = []
        · have hh1 : s.held.length = 0 := by rw [hh0]; rfl
          have hin := hasK_in6 w h1
          obtain ⟨m, hm⟩ : ∃ m : Nat, n = m := ⟨n.toNat, by omega⟩
          have htl : a.ts.length = 6 := by rw [← w.nt, ← k.tasks, List.length_map]
          have hml : m < a.ts.length := by omega
          have hmn : m < s.next.length := by have := w.nn; omega
          have hmu : m < s.used.length := by have := w.nu; omega
          obtain ⟨tk, htk⟩ : ∃ tk, a.ts[m]? = some tk := ⟨_, List.getElem?_eq_getElem (by simpa using hml)⟩
          have htk2 : s.tasks[m]? = some tk.pl := by rw [← k.tasks]; exact mapT_get htk
          have hper : tk.pl.period ≠ 0 := by
            have h2 := h1
            unfold hasK periodV at h2
            have := w.nt
            rw [hm, if_neg (by omega), Int.toNat_natCast, htk2] at h2
            simp only [Bool.and_eq_true, decide_eq_true_eq] at h2
            omega
          have hts := there_set htk2 hper
          have e : removeK s n = ({ s with tasks := s.tasks.set m TZ, next := s.next.set m 0, used := s.used.set m 0 }, 0) := by
            unfold removeK
            rw [if_neg (by rw [h1]; decide), if_neg (by rw [hj, hl, hh0]; simp), hm, Int.toNat_natCast]
          obtain ⟨gT, LT, eT, rfl, hTa, hTi, _⟩ := arr_at (f := TaskV.enc) (sz := 4) TaskV.enc_len k.hT hml
          obtain ⟨gN, LN, eN, rfl, hNa, hNi, _⟩ := arr_at (f := encI) (sz := 1) (fun _ => rfl) k.hN hmn
          obtain ⟨gU, LU, eU, rfl, hUa, hUi, _⟩ := arr_at (f := encI) (sz := 1) (fun _ => rfl) k.hU hmu
          obtain ⟨cx, cy, rfl⟩ := k.hC
          repeat' (first | ((refine WL.ex rfl (WO.callN Tryz.func150 rfl (by kernel_rfl) rfl (own := [hS]) (by (exact tsA)) (fun G hG hh => Spec.objR k.hS fun hs hr => hget ▸ ryget_any a.sb s.jobs n G hs hr) ?_); rintro v own' ⟨rfl, rfl⟩)) | ((refine WL.ex rfl (WO.callN Tryz.func151 rfl (by kernel_rfl) rfl (own := [hA]) (by (exact tsA)) (fun G hG hh => Spec.objR k.hA fun hs hr => hl ▸ lwaits_any a.la s.latch n G hs hr) ?_); rintro v own' ⟨rfl, rfl⟩)) | ((refine WL.ex rfl (WO.callN Tryz.func91 rfl (by kernel_rfl) rfl (own := [hL]) (by (exact tsA)) (fun G hG hh => loclistC (by omega) k.hL) ?_); rintro v own' ⟨AL, cL, hLL, rfl, aL, rfl⟩)) | ((apply WL.rd; (exact rfl); (exact ckA))) | (first | refine soA ?_ | refine sgA ?_ | refine sxA ?_ | refine sbA ?_ | refine fun (Q : Post) hQ => ?_ | refine fun (nb : Nat) => (?_ : WL _ _ _ _ _ _ _ _ _) | (refine WL.guard rfl rfl rfl (fun h => ?_) (fun h => ?_) <;> (try dsimp only at h))))
          refine dra [(0, [])] [] ?_
          refine drp 22 0 1 ?_
          refine drp 22 1 3 ?_
          refine drp 22 2 7 ?_
          refine drl 22 3 0 15 ?_
          refine drp 22 4 31 ?_
          refine drp 22 5 63 ?_
          refine drp 22 6 127 ?_
          refine drp 22 7 255 ?_
          refine drl 22 8 0 511 ?_
          refine drp 22 9 1023 ?_
          refine drp 22 10 2047 ?_
          refine drp 22 11 4095 ?_
          refine drp 22 12 8191 ?_
          refine drl 22 13 0 16383 ?_
          refine drp 22 14 32767 ?_
          refine drp 22 15 65535 ?_
          refine drp 22 16 131071 (hy := by (exact Rn.indexAddrE m eT rfl rfl hm hml)) ?_
          refine dr1 17 ?_
          refine drf 22 17 262143 ?_
          (apply WO.storeC (l := LT) (vs := taskZ.enc) (b := gT) (o := 0 + m * 4); (exact rfl); (exact rfl); (exact rfl); (exact rfl); (exact rfl); (exact rpA); (exact hTi))
          refine ⟨piA, ?_⟩
          refine drp 22 18 524287 (hy := by (exact Rn.indexAddrE m eN rfl rfl hm hmn)) ?_
          refine dr1 19 ?_
          refine drf 22 19 1048575 ?_
          (apply WO.storeC (l := LN) (vs := [.int .i64 0]) (b := gN) (o := 0 + m * 1); (exact rfl); (exact rfl); (exact rfl); (exact rfl); (exact rfl); (exact rpA); (exact hNi))
          refine ⟨piA, ?_⟩
          refine drp 22 20 2097151 (hy := by (exact Rn.indexAddrE m eU rfl rfl hm hmu)) ?_
          refine dr1 21 ?_
          refine drf 22 21 4194303 ?_
          (apply WO.storeC (l := LU) (vs := [.int .i64 0]) (b := gU) (o := 0 + m * 1); (exact rfl); (exact rfl); (exact rfl); (exact rfl); (exact rfl); (exact rpA); (exact hUi))
          refine ⟨piA, ?_⟩
          refine drz ?_
          repeat' (first | ((refine W.regionC (id := 7) (show WC _ _ _ _ _ _ [0, 1, 2, 3, 4] _ _ from ?_))) | (first | refine soA ?_ | refine sgA ?_ | refine sxA ?_ | refine sbA ?_ | refine fun (Q : Post) hQ => ?_ | refine fun (nb : Nat) => (?_ : WL _ _ _ _ _ _ _ _ _) | (refine WL.guard rfl rfl rfl (fun h => ?_) (fun h => ?_) <;> (try dsimp only at h))))
          refine WC.rd rfl rfl (Rn.move rfl) ?_
          refine WC.rd rfl rfl (Rn.nilCheck rfl) ?_
          refine WC.rd rfl rfl (Rn.fieldAddr rfl) ?_
          apply WC.rd
          · exact rfl
          · exact rfl
          · exact rqA
          apply WC.recv (c := a.ch) (cap := 6) (s := cx) (r := cy) (buf := Array.replicate (thereK s.tasks).length unitV) (z := unitV)
          · exact rfl
          · exact rfl
          · exact rfl
          · intro a0 w0 h2
            have hz := run_zero (ZR.eq (P := Tryz.prog) (t := 201)) (w := w0)
            have hu := run_underlying (UT.eq (P := Tryz.prog) (t := 100)) (w := w0)
            unfold execOp
            simp [h2, Sem.run_bind, hu, hz, rcase]
          · exact rpA
          · simp; omega
          refine WC.nil ?_
          rw [← hts, unit_pop]
          repeat' (first | refine soA ?_ | refine sgA ?_ | refine sxA ?_ | refine sbA ?_ | refine fun (Q : Post) hQ => ?_ | refine fun (nb : Nat) => (?_ : WL _ _ _ _ _ _ _ _ _) | (refine WL.guard rfl rfl rfl (fun h => ?_) (fun h => ?_) <;> (try dsimp only at h)))
          (refine seE ?_)
          rw [e]
          refine ⟨[one b (cells (KM s a) 108), hP, one gT (cells (splice LT (0 + m * 4) taskZ.enc) 33), hM, one gN (cells (splice LN (0 + m * 1) [.int .i64 0]) 3), one gU (cells (splice LU (0 + m * 1) [.int .i64 0]) 3), hS, hK, hL, hA, hI, hD, hE, hR, hV, one a.ch (chanO (thereK (s.tasks.set m TZ)).length cx (cy + 1))], (by (exact keA)), rfl, ?_⟩
          have hc : cells (KM { s with tasks := s.tasks.set m TZ, next := s.next.set m 0, used := s.used.set m 0 } { a with ts := a.ts.set m taskZ }) 108 = cells (KM s a) 108 := by
            unfold KM; dsimp only; rw [List.length_set, List.length_set, List.length_set]
          have hz : ∀ t ∈ a.ts.set m taskZ, t ∈ a.ts ∨ t = taskZ := fun t ht => List.mem_or_eq_of_mem_set ht
          have hnil : ∀ (h : Hp) (A : Option Addr), RowAt h [] A ([].flatMap encI) := fun h A j v e => by cases e
          exact ⟨{ a with ts := a.ts.set m taskZ }, hP, _, hM, _, _, hS, hK, hL, hA, hI, hD, hE, hR, hV, _, by rw [hc]; rfl, { k with
            tasks := by dsimp only; rw [set_pl, k.tasks]; rfl
            hT := hTa taskZ
            sec := fun t ht => by
              rcases hz t ht with ht | rfl
              · exact k.sec t ht
              · exact hnil _ _
            dev := fun t ht => by
              rcases hz t ht with ht | rfl
              · exact k.dev t ht
              · exact hnil _ _
            hN := hNa 0
            hU := hUa 0
            hC := ⟨cx, cy + 1, rfl⟩ }⟩
        · have hh1 : 0 < s.held.length := by cases h : s.held with | nil => exact absurd h hh0 | cons _ _ => simp
          have e : removeK s n = (s, 8) := by unfold removeK; rw [if_neg (by rw [h1]; decide), if_pos (.inr (.inr hh0))]
          repeat' (first | ((refine WL.ex rfl (WO.callN Tryz.func150 rfl (by kernel_rfl) rfl (own := [hS]) (by (exact tsA)) (fun G hG hh => Spec.objR k.hS fun hs hr => hget ▸ ryget_any a.sb s.jobs n G hs hr) ?_); rintro v own' ⟨rfl, rfl⟩)) | ((refine WL.ex rfl (WO.callN Tryz.func151 rfl (by kernel_rfl) rfl (own := [hA]) (by (exact tsA)) (fun G hG hh => Spec.objR k.hA fun hs hr => hl ▸ lwaits_any a.la s.latch n G hs hr) ?_); rintro v own' ⟨rfl, rfl⟩)) | ((refine WL.ex rfl (WO.callN Tryz.func91 rfl (by kernel_rfl) rfl (own := [hL]) (by (exact tsA)) (fun G hG hh => loclistC (by omega) k.hL) ?_); rintro v own' ⟨AL, cL, hLL, rfl, aL, rfl⟩)) | ((apply WL.rd; (exact rfl); (exact ckA))) | (first | refine soA ?_ | refine sgA ?_ | refine sxA ?_ | refine sbA ?_ | refine fun (Q : Post) hQ => ?_ | refine fun (nb : Nat) => (?_ : WL _ _ _ _ _ _ _ _ _) | (refine WL.guard rfl rfl rfl (fun h => ?_) (fun h => ?_) <;> (try dsimp only at h))))
          (refine seE ?_)
          exact ⟨[one b (cells (KM s a) 108), hP, hT, hM, hN, hU, hS, hK, hL, hA, hI, hD, hE, hR, hV, hC], (by (exact keA)), by rw [e], by rw [e]; exact ho2⟩
end Go.Proofs.YtflgnpidelkkpaaGreat
