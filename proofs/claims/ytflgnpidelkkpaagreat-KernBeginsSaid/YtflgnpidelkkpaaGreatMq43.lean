/- part 43 of the proof: contracts of the functions that the law reaches, and plain laws. -/
import Derived.Test.YtflgnpidelkkpaaGreatMq5
import Derived.Test.YtflgnpidelkkpaaGreatMq7
import Derived.Test.YtflgnpidelkkpaaGreatMq10
namespace Go.Proofs.YtflgnpidelkkpaaGreat
set_option maxRecDepth 8000
set_option linter.unusedVariables false
set_option linter.unusedSimpArgs false
theorem forIn_true {P : Program} {f : Nat → Option Bool × Unit → Sem (ForInStep (Option Bool × Unit))} (w : World) (b : Option Bool × Unit) : ∀ (l : List Nat), (∀ i ∈ l, (f i b).run P w = .ok (.yield b) w) → (forIn l b f).run P w = .ok b w
  | [], _ => by simp
  | i :: l, h => by
    rw [List.forIn_cons]
    simp only [Sem.run_bind, h i (by simp), Result.andThen_ok]
    exact forIn_true w b l fun j hj => h j (List.mem_cons_of_mem _ hj)
def SelfAt (P : Program) (d : Nat) (e : TypeId) (k : Nat) (xs : Array Value) (n : Nat) : Prop := ∀ i, i < n → ∃ v, ∀ w, (part e xs (i * k)).run P w = .ok v w ∧ (Op.equalIn d e v v).run P w = .ok true w
theorem run_equalArr {P : Program} {d t e n k by' : Nat} (hu : P.underlying t = some (.array n e)) (hz : sizeB P e = some (k, by')) {xs : Array Value} (h : SelfAt P d e k xs n) (w : World) : (Op.equalIn (d + 1) t (.agg xs) (.agg xs)).run P w = .ok true w := by
  simp only [Op.equalIn, Sem.run_bind, run_underlying hu, Result.andThen_ok, run_size hz, Std.Legacy.Range.forIn_eq_forIn_range']
  rw [forIn_true w (none, ()) _ fun i hi => ?_]
  · simp only [Result.andThen_ok, Sem.run_pure]
  · have hin : i < n := by simpa [Std.Legacy.Range.size] using hi
    obtain ⟨v, hv⟩ := h i hin
    simp only [Sem.run_bind, (hv w).1, (hv w).2, Result.andThen_ok, Bool.not_true, Bool.false_eq_true, if_false, Sem.run_pure]
theorem eqL_self : ∀ {ks : List Bool} {xs : List Value}, fits ks xs xs = true → eqL xs xs = true
  | [], [], _ => rfl
  | [], _ :: _, h => by cases h
  | _ :: _, [], h => by simp [fits] at h
  | k :: ks, x :: xs, h => by
    cases k <;> cases x <;> simp only [fits, Bool.and_eq_true, Bool.false_eq_true] at h
    · simp only [eqL, eqV, beq_self_eq_true, Bool.true_and]; exact eqL_self h.2
    · simp only [eqL, eqV, beq_self_eq_true, Bool.true_and]; exact eqL_self h
theorem run_equalSelf {P : Program} {d t : Nat} {ks : List Bool} [hq : EQ P t ks] {xs : List Value} (hf : fits ks xs xs = true) (w : World) : (Op.equalIn (d + 2) t (.agg xs.toArray) (.agg xs.toArray)).run P w = .ok true w := by
  have h := hq.eq
  unfold flatOf at h
  split at h
  · next fs hu =>
    have hfo : P.fieldsOf t = fs := by unfold Program.fieldsOf; rw [hu]
    have := run_equalIn_struct (P := P) w (d + 1) t xs.toArray xs.toArray (by rw [hfo]; exact hu) hq.st
    rw [hfo] at this
    rw [← eqL_self hf]
    exact this.trans (run_eqFlat d w fs.toList ks [] [] xs xs h rfl hf)
  · cases h
theorem selfInt {P : Program} {d e n : Nat} {kk : IntKind} (hu : P.underlying e = some (.int kk)) {xs : List Value} (h : ∀ i, i < n → ∃ a, xs[i]? = some (.int .i64 a)) : SelfAt P (d + 1) e 1 xs.toArray n := fun i hi => by
  obtain ⟨a, ha⟩ := h i hi
  have hag : aggOf P e = some false := by unfold aggOf; rw [hu]; rfl
  refine ⟨.int .i64 a, fun w => ⟨run_partCell hag (by rw [Nat.mul_one]; simpa using ha) w, ?_⟩⟩
  rw [run_equalIn_int _ _ _ _ _ _ _ hu]; simp
theorem selfSt {P : Program} {d e n k by' : Nat} {ks : List Bool} [hq : EQ P e ks] [ha : AG P e] [hz : SZ P e k by'] {xs : List Value} (h : ∀ i, i < n → fits ks ((xs.drop (i * k)).take k) ((xs.drop (i * k)).take k) = true) : SelfAt P (d + 2) e k xs.toArray n := fun i hi => by
  refine ⟨.agg ((xs.drop (i * k)).take k).toArray, fun w => ⟨?_, run_equalSelf (h i hi) w⟩⟩
  have e1 : xs.toArray.extract (i * k) (i * k + k) = ((xs.drop (i * k)).take k).toArray := by
    rw [List.extract_toArray, List.extract_eq_take_drop, Nat.add_sub_cancel_left]
  unfold part
  simp only [Sem.run_bind, run_agg ha.eq, run_size hz.eq, Result.andThen_ok, if_true, Sem.run_pure, e1]
section
variable {P : Program} {n : Nat} {B : World} {F : Hp} {hs : List Hp} {env : Env} {ty : TypeId}
theorem Rn.neArr {t e k by' m yt : Nat} {x y : Operand} {xs : Array Value} [hu : UT P t (.array m e)] [hz : SZ P e k by'] (hg : P.eqGuardType P.depth t = false) (hx : ev env x = some (.agg xs)) (hy : ev env y = some (.agg xs)) (h : ∀ d, SelfAt P (d + 2) e k xs m) : Rn P F hs (.binOp .neq t x y yt) ty env (.bool false) := fun o h1 h2 n B a w he ho => by
  have hgd : (eqGuard .neq t x y (.agg xs) (.agg xs)).run P w = .ok () w := by unfold eqGuard; simp [hg]
  have he2 : (Op.equal t (.agg xs) (.agg xs)).run P w = .ok true w := run_equalArr (d := 9997 + 2) hu.eq hz.eq (h 9997) w
  unfold execOp
  simp only [h1, he.ev hx, he.ev hy, Sem.run_bind, hgd, Result.andThen_ok, binOp, he2, Sem.run_pure, Bool.not_true]
end
end Go.Proofs.YtflgnpidelkkpaaGreat
namespace Go.Proofs.YtflgnpidelkkpaaGreat
set_option maxRecDepth 8000
set_option maxHeartbeats 1000000
set_option linter.unusedVariables false
set_option linter.unusedSimpArgs false
theorem HeldV.eqL_refl (x : HeldV) : eqL x.enc x.enc = true := by simp [HeldV.enc, eqL, eqV]
theorem EventV.eqL_refl (x : EventV) : eqL x.enc x.enc = true := by simp [EventV.enc, eqL, eqV]
attribute [local irreducible] W X WL WA WB WG WO Rn Own one splice Arr Spec WQ WH Qn
set_option maxHeartbeats 2000000 in
theorem sameV_yes (A A' : Option Addr) (c c' : Nat) (xs : List EventV) (F : Hp) (h0 : RowAt F [] A (xs.flatMap EventV.enc)) (h' : RowAt F [] A' (xs.flatMap EventV.enc)) (hm : xs.length ≤ 4611686018427387904) :
    Spec Tryz.prog 54 [.slice A xs.length c, .slice A' xs.length c'] F [] fun v hs => v = .bool true ∧ hs = [] := by
  refine Spec.enter Tryz.func54 rfl Tryz.ntmps54 rfl fun B => ?_
  repeat' (first | refine soA ?_ | refine sgA ?_ | refine sxA ?_ | refine sbA ?_ | refine fun (Q : Post) hQ => ?_ | refine fun (nb : Nat) => (?_ : WL _ _ _ _ _ _ _ _ _) | (refine WL.guard rfl rfl rfl (fun h => ?_) (fun h => ?_) <;> (try dsimp only at h)))
  refine W.cond rfl (fun h => ?_) (fun h => ?_)
  · exfalso; simp at h
  repeat' (first | refine soA ?_ | refine sgA ?_ | refine sxA ?_ | refine sbA ?_ | refine fun (Q : Post) hQ => ?_ | refine fun (nb : Nat) => (?_ : WL _ _ _ _ _ _ _ _ _) | (refine WL.guard rfl rfl rfl (fun h => ?_) (fun h => ?_) <;> (try dsimp only at h)))
  refine W.loopK (σ := Nat) ⟨fun k => k ≤ xs.length, fun k => [(5, some (.int .i64 (k : Nat))), (0, some (.slice A xs.length c)), (1, some (.slice A' xs.length c'))], fun _ => [], fun k => xs.length - k⟩ 0 (Nat.zero_le _) ⟨rfl, rfl, rfl, trivial⟩ Keep.nil fun k hk Q hL => ?_
  dsimp only at hk ⊢
  repeat' (first | refine soA ?_ | refine sgA ?_ | refine sxA ?_ | refine sbA ?_ | refine fun (Q : Post) hQ => ?_ | refine fun (nb : Nat) => (?_ : WL _ _ _ _ _ _ _ _ _) | (refine WL.guard rfl rfl rfl (fun h => ?_) (fun h => ?_) <;> (try dsimp only at h)))
  refine W.cond rfl (fun h => ?_) (fun h => ?_) <;> (try simp only [beq_iff_eq, bne_iff_ne, decide_eq_true_eq, decide_eq_false_iff_not, beq_eq_false_iff_ne, bne_eq_false_iff_eq, Bool.not_true, Bool.not_false, ne_eq, Int.not_lt, Int.not_le, Bool.not_eq_true', Bool.not_eq_false', Bool.not_eq_eq_eq_not] at h)
  · have hlt : k < xs.length := by omega
    obtain ⟨b, o, rfl, g1⟩ := h0.elem 4 EventV.enc_len (by omega) k xs[k] (List.getElem?_eq_getElem hlt)
    obtain ⟨b', o', rfl, g2⟩ := h'.elem 4 EventV.enc_len (by omega) k xs[k] (List.getElem?_eq_getElem hlt)
    repeat' (first | refine soA ?_ | refine sgA ?_ | refine sxA ?_ | refine sbA ?_ | refine fun (Q : Post) hQ => ?_ | refine fun (nb : Nat) => (?_ : WL _ _ _ _ _ _ _ _ _) | (refine WL.guard rfl rfl rfl (fun h => ?_) (fun h => ?_) <;> (try dsimp only at h)))
    refine dra [] [] ?_
    refine drp 9 0 1 ?_
    refine drp 9 1 3 ?_
    refine drp 9 2 7 (hy := by (exact Rn.indexAddr k rfl rfl rfl hlt)) ?_
    refine drp 9 3 15 (hy := by (apply Rn.loadS; (exact rfl); (exact g1); (exact rfl))) ?_
    refine drp 9 4 31 ?_
    refine drp 9 5 63 ?_
    refine drp 9 6 127 (hy := by (exact Rn.indexAddr k rfl rfl rfl hlt)) ?_
    refine drp 9 7 255 (hy := by (apply Rn.loadS; (exact rfl); (exact g2); (exact rfl))) ?_
    refine drp 9 8 511 ?_
    refine drz ?_
    repeat' (first | refine soA ?_ | refine sgA ?_ | refine sxA ?_ | refine sbA ?_ | refine fun (Q : Post) hQ => ?_ | refine fun (nb : Nat) => (?_ : WL _ _ _ _ _ _ _ _ _) | (refine WL.guard rfl rfl rfl (fun h => ?_) (fun h => ?_) <;> (try dsimp only at h)))
    refine W.cond rfl (fun h => ?_) (fun h => ?_)
    · rw [EventV.eqL_refl] at h; cases h
    repeat' (first | refine soA ?_ | refine sgA ?_ | refine sxA ?_ | refine sbA ?_ | refine fun (Q : Post) hQ => ?_ | refine fun (nb : Nat) => (?_ : WL _ _ _ _ _ _ _ _ _) | (refine WL.guard rfl rfl rfl (fun h => ?_) (fun h => ?_) <;> (try dsimp only at h)))
    exact hL.nx (k + 1) _ _ (by dsimp only; omega) (by dsimp only; omega) ⟨rfl, rfl, rfl, trivial⟩ Keep.nil
  · skip
    repeat' (first | refine soA ?_ | refine sgA ?_ | refine sxA ?_ | refine sbA ?_ | refine fun (Q : Post) hQ => ?_ | refine fun (nb : Nat) => (?_ : WL _ _ _ _ _ _ _ _ _) | (refine WL.guard rfl rfl rfl (fun h => ?_) (fun h => ?_) <;> (try dsimp only at h)))
    ((refine seE ?_); refine ⟨[], Keep.nil, ?_⟩)
    exact ⟨rfl, rfl⟩
set_option maxHeartbeats 4000000 in
theorem sameT_yes (t u : TaskV) (hp : u.pl = t.pl) (F : Hp) (h1 : RowAt F [] t.sec.A (t.sec.xs.flatMap encI)) (h2 : RowAt F [] t.devs.A (t.devs.xs.flatMap encI)) (h3 : RowAt F [] u.sec.A (u.sec.xs.flatMap encI)) (h4 : RowAt F [] u.devs.A (u.devs.xs.flatMap encI)) (f1 : t.sec.xs.length ≤ 4611686018427387904) (f2 : t.devs.xs.length ≤ 4611686018427387904) :
    Spec Tryz.prog 45 [.agg t.enc.toArray, .agg u.enc.toArray] F [] fun v hs => v = .bool true ∧ hs = [] := by
  obtain ⟨per, cy, ⟨A1, c1, ss⟩, ⟨A2, c2, ds⟩⟩ := t
  obtain ⟨per', cy', ⟨A3, c3, ss'⟩, ⟨A4, c4, ds'⟩⟩ := u
  simp only [TaskV.pl, TT.mk.injEq] at hp
  obtain ⟨rfl, rfl, rfl, rfl⟩ := hp
  dsimp only at h1 h2 h3 h4 f1 f2
  unfold TaskV.enc
  dsimp only
  refine Spec.enter Tryz.func45 rfl Tryz.ntmps45 rfl fun B => ?_
  refine W.seqK fun Q0 hQ0 => ?_
  refine W.region ?_
  refine WL.ex rfl (WO.box rfl rfl ?_)
  intro q1
  repeat' (first | ((apply WL.rd; (exact rfl); (exact ckA))) | (first | refine soA ?_ | refine sgA ?_ | refine sxA ?_ | refine sbA ?_ | refine fun (Q : Post) hQ => ?_ | refine fun (nb : Nat) => (?_ : WL _ _ _ _ _ _ _ _ _) | (refine WL.guard rfl rfl rfl (fun h => ?_) (fun h => ?_) <;> (try dsimp only at h))))
  refine W.loopK (σ := Nat) ⟨fun k => k ≤ ss'.length, fun k => [(5, some (.int .i64 (k : Nat))), (2, some (Value.pointer (some ⟨q1, 0, none⟩))), (3, some (Value.pointer (some ⟨nb, 0, none⟩)))], fun _ => [one q1 (cells [.int .i64 per', .int .i64 cy', .slice A1 ss'.length c1, .slice A2 ds'.length c2] 33), one nb (cells [.int .i64 per', .int .i64 cy', .slice A3 ss'.length c3, .slice A4 ds'.length c4] 33)], fun k => ss'.length - k⟩ 0 (Nat.zero_le _) (by repeat' (first | exact trivial | refine ⟨rfl, ?_⟩)) (by (exact keA)) fun k hk Q hL => ?_
  dsimp only at hk ⊢
  repeat' (first | refine soA ?_ | refine sgA ?_ | refine sxA ?_ | refine sbA ?_ | refine fun (Q : Post) hQ => ?_ | refine fun (nb : Nat) => (?_ : WL _ _ _ _ _ _ _ _ _) | (refine WL.guard rfl rfl rfl (fun h => ?_) (fun h => ?_) <;> (try dsimp only at h)))
  refine W.cond rfl (fun h => ?_) (fun h => ?_) <;> (try simp only [beq_iff_eq, bne_iff_ne, decide_eq_true_eq, decide_eq_false_iff_not, beq_eq_false_iff_ne, bne_eq_false_iff_eq, Bool.not_true, Bool.not_false, ne_eq, Int.not_lt, Int.not_le, Bool.not_eq_true', Bool.not_eq_false', Bool.not_eq_eq_eq_not] at h)
  · have hlt : k < ss'.length := by omega
    obtain ⟨b, o, rfl, g1⟩ := h1.elem 1 (fun _ => rfl) (by omega) k ss'[k] (List.getElem?_eq_getElem hlt)
    obtain ⟨b', o', rfl, g2⟩ := h3.elem 1 (fun _ => rfl) (by omega) k ss'[k] (List.getElem?_eq_getElem hlt)
    repeat' (first | ((apply WQ.rd; (exact rfl); apply Rn.q; (exact Rn.indexAddr k rfl rfl (by first | rfl | omega) (by omega)))) | ((apply WQ.rd; (exact rfl); apply Rn.q; (apply Rn.load; (exact rfl); (exact (CellsAt.weak g1 (by simp)) 0 _ rfl)))) | ((apply WQ.rd; (exact rfl); apply Rn.q; (apply Rn.load; (exact rfl); (exact (CellsAt.weak g2 (by simp)) 0 _ rfl)))) | ((apply WQ.rd; (exact rfl); apply Rn.q; (exact ckA))) | (first | refine sqA ?_ | refine soA ?_ | refine sgA ?_ | refine sxA ?_ | refine sbA ?_ | refine suA ?_ | refine fun (Q : Post) hQ => ?_ | refine fun (nb : Nat) => (?_ : WL _ _ _ _ _ _ _ _ _) | (refine WL.guard rfl rfl rfl (fun h => ?_) (fun h => ?_) <;> (try dsimp only at h)) | (refine WQ.guard rfl rfl rfl (fun h => ?_) (fun h => ?_) <;> (try dsimp only at h))))
    exact hL.nx (k + 1) _ _ (by dsimp only; omega) (by dsimp only; omega) (by repeat' (first | exact trivial | refine ⟨rfl, ?_⟩)) (by (exact keA))
  · skip
    repeat' (first | refine soA ?_ | refine sgA ?_ | refine sxA ?_ | refine sbA ?_ | refine fun (Q : Post) hQ => ?_ | refine fun (nb : Nat) => (?_ : WL _ _ _ _ _ _ _ _ _) | (refine WL.guard rfl rfl rfl (fun h => ?_) (fun h => ?_) <;> (try dsimp only at h)))
    refine W.loopK (σ := Nat) ⟨fun k => k ≤ ds'.length, fun k => [(6, some (.int .i64 (k : Nat))), (2, some (Value.pointer (some ⟨q1, 0, none⟩))), (3, some (Value.pointer (some ⟨nb, 0, none⟩)))], fun _ => [one q1 (cells [.int .i64 per', .int .i64 cy', .slice A1 ss'.length c1, .slice A2 ds'.length c2] 33), one nb (cells [.int .i64 per', .int .i64 cy', .slice A3 ss'.length c3, .slice A4 ds'.length c4] 33)], fun k => ds'.length - k⟩ 0 (Nat.zero_le _) (by repeat' (first | exact trivial | refine ⟨rfl, ?_⟩)) (by (exact keA)) fun k2 hk2 Q2 hL2 => ?_
    dsimp only at hk2 ⊢
    repeat' (first | refine soA ?_ | refine sgA ?_ | refine sxA ?_ | refine sbA ?_ | refine fun (Q : Post) hQ => ?_ | refine fun (nb : Nat) => (?_ : WL _ _ _ _ _ _ _ _ _) | (refine WL.guard rfl rfl rfl (fun h => ?_) (fun h => ?_) <;> (try dsimp only at h)))
    refine W.cond rfl (fun h => ?_) (fun h => ?_) <;> (try simp only [beq_iff_eq, bne_iff_ne, decide_eq_true_eq, decide_eq_false_iff_not, beq_eq_false_iff_ne, bne_eq_false_iff_eq, Bool.not_true, Bool.not_false, ne_eq, Int.not_lt, Int.not_le, Bool.not_eq_true', Bool.not_eq_false', Bool.not_eq_eq_eq_not] at h)
    · have hlt : k2 < ds'.length := by omega
      obtain ⟨b, o, rfl, g1⟩ := h2.elem 1 (fun _ => rfl) (by omega) k2 ds'[k2] (List.getElem?_eq_getElem hlt)
      obtain ⟨b', o', rfl, g2⟩ := h4.elem 1 (fun _ => rfl) (by omega) k2 ds'[k2] (List.getElem?_eq_getElem hlt)
      repeat' (first | ((apply WQ.rd; (exact rfl); apply Rn.q; (exact Rn.indexAddr k2 rfl rfl (by first | rfl | omega) (by omega)))) | ((apply WQ.rd; (exact rfl); apply Rn.q; (apply Rn.load; (exact rfl); (exact (CellsAt.weak g1 (by simp)) 0 _ rfl)))) | ((apply WQ.rd; (exact rfl); apply Rn.q; (apply Rn.load; (exact rfl); (exact (CellsAt.weak g2 (by simp)) 0 _ rfl)))) | ((apply WQ.rd; (exact rfl); apply Rn.q; (exact ckA))) | (first | refine sqA ?_ | refine soA ?_ | refine sgA ?_ | refine sxA ?_ | refine sbA ?_ | refine suA ?_ | refine fun (Q : Post) hQ => ?_ | refine fun (nb : Nat) => (?_ : WL _ _ _ _ _ _ _ _ _) | (refine WL.guard rfl rfl rfl (fun h => ?_) (fun h => ?_) <;> (try dsimp only at h)) | (refine WQ.guard rfl rfl rfl (fun h => ?_) (fun h => ?_) <;> (try dsimp only at h))))
      exact hL2.nx (k2 + 1) _ _ (by dsimp only; omega) (by dsimp only; omega) (by repeat' (first | exact trivial | refine ⟨rfl, ?_⟩)) (by (exact keA))
    · skip
      repeat' (first | refine soA ?_ | refine sgA ?_ | refine sxA ?_ | refine sbA ?_ | refine fun (Q : Post) hQ => ?_ | refine fun (nb : Nat) => (?_ : WL _ _ _ _ _ _ _ _ _) | (refine WL.guard rfl rfl rfl (fun h => ?_) (fun h => ?_) <;> (try dsimp only at h)))
      ((refine seE ?_); refine ⟨[], Keep.nil, ?_⟩)
      exact ⟨rfl, rfl⟩
end Go.Proofs.YtflgnpidelkkpaaGreat
