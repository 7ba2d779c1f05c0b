/- part 37 of the proof: contracts of the functions that the law reaches, and plain laws. -/
import Derived.Test.YtflgnpidelkkpaaGreatMq7
import Derived.Test.YtflgnpidelkkpaaGreatMq35
import Derived.Test.YtflgnpidelkkpaaGreatMq33
import Derived.Test.YtflgnpidelkkpaaGreatMq36
namespace Go.Proofs.YtflgnpidelkkpaaGreat
set_option maxRecDepth 8000
set_option maxHeartbeats 1000000
set_option linter.unusedVariables false
set_option linter.unusedSimpArgs false
theorem kgive_yes {b : Nat} {l r : List HeldV} {task m : Int} (hg : giveL l task m = some r) (hf : l.length * 24 ≤ 140737488355328) {F : Hp} {h0 : Hp} (ho : Thing (LockC b l) h0) : Spec Tryz.prog 157 [ptrV b, .int .i64 task, .int .i64 m] F [h0] fun v hs' => v = .int .i64 0 ∧ ∃ h1, hs' = [h1] ∧ Thing (LockC b r) h1 :=
  (Spec.objW (R' := fun v hs' => v = .int .i64 0 ∧ LockC b r hs') ho fun hs hr => (give_any b l task m F hs hr hf).mono fun v hs' h => by
    rcases h with ⟨i, x, h1, h2, h3, h4⟩ | ⟨h1, _⟩
    · have := giveL_yes h1 h2
      rw [hg] at this
      injection this with this
      subst this
      exact ⟨h3, h4⟩
    · rw [giveL_no h1] at hg; cases hg).mono fun v hs' ⟨h1, e, t⟩ => ⟨by obtain ⟨_, _, _, h⟩ := t; exact h.1, h1, e, t.mono fun hs h => h.2⟩
theorem kgive_not {b : Nat} {l : List HeldV} {task m : Int} (hg : giveL l task m = none) (hf : l.length * 24 ≤ 140737488355328) {F : Hp} {h0 : Hp} (ho : Thing (LockC b l) h0) : Spec Tryz.prog 157 [ptrV b, .int .i64 task, .int .i64 m] F [h0] fun v hs' => v = .int .i64 10 ∧ hs' = [h0] :=
  Spec.objR ho fun hs hr => (give_any b l task m F hs hr hf).mono fun v hs' h => by
    rcases h with ⟨i, x, h1, h2, h3, h4⟩ | ⟨h1, h2, h3⟩
    · have := giveL_yes h1 h2
      rw [hg] at this; cases this
    · exact ⟨h2, h3⟩
theorem getD_at' {l : List Int} {k : Nat} {d : Int} (h : l[k]? = some d) : l.getD k 0 = d := by rw [List.getD_eq_getElem?_getD, h]; rfl
theorem CellsAt.own {F h0 : Hp} {b o : Nat} {vs : List Value} (h : CellsAt h0 [] b o vs) : CellsAt F [h0] b o vs := fun j v hj => by
  obtain ⟨cs, t, fz, hat, hv⟩ := h j v hj
  refine ⟨cs, t, fz, ?_, hv⟩
  cases hat with
  | ro hg => exact At.here hg
attribute [local irreducible] W X WL WA WB WG WO Rn Own one splice Arr Spec WQ WH Qn
set_option maxHeartbeats 8000000 in
theorem lock_any (b : Nat) (s : Kn) (m : Int) (g : Bool) (F : Hp) (hs : List Hp) (ho : KerC b s hs) (w : KOk s) : Spec Tryz.prog 96 [ptrV b, .int .i64 m, .bool g] F hs fun v hs' => v = .int .i64 (lockK s m g).2 ∧ KerC b (lockK s m g).1 hs' := by
  have ho2 := ho
  obtain ⟨a, hP, hT, hM, hN, hU, hS, hK, hL, hA, hI, hD, hE, hR, hV, hC, rfl, k⟩ := ho
  refine Spec.enter Tryz.func96 rfl Tryz.ntmps96 rfl fun B => ?_
  have hhl := w.hlen
  have htl : a.ts.length = 6 := by rw [← w.nt, ← k.tasks, List.length_map]
  cases has : s.asleep with
  | true =>
    have e : lockK s m g = (s, 9) := by unfold lockK; rw [if_pos has]
    repeat' (first | ((apply WL.rd; (exact rfl); (exact has ▸ Rn.load rfl (CellAt.mk atA rfl)))) | (first | refine soA ?_ | refine sgA ?_ | refine sxA ?_ | refine sbA ?_ | refine fun (Q : Post) hQ => ?_ | refine fun (nb : Nat) => (?_ : WL _ _ _ _ _ _ _ _ _) | (refine WL.guard rfl rfl rfl (fun h => ?_) (fun h => ?_) <;> (try dsimp only at h))))
    refine W.cond (t := s.asleep) rfl (fun h => ?_) (fun h => by rw [has] at h; cases h)
    repeat' (first | refine soA ?_ | refine sgA ?_ | refine sxA ?_ | refine sbA ?_ | refine fun (Q : Post) hQ => ?_ | refine fun (nb : Nat) => (?_ : WL _ _ _ _ _ _ _ _ _) | (refine WL.guard rfl rfl rfl (fun h => ?_) (fun h => ?_) <;> (try dsimp only at h)))
    (refine seE ?_)
    exact ⟨[one b (cells (KM s a) 108), hP, hT, hM, hN, hU, hS, hK, hL, hA, hI, hD, hE, hR, hV, hC], (by (exact keA)), by rw [e], by rw [e]; exact ho2⟩
  | false =>
    have h1 : ¬ s.asleep = true := by rw [has]; decide
    repeat' (first | refine soA ?_ | refine sgA ?_ | refine sxA ?_ | refine sbA ?_ | refine fun (Q : Post) hQ => ?_ | refine fun (nb : Nat) => (?_ : WL _ _ _ _ _ _ _ _ _) | (refine WL.guard rfl rfl rfl (fun h => ?_) (fun h => ?_) <;> (try dsimp only at h)))
    refine W.cond (t := s.asleep) rfl (fun h => absurd h h1) (fun h => ?_)
    cases hok : (whoK s).2 with
    | false =>
      have e : lockK s m g = (s, 9) := by unfold lockK; rw [if_neg h1, if_pos (.inl hok)]
      obtain ⟨jz, hget⟩ := getJ_eq s.jobs (whoK s).1
      repeat' (first | ((refine WL.ex rfl (WO.callN Tryz.func155 rfl (by kernel_rfl) rfl (by (exact tsA)) (fun G hG hh => hok ▸ who_any b s G _ ho2 w) ?_); rintro v own' ⟨rfl, rfl⟩)) | ((refine WL.ex rfl (WO.callN Tryz.func150 rfl (by kernel_rfl) rfl (own := [hS]) (by (exact tsA)) (fun G hG hh => Spec.objR k.hS fun hs hr => hget ▸ ryget_any a.sb s.jobs (whoK s).1 G hs hr) ?_); rintro v own' ⟨rfl, rfl⟩)) | (first | refine soA ?_ | refine sgA ?_ | refine sxA ?_ | refine sbA ?_ | refine fun (Q : Post) hQ => ?_ | refine fun (nb : Nat) => (?_ : WL _ _ _ _ _ _ _ _ _) | (refine WL.guard rfl rfl rfl (fun h => ?_) (fun h => ?_) <;> (try dsimp only at h))))
      (refine seE ?_)
      exact ⟨[one b (cells (KM s a) 108), hP, hT, hM, hN, hU, hS, hK, hL, hA, hI, hD, hE, hR, hV, hC], (by (exact keA)), by rw [e], by rw [e]; exact ho2⟩
    | true =>
      have hj := jobK_of (whoK_job w hok)
      have hget := getJ_mem w.jnd hj.1 hj.2
      have hin := w.jin _ hj.1
      rw [hj.2] at hin
      have hun : ∀ e1 : (jobK s (whoK s).1).started = true, ¬ ((whoK s).2 = false ∨ (jobK s (whoK s).1).started = false) := fun e1 h => by rw [hok, e1] at h; rcases h with h | h <;> cases h
      have hlk : (jobK s (whoK s).1).started = false → lockK s m g = (s, 9) := fun e1 => by unfold lockK; rw [if_neg h1, if_pos (.inr e1)]
      generalize hJ : jobK s (whoK s).1 = J at hget hun hlk
      repeat' (first | ((refine WL.ex rfl (WO.callN Tryz.func155 rfl (by kernel_rfl) rfl (by (exact tsA)) (fun G hG hh => hok ▸ who_any b s G _ ho2 w) ?_); rintro v own' ⟨rfl, rfl⟩)) | ((refine WL.ex rfl (WO.callN Tryz.func150 rfl (by kernel_rfl) rfl (own := [hS]) (by (exact tsA)) (fun G hG hh => Spec.objR k.hS fun hs hr => hget ▸ ryget_any a.sb s.jobs (whoK s).1 G hs hr) ?_); rintro v own' ⟨rfl, rfl⟩)) | (first | refine soA ?_ | refine sgA ?_ | refine sxA ?_ | refine sbA ?_ | refine fun (Q : Post) hQ => ?_ | refine fun (nb : Nat) => (?_ : WL _ _ _ _ _ _ _ _ _) | (refine WL.guard rfl rfl rfl (fun h => ?_) (fun h => ?_) <;> (try dsimp only at h))))
      refine W.cond rfl (fun h => ?_) (fun h => ?_)
      · have hst : J.started = false := by simpa using h
        have e := hlk hst
        repeat' (first | refine soA ?_ | refine sgA ?_ | refine sxA ?_ | refine sbA ?_ | refine fun (Q : Post) hQ => ?_ | refine fun (nb : Nat) => (?_ : WL _ _ _ _ _ _ _ _ _) | (refine WL.guard rfl rfl rfl (fun h => ?_) (fun h => ?_) <;> (try dsimp only at h)))
        (refine seE ?_)
        exact ⟨[one b (cells (KM s a) 108), hP, hT, hM, hN, hU, hS, hK, hL, hA, hI, hD, hE, hR, hV, hC], (by (exact keA)), by rw [e], by rw [e]; exact ho2⟩
      · have hst : J.started = true := by simpa using h
        have hno := hun hst
        obtain ⟨i, hi⟩ : ∃ i : Nat, (whoK s).1 = i := ⟨(whoK s).1.toNat, by omega⟩
        have hil : i < a.ts.length := by omega
        obtain ⟨tk, htk⟩ : ∃ tk, a.ts[i]? = some tk := ⟨_, List.getElem?_eq_getElem (by simpa using hil)⟩
        have htm : tk ∈ a.ts := List.mem_of_getElem? htk
        have htd : taskD s (whoK s).1 = tk.pl := by unfold taskD; rw [hi, Int.toNat_natCast, ← k.tasks, mapT_get htk]; rfl
        obtain ⟨g2, o2, eT, c2⟩ := (k.hT.rowX (Hp.le.refl hT)).own (F := F) |>.elem 4 TaskV.enc_len (by omega) i tk htk
        cases hu : usesP tk.pl m with
        | false =>
          have e : lockK s m g = (s, 10) := by unfold lockK; rw [if_neg h1, if_neg (hJ ▸ hno), htd, if_pos hu]
          repeat' (first | ((apply WL.rd; (exact rfl); (exact Rn.indexAddrE i eT rfl rfl hi hil))) | ((apply WL.rd; (exact rfl); (apply Rn.loadS; (exact rfl); (exact (CellsAt.weak c2 (by simp))); (exact rfl)))) | ((refine WL.ex rfl (WO.callN Tryz.func156 rfl (by kernel_rfl) rfl (own := []) (by (exact tsA)) (fun G hG hh => (show usesB tk m = false from hu) ▸ usesT_any tk m G ((k.sec tk htm).up (hh hM (by simp)) (by simp))) ?_); rintro v own' ⟨rfl, rfl⟩)) | (first | refine soA ?_ | refine sgA ?_ | refine sxA ?_ | refine sbA ?_ | refine fun (Q : Post) hQ => ?_ | refine fun (nb : Nat) => (?_ : WL _ _ _ _ _ _ _ _ _) | (refine WL.guard rfl rfl rfl (fun h => ?_) (fun h => ?_) <;> (try dsimp only at h))))
          (refine seE ?_)
          exact ⟨[one b (cells (KM s a) 108), hP, hT, hM, hN, hU, hS, hK, hL, hA, hI, hD, hE, hR, hV, hC], (by (exact keA)), by rw [e], by rw [e]; exact ho2⟩
        | true =>
          cases g with
          | true =>
            cases hg : giveL s.held (whoK s).1 m with
            | none =>
              have e : lockK s m true = (s, 10) := by unfold lockK; rw [if_neg h1, if_neg (hJ ▸ hno), htd, if_neg (by rw [hu]; decide), if_pos rfl, hg]
              repeat' (first | ((apply WL.rd; (exact rfl); (exact Rn.indexAddrE i eT rfl rfl hi hil))) | ((apply WL.rd; (exact rfl); (apply Rn.loadS; (exact rfl); (exact (CellsAt.weak c2 (by simp))); (exact rfl)))) | ((refine WL.ex rfl (WO.callN Tryz.func156 rfl (by kernel_rfl) rfl (own := []) (by (exact tsA)) (fun G hG hh => (show usesB tk m = true from hu) ▸ usesT_any tk m G ((k.sec tk htm).up (hh hM (by simp)) (by simp))) ?_); rintro v own' ⟨rfl, rfl⟩)) | ((refine WL.ex rfl (WO.callN Tryz.func157 rfl (by kernel_rfl) rfl (own := [hL]) (by (exact tsA)) (fun G hG hh => kgive_not hg (by omega) k.hL) ?_); rintro v own' ⟨rfl, rfl⟩)) | (first | refine soA ?_ | refine sgA ?_ | refine sxA ?_ | refine sbA ?_ | refine fun (Q : Post) hQ => ?_ | refine fun (nb : Nat) => (?_ : WL _ _ _ _ _ _ _ _ _) | (refine WL.guard rfl rfl rfl (fun h => ?_) (fun h => ?_) <;> (try dsimp only at h))))
              (refine seE ?_)
              exact ⟨[one b (cells (KM s a) 108), hP, hT, hM, hN, hU, hS, hK, hL, hA, hI, hD, hE, hR, hV, hC], (by (exact keA)), by rw [e], by rw [e]; exact ho2⟩
            | some r =>
              have e : lockK s m true = ({ s with held := r }, 0) := by unfold lockK; rw [if_neg h1, if_neg (hJ ▸ hno), htd, if_neg (by rw [hu]; decide), if_pos rfl, hg]
              repeat' (first | ((apply WL.rd; (exact rfl); (exact Rn.indexAddrE i eT rfl rfl hi hil))) | ((apply WL.rd; (exact rfl); (apply Rn.loadS; (exact rfl); (exact (CellsAt.weak c2 (by simp))); (exact rfl)))) | ((refine WL.ex rfl (WO.callN Tryz.func156 rfl (by kernel_rfl) rfl (own := []) (by (exact tsA)) (fun G hG hh => (show usesB tk m = true from hu) ▸ usesT_any tk m G ((k.sec tk htm).up (hh hM (by simp)) (by simp))) ?_); rintro v own' ⟨rfl, rfl⟩)) | ((refine WL.ex rfl (WO.callN Tryz.func157 rfl (by kernel_rfl) rfl (own := [hL]) (by (exact tsA)) (fun G hG hh => kgive_yes hg (by omega) k.hL) ?_); rintro v own' ⟨rfl, hL1, rfl, tL⟩)) | (first | refine soA ?_ | refine sgA ?_ | refine sxA ?_ | refine sbA ?_ | refine fun (Q : Post) hQ => ?_ | refine fun (nb : Nat) => (?_ : WL _ _ _ _ _ _ _ _ _) | (refine WL.guard rfl rfl rfl (fun h => ?_) (fun h => ?_) <;> (try dsimp only at h))))
              (refine seE ?_)
              rw [e]
              exact ⟨[one b (cells (KM s a) 108), hP, hT, hM, hN, hU, hS, hK, hL1, hA, hI, hD, hE, hR, hV, hC], (by (exact keA)), rfl, a, hP, hT, hM, hN, hU, hS, hK, hL1, hA, hI, hD, hE, hR, hV, hC, rfl, { k with hL := tL }⟩
          | false =>
            have hus := hu
            have hmr : 0 ≤ m ∧ m < (tk.sec.xs.length : Nat) := by
              unfold usesP at hus
              simp only [Bool.and_eq_true, decide_eq_true_eq] at hus
              exact ⟨hus.1, hus.2.1⟩
            obtain ⟨q, hq⟩ : ∃ q : Nat, m = q := ⟨m.toNat, by omega⟩
            have hql : q < tk.sec.xs.length := by omega
            obtain ⟨cv, hcv⟩ : ∃ cv, tk.sec.xs[q]? = some cv := ⟨_, List.getElem?_eq_getElem (by simpa using hql)⟩
            obtain ⟨g3, o3, e3, c3⟩ := ints_cell (k.sec tk htm) hcv
            have hsec : secT tk.pl m = cv := by unfold secT; rw [hq, Int.toNat_natCast]; exact getD_at' hcv
            have c3' := CellsAt.own (F := F) c3
            cases ha : (s.held.any fun x => x.sem == m) with
            | true =>
              have e : lockK s m false = (s, 10) := by unfold lockK; rw [if_neg h1, if_neg (hJ ▸ hno), htd, if_neg (by rw [hu]; decide), if_neg (by decide), if_pos ha]
              repeat' (first | ((apply WL.rd; (exact rfl); (exact Rn.indexAddrE i eT rfl rfl hi hil))) | ((apply WL.rd; (exact rfl); (apply Rn.loadS; (exact rfl); (exact (CellsAt.weak c2 (by simp))); (exact rfl)))) | ((refine WL.ex rfl (WO.callN Tryz.func156 rfl (by kernel_rfl) rfl (own := []) (by (exact tsA)) (fun G hG hh => (show usesB tk m = true from hu) ▸ usesT_any tk m G ((k.sec tk htm).up (hh hM (by simp)) (by simp))) ?_); rintro v own' ⟨rfl, rfl⟩)) | (first | refine soA ?_ | refine sgA ?_ | refine sxA ?_ | refine sbA ?_ | refine fun (Q : Post) hQ => ?_ | refine fun (nb : Nat) => (?_ : WL _ _ _ _ _ _ _ _ _) | (refine WL.guard rfl rfl rfl (fun h => ?_) (fun h => ?_) <;> (try dsimp only at h))))
              refine dra [(0, [])] [(hT, []), (hM, [])] ?_
              refine drp 19 0 1 ?_
              refine drp 19 1 3 ?_
              refine drp 19 2 7 ?_
              refine drl 19 3 0 15 ?_
              refine drp 19 4 31 ?_
              refine drp 19 5 63 ?_
              refine drp 19 6 127 ?_
              refine drp 19 7 255 ?_
              refine drp 19 8 511 ?_
              refine drl 19 9 0 1023 ?_
              refine drp 19 10 2047 ?_
              refine drp 19 11 4095 (hy := by (exact Rn.indexAddrE i eT rfl rfl hi hil)) ?_
              refine drp 19 12 8191 ?_
              refine drl 19 13 1 16383 (hy := by (apply Rn.load; (exact rfl); (exact c2 2 _ rfl))) ?_
              refine drp 19 14 32767 ?_
              refine drp 19 15 65535 (hy := by (exact Rn.indexAddrE q e3 rfl rfl hq hql)) ?_
              refine drl 19 16 2 131071 (hy := by (apply Rn.load; (exact rfl); (exact c3' 0 _ rfl))) ?_
              refine dr1 17 ?_
              refine dre 19 17 262143 ?_
              (refine WO.callN Tryz.func158 rfl (by kernel_rfl) rfl (own := [hL]) (by (exact tsA)) (fun G hG hh => Spec.objR k.hL fun hs hr => take_has a.lk s.held (whoK s).1 m cv G hs hr (by omega) ha) ?_; rintro v own' ⟨rfl, rfl⟩)
              refine ⟨piA, ?_⟩
              refine drp 19 18 524287 ?_
              refine drz ?_
              repeat' (first | refine soA ?_ | refine sgA ?_ | refine sxA ?_ | refine sbA ?_ | refine fun (Q : Post) hQ => ?_ | refine fun (nb : Nat) => (?_ : WL _ _ _ _ _ _ _ _ _) | (refine WL.guard rfl rfl rfl (fun h => ?_) (fun h => ?_) <;> (try dsimp only at h)))
              (refine seE ?_)
              exact ⟨[one b (cells (KM s a) 108), hP, hT, hM, hN, hU, hS, hK, hL, hA, hI, hD, hE, hR, hV, hC], (by (exact keA)), by rw [e], by rw [e]; exact ho2⟩
            | false =>
              have e : lockK s m false = ({ s with held := s.held ++ [⟨(whoK s).1, m, cv⟩] }, 0) := by unfold lockK; rw [if_neg h1, if_neg (hJ ▸ hno), htd, if_neg (by rw [hu]; decide), if_neg (by decide), if_neg (by rw [ha]; decide), hsec]
              repeat' (first | ((apply WL.rd; (exact rfl); (exact Rn.indexAddrE i eT rfl rfl hi hil))) | ((apply WL.rd; (exact rfl); (apply Rn.loadS; (exact rfl); (exact (CellsAt.weak c2 (by simp))); (exact rfl)))) | ((refine WL.ex rfl (WO.callN Tryz.func156 rfl (by kernel_rfl) rfl (own := []) (by (exact tsA)) (fun G hG hh => (show usesB tk m = true from hu) ▸ usesT_any tk m G ((k.sec tk htm).up (hh hM (by simp)) (by simp))) ?_); rintro v own' ⟨rfl, rfl⟩)) | (first | refine soA ?_ | refine sgA ?_ | refine sxA ?_ | refine sbA ?_ | refine fun (Q : Post) hQ => ?_ | refine fun (nb : Nat) => (?_ : WL _ _ _ _ _ _ _ _ _) | (refine WL.guard rfl rfl rfl (fun h => ?_) (fun h => ?_) <;> (try dsimp only at h))))
              refine dra [(0, [])] [(hT, []), (hM, [])] ?_
              refine drp 19 0 1 ?_
              refine drp 19 1 3 ?_
              refine drp 19 2 7 ?_
              refine drl 19 3 0 15 ?_
              refine drp 19 4 31 ?_
              refine drp 19 5 63 ?_
              refine drp 19 6 127 ?_
              refine drp 19 7 255 ?_
              refine drp 19 8 511 ?_
              refine drl 19 9 0 1023 ?_
              refine drp 19 10 2047 ?_
              refine drp 19 11 4095 (hy := by (exact Rn.indexAddrE i eT rfl rfl hi hil)) ?_
              refine drp 19 12 8191 ?_
              refine drl 19 13 1 16383 (hy := by (apply Rn.load; (exact rfl); (exact c2 2 _ rfl))) ?_
              refine drp 19 14 32767 ?_
              refine drp 19 15 65535 (hy := by (exact Rn.indexAddrE q e3 rfl rfl hq hql)) ?_
              refine drl 19 16 2 131071 (hy := by (apply Rn.load; (exact rfl); (exact c3' 0 _ rfl))) ?_
              refine dr1 17 ?_
              refine dre 19 17 262143 ?_
              (refine WO.callN Tryz.func158 rfl (by kernel_rfl) rfl (own := [hL]) (by (exact tsA)) (fun G hG hh => Spec.objW k.hL fun hs hr => take_new a.lk s.held (whoK s).1 m cv G hs hr (by omega) ha) ?_; rintro v own' ⟨hL1, rfl, tL⟩; obtain rfl : v = .int .i64 0 := (by obtain ⟨_, _, _, h⟩ := tL; exact h.1))
              refine ⟨piA, ?_⟩
              refine drp 19 18 524287 ?_
              refine drz ?_
              have tL1 : Thing (LockC a.lk (s.held ++ [⟨(whoK s).1, m, cv⟩])) hL1 := tL.mono fun hs h => h.2
              repeat' (first | refine soA ?_ | refine sgA ?_ | refine sxA ?_ | refine sbA ?_ | refine fun (Q : Post) hQ => ?_ | refine fun (nb : Nat) => (?_ : WL _ _ _ _ _ _ _ _ _) | (refine WL.guard rfl rfl rfl (fun h => ?_) (fun h => ?_) <;> (try dsimp only at h)))
              (refine seE ?_)
              rw [e]
              exact ⟨[one b (cells (KM s a) 108), hP, hT, hM, hN, hU, hS, hK, hL1, hA, hI, hD, hE, hR, hV, hC], (by (exact keA)), rfl, a, hP, hT, hM, hN, hU, hS, hK, hL1, hA, hI, hD, hE, hR, hV, hC, rfl, { k with hL := tL1 }⟩
end Go.Proofs.YtflgnpidelkkpaaGreat
namespace Go.Proofs.YtflgnpidelkkpaaGreat
set_option maxRecDepth 8000
set_option maxHeartbeats 1000000
set_option linter.unusedVariables false
set_option linter.unusedSimpArgs false
structure StepX (F : Hp) (x : StepV) : Prop where
  sec : RowAt F [] x.task.sec.A (x.task.sec.xs.flatMap encI)
  dev : RowAt F [] x.task.devs.A (x.task.devs.xs.flatMap encI)
  secF : x.task.sec.xs.length * 8 ≤ 140737488355328
  devF : x.task.devs.xs.length * 8 ≤ 140737488355328
theorem StepX.up {F G : Hp} {x : StepV} (h : StepX F x) (g : F.le G) : StepX G x := ⟨h.sec.up g (by simp), h.dev.up g (by simp), h.secF, h.devF⟩
attribute [local irreducible] W X WL WA WB WG WO Rn Own one splice Arr Spec WQ WH Qn
set_option maxHeartbeats 16000000 in
theorem one_any (b : Nat) (s : Kn) (x : StepV) (c : Nat) (F : Hp) (hs : List Hp) (ho : KerC b s hs) (h : KInv s c) (hc : c + 1 ≤ 2198000000000) (hx : StepX F x) : Spec Tryz.prog 56 [ptrV b, .agg x.enc.toArray] F hs fun v hs' => v = .tuple #[.int .i64 (oneK s x).2.1, .int .i64 (oneK s x).2.2] ∧ KerC b (oneK s x).1 hs' := by
  have ho2 := ho
  obtain ⟨a, hP, hT, hM, hN, hU, hS, hK, hL, hA, hI, hD, hE, hR, hV, hC, rfl, k⟩ := ho
  refine Spec.enter Tryz.func56 rfl Tryz.ntmps56 rfl fun B => ?_
  have w := h.ok
  have hm := h.mom.big
  have hll := w.llen
  have htl := w.tlen4
  by_cases e1 : x.kind = 1
  · have e : oneK s x = admitK s x.task.pl := by unfold oneK; rw [if_pos e1]
    repeat' (first | ((apply WL.rd; (exact rfl); (exact ckA))) | ((apply WL.rd; (exact rfl); (exact Rn.loadS (vs := x.task.enc) rfl (CellsAt.part (by (exact atA)) rfl) rfl))) | ((refine WL.ex rfl (WO.callN Tryz.func92 rfl (by kernel_rfl) rfl (own := [one b (cells (KM s a) 108), hP, hT, hM, hN, hU, hS, hK, hL, hA, hI, hD, hE, hR, hV, hC]) (by (exact tsA)) (fun G hG hh => admit_any b s x.task G _ ho2 w h.mom (hx.up hG).sec (hx.up hG).dev hx.secF hx.devF) ?_); rintro v own' ⟨rfl, hk2⟩)) | (first | refine soA ?_ | refine sgA ?_ | refine sxA ?_ | refine sbA ?_ | refine fun (Q : Post) hQ => ?_ | refine fun (nb : Nat) => (?_ : WL _ _ _ _ _ _ _ _ _) | (refine WL.guard rfl rfl rfl (fun h => ?_) (fun h => ?_) <;> (try dsimp only at h))))
    (refine seE ?_)
    exact ⟨own', keep_app own' _, (by rw [e]; try rfl), by rw [e]; exact hk2⟩
  · by_cases e2 : x.kind = 2
    · have e : oneK s x = ((removeK s x.A).1, 0, (removeK s x.A).2) := by unfold oneK; rw [if_neg e1, if_pos e2]
      repeat' (first | ((apply WL.rd; (exact rfl); (exact ckA))) | ((refine WL.ex rfl (WO.callN Tryz.func93 rfl (by kernel_rfl) rfl (own := [one b (cells (KM s a) 108), hP, hT, hM, hN, hU, hS, hK, hL, hA, hI, hD, hE, hR, hV, hC]) (by (exact tsA)) (fun G hG hh => remove_any b s x.A G _ ho2 w) ?_); rintro v own' ⟨rfl, hk2⟩)) | (first | refine soA ?_ | refine sgA ?_ | refine sxA ?_ | refine sbA ?_ | refine fun (Q : Post) hQ => ?_ | refine fun (nb : Nat) => (?_ : WL _ _ _ _ _ _ _ _ _) | (refine WL.guard rfl rfl rfl (fun h => ?_) (fun h => ?_) <;> (try dsimp only at h))))
      (refine seE ?_)
      exact ⟨own', keep_app own' _, (by rw [e]; try rfl), by rw [e]; exact hk2⟩
    · by_cases e3 : x.kind = 3
      · have e : oneK s x = ((arriveK s x.A x.B x.C).1, 0, (arriveK s x.A x.B x.C).2) := by unfold oneK; rw [if_neg e1, if_neg e2, if_pos e3]
        repeat' (first | ((apply WL.rd; (exact rfl); (exact ckA))) | ((refine WL.ex rfl (WO.callN Tryz.func94 rfl (by kernel_rfl) rfl (own := [one b (cells (KM s a) 108), hP, hT, hM, hN, hU, hS, hK, hL, hA, hI, hD, hE, hR, hV, hC]) (by (exact tsA)) (fun G hG hh => arrive_any b s x.A x.B x.C G _ ho2 w (by omega)) ?_); rintro v own' ⟨rfl, hk2⟩)) | (first | refine soA ?_ | refine sgA ?_ | refine sxA ?_ | refine sbA ?_ | refine fun (Q : Post) hQ => ?_ | refine fun (nb : Nat) => (?_ : WL _ _ _ _ _ _ _ _ _) | (refine WL.guard rfl rfl rfl (fun h => ?_) (fun h => ?_) <;> (try dsimp only at h))))
        (refine seE ?_)
        exact ⟨own', keep_app own' _, (by rw [e]; try rfl), by rw [e]; exact hk2⟩
      · by_cases e4 : x.kind = 4
        · have e : oneK s x = ((tickK s x.A).1, 0, (tickK s x.A).2) := by unfold oneK; rw [if_neg e1, if_neg e2, if_neg e3, if_pos e4]
          repeat' (first | ((apply WL.rd; (exact rfl); (exact ckA))) | ((refine WL.ex rfl (WO.callN Tryz.func95 rfl (by kernel_rfl) rfl (own := [one b (cells (KM s a) 108), hP, hT, hM, hN, hU, hS, hK, hL, hA, hI, hD, hE, hR, hV, hC]) (by (exact tsA)) (fun G hG hh => tick_any b s x.A c G _ ho2 h (by omega)) ?_); rintro v own' ⟨rfl, hk2⟩)) | (first | refine soA ?_ | refine sgA ?_ | refine sxA ?_ | refine sbA ?_ | refine fun (Q : Post) hQ => ?_ | refine fun (nb : Nat) => (?_ : WL _ _ _ _ _ _ _ _ _) | (refine WL.guard rfl rfl rfl (fun h => ?_) (fun h => ?_) <;> (try dsimp only at h))))
          (refine seE ?_)
          exact ⟨own', keep_app own' _, (by rw [e]; try rfl), by rw [e]; exact hk2⟩
        · by_cases e5 : x.kind = 5 ∨ x.kind = 6
          · have e : oneK s x = ((lockK s x.A (x.kind == 6)).1, 0, (lockK s x.A (x.kind == 6)).2) := by unfold oneK; rw [if_neg e1, if_neg e2, if_neg e3, if_neg e4, if_pos e5]
            by_cases e0 : x.kind = 5
            · have e00 : (x.kind == 6) = false := by rw [e0]; rfl
              rw [e00] at e
              repeat' (first | ((apply WL.rd; (exact rfl); (exact ckA))) | ((refine WL.ex rfl (WO.callN Tryz.func96 rfl (by kernel_rfl) rfl (own := [one b (cells (KM s a) 108), hP, hT, hM, hN, hU, hS, hK, hL, hA, hI, hD, hE, hR, hV, hC]) (by (exact tsA)) (fun G hG hh => lock_any b s x.A false G _ ho2 w) ?_); rintro v own' ⟨rfl, hk2⟩)) | (first | refine soA ?_ | refine sgA ?_ | refine sxA ?_ | refine sbA ?_ | refine fun (Q : Post) hQ => ?_ | refine fun (nb : Nat) => (?_ : WL _ _ _ _ _ _ _ _ _) | (refine WL.guard rfl rfl rfl (fun h => ?_) (fun h => ?_) <;> (try dsimp only at h))))
              (refine seE ?_)
              exact ⟨own', keep_app own' _, (by rw [e]; try rfl), by rw [e]; exact hk2⟩
            · have e00 : (x.kind == 6) = true := by rw [show x.kind = 6 by omega]; rfl
              rw [e00] at e
              repeat' (first | ((apply WL.rd; (exact rfl); (exact ckA))) | ((refine WL.ex rfl (WO.callN Tryz.func96 rfl (by kernel_rfl) rfl (own := [one b (cells (KM s a) 108), hP, hT, hM, hN, hU, hS, hK, hL, hA, hI, hD, hE, hR, hV, hC]) (by (exact tsA)) (fun G hG hh => lock_any b s x.A true G _ ho2 w) ?_); rintro v own' ⟨rfl, hk2⟩)) | (first | refine soA ?_ | refine sgA ?_ | refine sxA ?_ | refine sbA ?_ | refine fun (Q : Post) hQ => ?_ | refine fun (nb : Nat) => (?_ : WL _ _ _ _ _ _ _ _ _) | (refine WL.guard rfl rfl rfl (fun h => ?_) (fun h => ?_) <;> (try dsimp only at h))))
              (refine seE ?_)
              exact ⟨own', keep_app own' _, (by rw [e]; try rfl), by rw [e]; exact hk2⟩
          · by_cases e6 : x.kind = 7
            · have e : oneK s x = ((policyK s x.A x.B).1, 0, (policyK s x.A x.B).2) := by unfold oneK; rw [if_neg e1, if_neg e2, if_neg e3, if_neg e4, if_neg e5, if_pos e6]
              repeat' (first | ((apply WL.rd; (exact rfl); (exact ckA))) | ((refine WL.ex rfl (WO.callN Tryz.func97 rfl (by kernel_rfl) rfl (own := [one b (cells (KM s a) 108), hP, hT, hM, hN, hU, hS, hK, hL, hA, hI, hD, hE, hR, hV, hC]) (by (exact tsA)) (fun G hG hh => kpolicy_any b s x.A x.B G _ ho2) ?_); rintro v own' ⟨rfl, hk2⟩)) | (first | refine soA ?_ | refine sgA ?_ | refine sxA ?_ | refine sbA ?_ | refine fun (Q : Post) hQ => ?_ | refine fun (nb : Nat) => (?_ : WL _ _ _ _ _ _ _ _ _) | (refine WL.guard rfl rfl rfl (fun h => ?_) (fun h => ?_) <;> (try dsimp only at h))))
              (refine seE ?_)
              exact ⟨own', keep_app own' _, (by rw [e]; try rfl), by rw [e]; exact hk2⟩
            · by_cases e7 : x.kind = 8 ∨ x.kind = 9
              · have e : oneK s x = ((timerK s x).1, 0, (timerK s x).2) := by unfold oneK; rw [if_neg e1, if_neg e2, if_neg e3, if_neg e4, if_neg e5, if_neg e6, if_pos e7]
                by_cases e0 : x.kind = 8
                · skip
                  repeat' (first | ((apply WL.rd; (exact rfl); (exact ckA))) | ((refine WL.ex rfl (WO.callN Tryz.func98 rfl (by kernel_rfl) rfl (own := [one b (cells (KM s a) 108), hP, hT, hM, hN, hU, hS, hK, hL, hA, hI, hD, hE, hR, hV, hC]) (by (exact tsA)) (fun G hG hh => timer_any b s x G _ ho2 (by omega) (by omega)) ?_); rintro v own' ⟨rfl, hk2⟩)) | (first | refine soA ?_ | refine sgA ?_ | refine sxA ?_ | refine sbA ?_ | refine fun (Q : Post) hQ => ?_ | refine fun (nb : Nat) => (?_ : WL _ _ _ _ _ _ _ _ _) | (refine WL.guard rfl rfl rfl (fun h => ?_) (fun h => ?_) <;> (try dsimp only at h))))
                  (refine seE ?_)
                  exact ⟨own', keep_app own' _, (by rw [e]; try rfl), by rw [e]; exact hk2⟩
                · skip
                  repeat' (first | ((apply WL.rd; (exact rfl); (exact ckA))) | ((refine WL.ex rfl (WO.callN Tryz.func98 rfl (by kernel_rfl) rfl (own := [one b (cells (KM s a) 108), hP, hT, hM, hN, hU, hS, hK, hL, hA, hI, hD, hE, hR, hV, hC]) (by (exact tsA)) (fun G hG hh => timer_any b s x G _ ho2 (by omega) (by omega)) ?_); rintro v own' ⟨rfl, hk2⟩)) | (first | refine soA ?_ | refine sgA ?_ | refine sxA ?_ | refine sbA ?_ | refine fun (Q : Post) hQ => ?_ | refine fun (nb : Nat) => (?_ : WL _ _ _ _ _ _ _ _ _) | (refine WL.guard rfl rfl rfl (fun h => ?_) (fun h => ?_) <;> (try dsimp only at h))))
                  (refine seE ?_)
                  exact ⟨own', keep_app own' _, (by rw [e]; try rfl), by rw [e]; exact hk2⟩
              · have e : oneK s x = (s, 0, 1) := by unfold oneK; rw [if_neg e1, if_neg e2, if_neg e3, if_neg e4, if_neg e5, if_neg e6, if_neg e7]
                repeat' (first | ((apply WL.rd; (exact rfl); (exact ckA))) | (first | refine soA ?_ | refine sgA ?_ | refine sxA ?_ | refine sbA ?_ | refine fun (Q : Post) hQ => ?_ | refine fun (nb : Nat) => (?_ : WL _ _ _ _ _ _ _ _ _) | (refine WL.guard rfl rfl rfl (fun h => ?_) (fun h => ?_) <;> (try dsimp only at h))))
                (refine seE ?_)
                exact ⟨[one b (cells (KM s a) 108), hP, hT, hM, hN, hU, hS, hK, hL, hA, hI, hD, hE, hR, hV, hC], (by (exact keA)), (by rw [e]; try rfl), by rw [e]; exact ho2⟩
set_option maxHeartbeats 8000000 in
theorem do_any (b : Nat) (s : Kn) (x : StepV) (c : Nat) (F : Hp) (hs : List Hp) (ho : KerC b s hs) (h : KInv s c) (hc : c + 1 ≤ 2198000000000) (hx : StepX F x) : Spec Tryz.prog 17 [ptrV b, .agg x.enc.toArray] F hs fun v hs' => v = .tuple #[.int .i64 (doK s x).2.1, .int .i64 (doK s x).2.2] ∧ KerC b (doK s x).1 hs' := by
  have ho2 := ho
  obtain ⟨a, hP, hT, hM, hN, hU, hS, hK, hL, hA, hI, hD, hE, hR, hV, hC, rfl, k⟩ := ho
  refine Spec.enter Tryz.func17 rfl Tryz.ntmps17 rfl fun B => ?_
  have ehz : a.p.horizon = s.p.horizon := congrArg PP.horizon k.pl
  by_cases e1 : s.p.horizon ≤ s.now
  · have e : doK s x = (s, 0, 11) := by unfold doK; rw [if_pos e1]
    repeat' (first | refine soA ?_ | refine sgA ?_ | refine sxA ?_ | refine sbA ?_ | refine fun (Q : Post) hQ => ?_ | refine fun (nb : Nat) => (?_ : WL _ _ _ _ _ _ _ _ _) | (refine WL.guard rfl rfl rfl (fun h => ?_) (fun h => ?_) <;> (try dsimp only at h)))
    refine dra [(0, [])] [] ?_
    refine drp 11 0 1 ?_
    refine drp 11 1 3 ?_
    refine drp 11 2 7 ?_
    refine drl 11 3 0 15 ?_
    refine drp 11 4 31 ?_
    refine drp 11 5 63 ?_
    refine drp 11 6 127 ?_
    refine drp 11 7 255 ?_
    refine drl 11 8 0 511 ?_
    refine drp 11 9 1023 (hy := by (exact ckA)) ?_
    refine drp 11 10 2047 ?_
    refine drz ?_
    repeat' (first | refine soA ?_ | refine sgA ?_ | refine sxA ?_ | refine sbA ?_ | refine fun (Q : Post) hQ => ?_ | refine fun (nb : Nat) => (?_ : WL _ _ _ _ _ _ _ _ _) | (refine WL.guard rfl rfl rfl (fun h => ?_) (fun h => ?_) <;> (try dsimp only at h)))
    (refine seE ?_)
    exact ⟨[one b (cells (KM s a) 108), hP, hT, hM, hN, hU, hS, hK, hL, hA, hI, hD, hE, hR, hV, hC], (by (exact keA)), (by rw [e]; try rfl), by rw [e]; exact ho2⟩
  · have hi := oneK_inv h x (by omega)
    repeat' (first | refine soA ?_ | refine sgA ?_ | refine sxA ?_ | refine sbA ?_ | refine fun (Q : Post) hQ => ?_ | refine fun (nb : Nat) => (?_ : WL _ _ _ _ _ _ _ _ _) | (refine WL.guard rfl rfl rfl (fun h => ?_) (fun h => ?_) <;> (try dsimp only at h)))
    refine dra [(0, [])] [] ?_
    refine drp 11 0 1 ?_
    refine drp 11 1 3 ?_
    refine drp 11 2 7 ?_
    refine drl 11 3 0 15 ?_
    refine drp 11 4 31 ?_
    refine drp 11 5 63 ?_
    refine drp 11 6 127 ?_
    refine drp 11 7 255 ?_
    refine drl 11 8 0 511 ?_
    refine drp 11 9 1023 (hy := by (exact ckA)) ?_
    refine drp 11 10 2047 ?_
    refine drz ?_
    by_cases e2 : (oneK s x).2.2 = 0
    · have e : doK s x = (boundaryK (oneK s x).1, (oneK s x).2) := by unfold doK; rw [if_neg e1, if_pos e2]
      repeat' (first | ((refine WL.ex rfl (WO.callN Tryz.func56 rfl (by kernel_rfl) rfl (own := [one b (cells (KM s a) 108), hP, hT, hM, hN, hU, hS, hK, hL, hA, hI, hD, hE, hR, hV, hC]) (by (exact tsA)) (fun G hG hh => one_any b s x c G _ ho2 h hc (hx.up hG)) ?_); rintro v own' ⟨rfl, hk2⟩)) | ((apply WL.rd; (exact rfl); (exact ckA))) | ((refine WL.ex0 (WO.call (own := own') Tryz.func57 rfl (by kernel_rfl) rfl List.perm_append_comm (fun G hG hh => boundary_any b (oneK s x).1 (2 * ((c + 1 : Nat) : Int)) G _ hk2 hi.ok hi.mom hi.e (by omega)) ?_); rintro v own2 ⟨rfl, hk3⟩)) | ((refine WL.ex rfl (WO.call (own := own') Tryz.func57 rfl (by kernel_rfl) rfl List.perm_append_comm (fun G hG hh => boundary_any b (oneK s x).1 (2 * ((c + 1 : Nat) : Int)) G _ hk2 hi.ok hi.mom hi.e (by omega)) ?_); rintro v own2 ⟨rfl, hk3⟩)) | (first | refine soA ?_ | refine sgA ?_ | refine sxA ?_ | refine sbA ?_ | refine fun (Q : Post) hQ => ?_ | refine fun (nb : Nat) => (?_ : WL _ _ _ _ _ _ _ _ _) | (refine WL.guard rfl rfl rfl (fun h => ?_) (fun h => ?_) <;> (try dsimp only at h))))
      (refine seE ?_)
      exact ⟨own2, keep_tail _ own2, (by rw [e]; try rfl), by rw [e]; exact hk3⟩
    · have e : doK s x = oneK s x := by unfold doK; rw [if_neg e1, if_neg e2]
      repeat' (first | ((refine WL.ex rfl (WO.callN Tryz.func56 rfl (by kernel_rfl) rfl (own := [one b (cells (KM s a) 108), hP, hT, hM, hN, hU, hS, hK, hL, hA, hI, hD, hE, hR, hV, hC]) (by (exact tsA)) (fun G hG hh => one_any b s x c G _ ho2 h hc (hx.up hG)) ?_); rintro v own' ⟨rfl, hk2⟩)) | ((apply WL.rd; (exact rfl); (exact ckA))) | (first | refine soA ?_ | refine sgA ?_ | refine sxA ?_ | refine sbA ?_ | refine fun (Q : Post) hQ => ?_ | refine fun (nb : Nat) => (?_ : WL _ _ _ _ _ _ _ _ _) | (refine WL.guard rfl rfl rfl (fun h => ?_) (fun h => ?_) <;> (try dsimp only at h))))
      (refine seE ?_)
      exact ⟨own', keep_app own' _, (by rw [e]; try rfl), by rw [e]; exact hk2⟩
end Go.Proofs.YtflgnpidelkkpaaGreat
