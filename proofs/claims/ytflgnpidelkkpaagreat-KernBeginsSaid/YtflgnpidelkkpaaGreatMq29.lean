/- part 29 of the proof: contracts of the functions that the law reaches, and plain laws. -/
import Derived.Test.YtflgnpidelkkpaaGreatMq7
import Derived.Test.YtflgnpidelkkpaaGreatMq28
namespace Go.Proofs.YtflgnpidelkkpaaGreat
set_option maxRecDepth 8000
set_option maxHeartbeats 1000000
set_option linter.unusedVariables false
set_option linter.unusedSimpArgs false
def arriveK (s : Kn) (n after cy : Int) : Kn × Int :=
  if hasK s n = false then (s, 6)
  else if (withinB after 0 16384 && withinB cy 1 16384) = false then (s, 1)
  else if (s.latch.any fun x => x.id == n) = true then (s, 8)
  else if w64 (s.now + after) < s.next.getD n.toNat 0 then (s, 7)
  else ({ s with latch := s.latch ++ [⟨n, w64 (s.now + after), cy⟩], next := s.next.set n.toNat (w64 (s.now + after)) }, 0)
attribute [local irreducible] W X WL WA WB WG WO Rn Own one splice Arr Spec WQ WH Qn
set_option maxHeartbeats 8000000 in
theorem arrive_any (b : Nat) (s : Kn) (n after cy : Int) (F : Hp) (hs : List Hp) (ho : KerC b s hs) (w : KOk s) (hl : s.latch.length < 8796093022208) : Spec Tryz.prog 94 [ptrV b, .int .i64 n, .int .i64 after, .int .i64 cy] F hs fun v hs' => v = .int .i64 (arriveK s n after cy).2 ∧ KerC b (arriveK s n after cy).1 hs' := by
  have ho2 := ho
  obtain ⟨a, hP, hT, hM, hN, hU, hS, hK, hL, hA, hI, hD, hE, hR, hV, hC, rfl, k⟩ := ho
  refine Spec.enter Tryz.func94 rfl Tryz.ntmps94 rfl fun B => ?_
  repeat' (first | ((refine W.region (id := 1) (WL.ofQ ?_))) | ((apply WQ.rd; (exact rfl); (refine Qn.call Tryz.func80 rfl (by kernel_rfl) rfl (by (exact tsA)) (fun G hG hh => has_any b s a n G (k.kf w (hh (one b (cells (KM s a) 108)) (List.Mem.head _)) (hh hP (by simp)) (hh hT (by simp)) (hh hM (by simp)) (hh hN (by simp)) (hh hU (by simp))))))) | (first | refine sqA ?_ | refine soA ?_ | refine sgA ?_ | refine sxA ?_ | refine sbA ?_ | refine fun (Q : Post) hQ => ?_ | refine fun (nb : Nat) => (?_ : WL _ _ _ _ _ _ _ _ _) | (refine WL.guard rfl rfl rfl (fun h => ?_) (fun h => ?_) <;> (try dsimp only at h)) | (refine WQ.guard rfl rfl rfl (fun h => ?_) (fun h => ?_) <;> (try dsimp only at h))))
  refine W.cond rfl (fun h => ?_) (fun h => ?_)
  · have h1 : hasK s n = false := by simpa using h
    have e : arriveK s n after cy = (s, 6) := by unfold arriveK; rw [if_pos h1]
    repeat' (first | refine soA ?_ | refine sgA ?_ | refine sxA ?_ | refine sbA ?_ | refine fun (Q : Post) hQ => ?_ | refine fun (nb : Nat) => (?_ : WL _ _ _ _ _ _ _ _ _) | (refine WL.guard rfl rfl rfl (fun h => ?_) (fun h => ?_) <;> (try dsimp only at h)))
    (refine seE ?_)
    exact ⟨[one b (cells (KM s a) 108), hP, hT, hM, hN, hU, hS, hK, hL, hA, hI, hD, hE, hR, hV, hC], (by (exact keA)), by rw [e], by rw [e]; exact ho2⟩
  · have h1 : ¬ hasK s n = false := by simpa using h
    repeat' (first | ((refine W.region (id := 3) (WL.ofQ ?_))) | ((apply WQ.rd; (exact rfl); (refine Qn.call Tryz.func152 rfl (by kernel_rfl) rfl (by (exact tsA)) (fun G hG hh => within_any after 0 16384 G)))) | ((apply WH.ex; (exact rfl); (exact rfl); (exact rfl); intro hb; (refine Qn.call Tryz.func152 rfl (by kernel_rfl) rfl (by (exact tsA)) (fun G hG hh => within_any cy 1 16384 G)))) | (first | refine sqA ?_ | refine soA ?_ | refine sgA ?_ | refine sxA ?_ | refine sbA ?_ | refine fun (Q : Post) hQ => ?_ | refine fun (nb : Nat) => (?_ : WL _ _ _ _ _ _ _ _ _) | (refine WL.guard rfl rfl rfl (fun h => ?_) (fun h => ?_) <;> (try dsimp only at h)) | (refine WQ.guard rfl rfl rfl (fun h => ?_) (fun h => ?_) <;> (try dsimp only at h))))
    refine W.cond rfl (fun h => ?_) (fun h => ?_)
    · have h2 : (withinB after 0 16384 && withinB cy 1 16384) = false := by
        cases hp : withinB after 0 16384 <;> cases hq : withinB cy 1 16384 <;> rw [hp, hq] at h <;> first | rfl | cases h
      have e : arriveK s n after cy = (s, 1) := by unfold arriveK; rw [if_neg h1, if_pos h2]
      repeat' (first | refine soA ?_ | refine sgA ?_ | refine sxA ?_ | refine sbA ?_ | refine fun (Q : Post) hQ => ?_ | refine fun (nb : Nat) => (?_ : WL _ _ _ _ _ _ _ _ _) | (refine WL.guard rfl rfl rfl (fun h => ?_) (fun h => ?_) <;> (try dsimp only at h)))
      (refine seE ?_)
      exact ⟨[one b (cells (KM s a) 108), hP, hT, hM, hN, hU, hS, hK, hL, hA, hI, hD, hE, hR, hV, hC], (by (exact keA)), by rw [e], by rw [e]; exact ho2⟩
    · have h2 : ¬ (withinB after 0 16384 && withinB cy 1 16384) = false := by
        cases hp : withinB after 0 16384 <;> cases hq : withinB cy 1 16384 <;> rw [hp, hq] at h <;> first | (cases h; done) | decide
      repeat' (first | ((refine WL.ex rfl (WO.callN Tryz.func151 rfl (by kernel_rfl) rfl (own := [hA]) (by (exact tsA)) (fun G hG hh => Spec.objR k.hA fun hs hr => lwaits_any a.la s.latch n G hs hr) ?_); rintro v own' ⟨rfl, rfl⟩)) | (first | refine soA ?_ | refine sgA ?_ | refine sxA ?_ | refine sbA ?_ | refine fun (Q : Post) hQ => ?_ | refine fun (nb : Nat) => (?_ : WL _ _ _ _ _ _ _ _ _) | (refine WL.guard rfl rfl rfl (fun h => ?_) (fun h => ?_) <;> (try dsimp only at h))))
      refine W.cond rfl (fun h => ?_) (fun h => ?_)
      · have h3 : (s.latch.any fun x => x.id == n) = true := h
        have e : arriveK s n after cy = (s, 8) := by unfold arriveK; rw [if_neg h1, if_neg h2, if_pos h3]
        repeat' (first | refine soA ?_ | refine sgA ?_ | refine sxA ?_ | refine sbA ?_ | refine fun (Q : Post) hQ => ?_ | refine fun (nb : Nat) => (?_ : WL _ _ _ _ _ _ _ _ _) | (refine WL.guard rfl rfl rfl (fun h => ?_) (fun h => ?_) <;> (try dsimp only at h)))
        (refine seE ?_)
        exact ⟨[one b (cells (KM s a) 108), hP, hT, hM, hN, hU, hS, hK, hL, hA, hI, hD, hE, hR, hV, hC], (by (exact keA)), by rw [e], by rw [e]; exact ho2⟩
      · have h3 : (s.latch.any fun x => x.id == n) = false := h
        have h3' : ¬ (s.latch.any fun x => x.id == n) = true := by rw [h3]; decide
        have hb : 0 ≤ n ∧ n < (s.tasks.length : Nat) := by
          have hh1 : hasK s n = true := by simpa using h1
          unfold hasK at hh1
          simp only [Bool.and_eq_true, decide_eq_true_eq] at hh1
          exact ⟨hh1.1, hh1.2.1⟩
        obtain ⟨m, hm⟩ : ∃ m : Nat, n = m := ⟨n.toNat, by omega⟩
        have hmn : m < s.next.length := by have := w.nt; have := w.nn; omega
        obtain ⟨u, hu⟩ : ∃ u, s.next[m]? = some u := ⟨_, List.getElem?_eq_getElem hmn⟩
        have hgd : s.next.getD n.toNat 0 = u := by rw [hm, Int.toNat_natCast, List.getD_eq_getElem?_getD, hu]; rfl
        obtain ⟨gU, LU, eU, rfl, hUa, hUi, hUg⟩ := arr_at (f := encI) (sz := 1) (fun _ => rfl) k.hN hmn
        have hlu : (s.next.set m (w64 (s.now + after))).length = s.next.length := List.length_set
        by_cases e3 : w64 (s.now + after) < u
        · have e : arriveK s n after cy = (s, 7) := by unfold arriveK; rw [if_neg h1, if_neg h2, if_neg h3', if_pos (hgd ▸ e3)]
          repeat' (first | refine soA ?_ | refine sgA ?_ | refine sxA ?_ | refine sbA ?_ | refine fun (Q : Post) hQ => ?_ | refine fun (nb : Nat) => (?_ : WL _ _ _ _ _ _ _ _ _) | (refine WL.guard rfl rfl rfl (fun h => ?_) (fun h => ?_) <;> (try dsimp only at h)))
          refine dra [(0, [])] [((one gU (cells LU 3)), [])] ?_
          refine drp 15 0 1 ?_
          refine drp 15 1 3 ?_
          refine drp 15 2 7 ?_
          refine drl 15 3 0 15 ?_
          refine drp 15 4 31 ?_
          refine drp 15 5 63 (hy := by (exact Rn.addW rfl rfl)) ?_
          refine drp 15 6 127 ?_
          refine drp 15 7 255 ?_
          refine drp 15 8 511 ?_
          refine drl 15 9 0 1023 ?_
          refine drp 15 10 2047 ?_
          refine drp 15 11 4095 (hy := by (exact Rn.indexAddrE m eU rfl rfl hm hmn)) ?_
          refine drl 15 12 1 8191 (hy := by (apply Rn.load; (exact rfl); (exact .mk At.one (hUg u hu 0 _ rfl)))) ?_
          refine drp 15 13 16383 (hy := by (exact Rn.cmp (b := true) rfl rfl (congrArg some (decide_eq_true e3)))) ?_
          refine drp 15 14 32767 ?_
          refine drz ?_
          repeat' (first | refine soA ?_ | refine sgA ?_ | refine sxA ?_ | refine sbA ?_ | refine fun (Q : Post) hQ => ?_ | refine fun (nb : Nat) => (?_ : WL _ _ _ _ _ _ _ _ _) | (refine WL.guard rfl rfl rfl (fun h => ?_) (fun h => ?_) <;> (try dsimp only at h)))
          (refine seE ?_)
          exact ⟨[one b (cells (KM s a) 108), hP, hT, hM, one gU (cells LU 3), hU, hS, hK, hL, hA, hI, hD, hE, hR, hV, hC], (by (exact keA)), by rw [e], by rw [e]; exact ho2⟩
        · have e : arriveK s n after cy = ({ s with latch := s.latch ++ [⟨n, w64 (s.now + after), cy⟩], next := s.next.set m (w64 (s.now + after)) }, 0) := by
            unfold arriveK; rw [if_neg h1, if_neg h2, if_neg h3', if_neg (hgd ▸ e3)]; rw [hm, Int.toNat_natCast]
          repeat' (first | refine soA ?_ | refine sgA ?_ | refine sxA ?_ | refine sbA ?_ | refine fun (Q : Post) hQ => ?_ | refine fun (nb : Nat) => (?_ : WL _ _ _ _ _ _ _ _ _) | (refine WL.guard rfl rfl rfl (fun h => ?_) (fun h => ?_) <;> (try dsimp only at h)))
          refine dra [(0, [])] [((one gU (cells LU 3)), [])] ?_
          refine drp 15 0 1 ?_
          refine drp 15 1 3 ?_
          refine drp 15 2 7 ?_
          refine drl 15 3 0 15 ?_
          refine drp 15 4 31 ?_
          refine drp 15 5 63 (hy := by (exact Rn.addW rfl rfl)) ?_
          refine drp 15 6 127 ?_
          refine drp 15 7 255 ?_
          refine drp 15 8 511 ?_
          refine drl 15 9 0 1023 ?_
          refine drp 15 10 2047 ?_
          refine drp 15 11 4095 (hy := by (exact Rn.indexAddrE m eU rfl rfl hm hmn)) ?_
          refine drl 15 12 1 8191 (hy := by (apply Rn.load; (exact rfl); (exact .mk At.one (hUg u hu 0 _ rfl)))) ?_
          refine drp 15 13 16383 (hy := by (exact Rn.cmp (b := false) rfl rfl (congrArg some (decide_eq_false e3)))) ?_
          refine drp 15 14 32767 ?_
          refine drz ?_
          repeat' (first | refine soA ?_ | refine sgA ?_ | refine sxA ?_ | refine sbA ?_ | refine fun (Q : Post) hQ => ?_ | refine fun (nb : Nat) => (?_ : WL _ _ _ _ _ _ _ _ _) | (refine WL.guard rfl rfl rfl (fun h => ?_) (fun h => ?_) <;> (try dsimp only at h)))
          refine dra [(0, [])] [] ?_
          refine drp 13 0 1 ?_
          refine drp 13 1 3 ?_
          refine drp 13 2 7 ?_
          refine drl 13 3 0 15 ?_
          refine drp 13 4 31 ?_
          refine drp 13 5 63 ?_
          refine drp 13 6 127 ?_
          refine drp 13 7 255 ?_
          refine drl 13 8 0 511 ?_
          refine drp 13 9 1023 ?_
          refine drp 13 10 2047 (hy := by (exact Rn.addW rfl rfl)) ?_
          refine drp 13 11 4095 ?_
          refine dr1 12 ?_
          refine dre 13 12 8191 ?_
          (refine WO.callN Tryz.func153 rfl (by kernel_rfl) rfl (own := [hA]) (by (exact tsA)) (fun G hG hh => Spec.objW k.hA (fun hs hr => lput_new a.la s.latch n (w64 (s.now + after)) cy h3 hl G hs hr)) ?_; rintro v own' ⟨hA1, rfl, tA⟩)
          refine ⟨piA, ?_⟩
          refine drz ?_
          have tA1 : Thing (LatC a.la (s.latch ++ [⟨n, w64 (s.now + after), cy⟩])) hA1 := tA.mono fun hs h => h.2
          repeat' (first | refine soA ?_ | refine sgA ?_ | refine sxA ?_ | refine sbA ?_ | refine fun (Q : Post) hQ => ?_ | refine fun (nb : Nat) => (?_ : WL _ _ _ _ _ _ _ _ _) | (refine WL.guard rfl rfl rfl (fun h => ?_) (fun h => ?_) <;> (try dsimp only at h)))
          refine dra [(0, [])] [] ?_
          refine drp 13 0 1 ?_
          refine drp 13 1 3 ?_
          refine drp 13 2 7 ?_
          refine drl 13 3 0 15 ?_
          refine drp 13 4 31 ?_
          refine drp 13 5 63 ?_
          refine drp 13 6 127 ?_
          refine drp 13 7 255 ?_
          refine drl 13 8 0 511 ?_
          refine drp 13 9 1023 ?_
          refine drp 13 10 2047 (hy := by (exact Rn.addW rfl rfl)) ?_
          refine drp 13 11 4095 (hy := by (exact Rn.indexAddrE m eU rfl rfl hm hmn)) ?_
          refine dr1 12 ?_
          refine drf 13 12 8191 ?_
          (apply WO.storeC (l := LU) (vs := [.int .i64 (w64 (s.now + after))]) (b := gU) (o := 0 + m * 1); (exact rfl); (exact rfl); (exact rfl); (exact rfl); (exact rfl); (exact rpA); (exact hUi))
          refine ⟨piA, ?_⟩
          refine drz ?_
          repeat' (first | refine soA ?_ | refine sgA ?_ | refine sxA ?_ | refine sbA ?_ | refine fun (Q : Post) hQ => ?_ | refine fun (nb : Nat) => (?_ : WL _ _ _ _ _ _ _ _ _) | (refine WL.guard rfl rfl rfl (fun h => ?_) (fun h => ?_) <;> (try dsimp only at h)))
          (refine seE ?_)
          rw [e]
          refine ⟨[one b (cells (KM s a) 108), hP, hT, hM, one gU (cells (splice LU (0 + m * 1) [.int .i64 (w64 (s.now + after))]) 3), hU, hS, hK, hL, hA1, hI, hD, hE, hR, hV, hC], (by (exact keA)), rfl, ?_⟩
          have hc : cells (KM { s with latch := s.latch ++ [⟨n, w64 (s.now + after), cy⟩], next := s.next.set m (w64 (s.now + after)) } a) 108 = cells (KM s a) 108 := by
            unfold KM; dsimp only; rw [hlu]
          exact ⟨a, hP, hT, hM, one gU (cells (splice LU (0 + m * 1) [.int .i64 (w64 (s.now + after))]) 3), hU, hS, hK, hL, hA1, hI, hD, hE, hR, hV, hC, by rw [hc], { k with hA := tA1, hN := hUa (w64 (s.now + after)) }⟩
end Go.Proofs.YtflgnpidelkkpaaGreat
namespace Go.Proofs.YtflgnpidelkkpaaGreat
set_option maxRecDepth 8000
set_option maxHeartbeats 1000000
set_option linter.unusedVariables false
set_option linter.unusedSimpArgs false
def timerK (s : Kn) (x : StepV) : Kn × Int :=
  if x.kind = 9 then ({ s with timers := offT x.A s.timers }, if (s.timers.any fun y => y.id == x.A) = true then 0 else 6)
  else if (withinB x.A 0 3 && withinB x.B 0 16384 && withinB x.C 0 16384) = false then (s, 1)
  else ({ s with timers := offT x.A s.timers ++ [⟨x.A, capV (w64 (s.now + x.B)), x.C⟩] }, 0)
attribute [local irreducible] W X WL WA WB WG WO Rn Own one splice Arr Spec WQ WH Qn
set_option maxHeartbeats 8000000 in
theorem timer_any (b : Nat) (s : Kn) (x : StepV) (F : Hp) (hs : List Hp) (ho : KerC b s hs) (hn : 0 ≤ s.now ∧ s.now ≤ 1099511627776) (hl : s.timers.length < 8796093022208) : Spec Tryz.prog 98 [ptrV b, .agg x.enc.toArray] F hs fun v hs' => v = .int .i64 (timerK s x).2 ∧ KerC b (timerK s x).1 hs' := by
  have ho2 := ho
  obtain ⟨a, hP, hT, hM, hN, hU, hS, hK, hL, hA, hI, hD, hE, hR, hV, hC, rfl, k⟩ := ho
  refine Spec.enter Tryz.func98 rfl Tryz.ntmps98 rfl fun B => ?_
  by_cases e1 : x.kind = 9
  · have e : timerK s x = ({ s with timers := offT x.A s.timers }, if (s.timers.any fun y => y.id == x.A) = true then 0 else 6) := by unfold timerK; rw [if_pos e1]
    repeat' (first | refine soA ?_ | refine sgA ?_ | refine sxA ?_ | refine sbA ?_ | refine fun (Q : Post) hQ => ?_ | refine fun (nb : Nat) => (?_ : WL _ _ _ _ _ _ _ _ _) | (refine WL.guard rfl rfl rfl (fun h => ?_) (fun h => ?_) <;> (try dsimp only at h)))
    refine dra [(3, []), (0, [])] [] ?_
    refine drp 13 0 1 ?_
    refine drl 13 1 0 3 ?_
    refine drp 13 2 7 (hy := by (exact Rn.cmp (b := true) rfl rfl (congrArg some (beq_iff_eq.2 e1)))) ?_
    refine drp 13 3 15 ?_
    refine WA.tpY (i := 4) (ls := bts 13 31) rfl rfl rfl rfl (by kernel_rfl) (Rn.move rfl) ?_
    refine WA.tpY (i := 5) (ls := bts 13 63) rfl rfl rfl rfl (by kernel_rfl) (Rn.nilCheck rfl) ?_
    refine WA.tpY (i := 6) (ls := bts 13 127) rfl rfl rfl rfl (by kernel_rfl) (by first | exact Rn.fieldAddr0 rfl | exact Rn.fieldAddr rfl) ?_
    refine WA.ldY (i := 7) (k := 1) (ls := bts 13 255) rfl rfl rfl rfl (by kernel_rfl) rfl (by kernel_rfl) (.cons (by (exact tkA)) .nil) (by first | exact Rn.load rfl (.mk At.one rfl) | exact Rn.loadS rfl (.all At.one) rfl) ?_
    refine WA.tpY (i := 8) (ls := bts 13 511) rfl rfl rfl rfl (by kernel_rfl) (by first | exact Rn.fieldAddr0 rfl | exact Rn.fieldAddr rfl) ?_
    refine WA.ldY (i := 9) (k := 0) (ls := bts 13 1023) rfl rfl rfl rfl (by kernel_rfl) rfl (by kernel_rfl) (.cons (by (exact tkA)) .nil) (by first | exact Rn.load rfl (.mk At.one rfl) | exact Rn.loadS rfl (.all At.one) rfl) ?_
    refine dr1 10 ?_
    refine WB.exY (i := 10) (ls := bts 13 2047) rfl rfl rfl rfl (by kernel_rfl) ?_
    (refine WO.callN Tryz.func159 rfl (by kernel_rfl) rfl (own := [hI]) (by (exact tsA)) (fun G hG hh => Spec.objW k.hI (fun hs hr => tcancel_any a.ti s.timers x.A G hs hr)) ?_; rintro v own' ⟨hI1, rfl, tI⟩)
    refine ⟨piA, ?_⟩
    refine drp 13 11 4095 ?_
    refine drp 13 12 8191 ?_
    refine drz ?_
    obtain ⟨hv, tI1⟩ : v = .bool (s.timers.any fun y => y.id == x.A) ∧ Thing (TimC a.ti (offT x.A s.timers)) hI1 := ⟨by obtain ⟨_, _, _, h⟩ := tI; exact h.1, tI.mono fun hs h => h.2⟩
    subst hv
    have ker : KerC b { s with timers := offT x.A s.timers } [one b (cells (KM s a) 108), hP, hT, hM, hN, hU, hS, hK, hL, hA, hI1, hD, hE, hR, hV, hC] := ⟨a, hP, hT, hM, hN, hU, hS, hK, hL, hA, hI1, hD, hE, hR, hV, hC, rfl, { k with hI := tI1 }⟩
    repeat' (first | refine soA ?_ | refine sgA ?_ | refine sxA ?_ | refine sbA ?_ | refine fun (Q : Post) hQ => ?_ | refine fun (nb : Nat) => (?_ : WL _ _ _ _ _ _ _ _ _) | (refine WL.guard rfl rfl rfl (fun h => ?_) (fun h => ?_) <;> (try dsimp only at h)))
    refine W.cond rfl (fun h => ?_) (fun h => ?_)
    · have h2 : (s.timers.any fun y => y.id == x.A) = true := h
      rw [if_pos h2] at e
      repeat' (first | refine soA ?_ | refine sgA ?_ | refine sxA ?_ | refine sbA ?_ | refine fun (Q : Post) hQ => ?_ | refine fun (nb : Nat) => (?_ : WL _ _ _ _ _ _ _ _ _) | (refine WL.guard rfl rfl rfl (fun h => ?_) (fun h => ?_) <;> (try dsimp only at h)))
      (refine seE ?_)
      exact ⟨[one b (cells (KM s a) 108), hP, hT, hM, hN, hU, hS, hK, hL, hA, hI1, hD, hE, hR, hV, hC], (by (exact keA)), by rw [e], by rw [e]; exact ker⟩
    · have h2 : (s.timers.any fun y => y.id == x.A) = false := h
      rw [if_neg (by rw [h2]; decide)] at e
      repeat' (first | ((apply WL.rd; (exact rfl); (exact Rn.cmp (b := true) rfl rfl (congrArg some (beq_iff_eq.2 e1))))) | (first | refine soA ?_ | refine sgA ?_ | refine sxA ?_ | refine sbA ?_ | refine fun (Q : Post) hQ => ?_ | refine fun (nb : Nat) => (?_ : WL _ _ _ _ _ _ _ _ _) | (refine WL.guard rfl rfl rfl (fun h => ?_) (fun h => ?_) <;> (try dsimp only at h))))
      (refine seE ?_)
      exact ⟨[one b (cells (KM s a) 108), hP, hT, hM, hN, hU, hS, hK, hL, hA, hI1, hD, hE, hR, hV, hC], (by (exact keA)), by rw [e], by rw [e]; exact ker⟩
  · skip
    repeat' (first | refine soA ?_ | refine sgA ?_ | refine sxA ?_ | refine sbA ?_ | refine fun (Q : Post) hQ => ?_ | refine fun (nb : Nat) => (?_ : WL _ _ _ _ _ _ _ _ _) | (refine WL.guard rfl rfl rfl (fun h => ?_) (fun h => ?_) <;> (try dsimp only at h)))
    refine dra [(3, []), (0, [])] [] ?_
    refine drp 13 0 1 ?_
    refine drl 13 1 0 3 ?_
    refine drp 13 2 7 (hy := by (exact Rn.cmp (b := false) rfl rfl (congrArg some (beq_eq_false_iff_ne.2 e1)))) ?_
    refine drp 13 3 15 ?_
    first | refine WA.tn (i := 4) (ls := bts 13 31) rfl rfl rfl rfl rfl (by kernel_rfl) ?_ | refine WA.tnU (i := 4) (ls := bts 13 31) rfl rfl rfl rfl (by kernel_rfl) ?_
    first | refine WA.tn (i := 5) (ls := bts 13 63) rfl rfl rfl rfl rfl (by kernel_rfl) ?_ | refine WA.tnU (i := 5) (ls := bts 13 63) rfl rfl rfl rfl (by kernel_rfl) ?_
    first | refine WA.tn (i := 6) (ls := bts 13 127) rfl rfl rfl rfl rfl (by kernel_rfl) ?_ | refine WA.tnU (i := 6) (ls := bts 13 127) rfl rfl rfl rfl (by kernel_rfl) ?_
    first | refine WA.tn (i := 7) (ls := bts 13 255) rfl rfl rfl rfl rfl (by kernel_rfl) ?_ | refine WA.tnU (i := 7) (ls := bts 13 255) rfl rfl rfl rfl (by kernel_rfl) ?_
    first | refine WA.tn (i := 8) (ls := bts 13 511) rfl rfl rfl rfl rfl (by kernel_rfl) ?_ | refine WA.tnU (i := 8) (ls := bts 13 511) rfl rfl rfl rfl (by kernel_rfl) ?_
    first | refine WA.tn (i := 9) (ls := bts 13 1023) rfl rfl rfl rfl rfl (by kernel_rfl) ?_ | refine WA.tnU (i := 9) (ls := bts 13 1023) rfl rfl rfl rfl (by kernel_rfl) ?_
    first | refine WA.tn (i := 10) (ls := bts 13 2047) rfl rfl rfl rfl rfl (by kernel_rfl) ?_ | refine WA.tnU (i := 10) (ls := bts 13 2047) rfl rfl rfl rfl (by kernel_rfl) ?_
    refine drp 13 11 4095 ?_
    refine drp 13 12 8191 ?_
    refine drz ?_
    repeat' (first | ((apply WL.rd; (exact rfl); (exact Rn.cmp (b := false) rfl rfl (congrArg some (beq_eq_false_iff_ne.2 e1))))) | ((refine W.region (id := 5) (WL.ofQ ?_))) | ((apply WQ.rd; (exact rfl); (refine Qn.call Tryz.func152 rfl (by kernel_rfl) rfl (by (exact tsA)) (fun G hG hh => within_any x.A 0 3 G)))) | ((apply WH.ex; (exact rfl); (exact rfl); (exact rfl); intro hb; (refine Qn.call Tryz.func152 rfl (by kernel_rfl) rfl (by (exact tsA)) (fun G hG hh => within_any x.B 0 16384 G)))) | ((apply WH.ex; (exact rfl); (exact rfl); (exact rfl); intro hb; (refine Qn.call Tryz.func152 rfl (by kernel_rfl) rfl (by (exact tsA)) (fun G hG hh => within_any x.C 0 16384 G)))) | (first | refine sqA ?_ | refine soA ?_ | refine sgA ?_ | refine sxA ?_ | refine sbA ?_ | refine fun (Q : Post) hQ => ?_ | refine fun (nb : Nat) => (?_ : WL _ _ _ _ _ _ _ _ _) | (refine WL.guard rfl rfl rfl (fun h => ?_) (fun h => ?_) <;> (try dsimp only at h)) | (refine WQ.guard rfl rfl rfl (fun h => ?_) (fun h => ?_) <;> (try dsimp only at h))))
    refine W.cond rfl (fun h => ?_) (fun h => ?_)
    · have h2 : (withinB x.A 0 3 && withinB x.B 0 16384 && withinB x.C 0 16384) = false := by
        cases hp : withinB x.A 0 3 <;> cases hq : withinB x.B 0 16384 <;> cases hr : withinB x.C 0 16384 <;> rw [hp, hq, hr] at h <;> first | rfl | cases h
      have e : timerK s x = (s, 1) := by unfold timerK; rw [if_neg e1, if_pos h2]
      repeat' (first | refine soA ?_ | refine sgA ?_ | refine sxA ?_ | refine sbA ?_ | refine fun (Q : Post) hQ => ?_ | refine fun (nb : Nat) => (?_ : WL _ _ _ _ _ _ _ _ _) | (refine WL.guard rfl rfl rfl (fun h => ?_) (fun h => ?_) <;> (try dsimp only at h)))
      (refine seE ?_)
      exact ⟨[one b (cells (KM s a) 108), hP, hT, hM, hN, hU, hS, hK, hL, hA, hI, hD, hE, hR, hV, hC], (by (exact keA)), by rw [e], by rw [e]; exact ho2⟩
    · have h2 : (withinB x.A 0 3 && withinB x.B 0 16384 && withinB x.C 0 16384) = true := by
        cases hp : withinB x.A 0 3 <;> cases hq : withinB x.B 0 16384 <;> cases hr : withinB x.C 0 16384 <;> rw [hp, hq, hr] at h <;> first | rfl | cases h
      have e : timerK s x = ({ s with timers := offT x.A s.timers ++ [⟨x.A, capV (w64 (s.now + x.B)), x.C⟩] }, 0) := by unfold timerK; rw [if_neg e1, if_neg (by rw [h2]; decide)]
      have hB : 0 ≤ x.B ∧ x.B ≤ 16384 := by
        rw [Bool.and_eq_true, Bool.and_eq_true] at h2
        have := h2.1.2
        unfold withinB at this
        simpa using this
      have hw : w64 (s.now + x.B) = s.now + x.B := w64_in (by omega)
      repeat' (first | refine soA ?_ | refine sgA ?_ | refine sxA ?_ | refine sbA ?_ | refine fun (Q : Post) hQ => ?_ | refine fun (nb : Nat) => (?_ : WL _ _ _ _ _ _ _ _ _) | (refine WL.guard rfl rfl rfl (fun h => ?_) (fun h => ?_) <;> (try dsimp only at h)))
      refine dra [(0, []), (3, [])] [] ?_
      refine drp 16 0 1 ?_
      refine drp 16 1 3 ?_
      refine drp 16 2 7 ?_
      refine drl 16 3 0 15 ?_
      refine drp 16 4 31 ?_
      refine drl 16 5 1 63 ?_
      refine drp 16 6 127 ?_
      refine drp 16 7 255 ?_
      refine drp 16 8 511 ?_
      refine drl 16 9 0 1023 ?_
      refine drp 16 10 2047 ?_
      refine drl 16 11 1 4095 ?_
      refine drp 16 12 8191 (hy := by (exact Rn.addW rfl rfl)) ?_
      refine drp 16 13 16383 ?_
      refine drl 16 14 1 32767 ?_
      refine dr1 15 ?_
      refine dre 16 15 65535 ?_
      (refine WO.callN Tryz.func160 rfl (by kernel_rfl) rfl (own := [hI]) (by (exact tsA)) (fun G hG hh => Spec.objW k.hI (fun hs hr => tset_any a.ti s.timers x.A (w64 (s.now + x.B)) x.C (by omega) hl G hs hr)) ?_; rintro v own' ⟨hI1, rfl, tI⟩)
      refine ⟨piA, ?_⟩
      refine drz ?_
      have tI1 : Thing (TimC a.ti (offT x.A s.timers ++ [⟨x.A, capV (w64 (s.now + x.B)), x.C⟩])) hI1 := tI.mono fun hs h => h.2
      repeat' (first | refine soA ?_ | refine sgA ?_ | refine sxA ?_ | refine sbA ?_ | refine fun (Q : Post) hQ => ?_ | refine fun (nb : Nat) => (?_ : WL _ _ _ _ _ _ _ _ _) | (refine WL.guard rfl rfl rfl (fun h => ?_) (fun h => ?_) <;> (try dsimp only at h)))
      (refine seE ?_)
      rw [e]
      exact ⟨[one b (cells (KM s a) 108), hP, hT, hM, hN, hU, hS, hK, hL, hA, hI1, hD, hE, hR, hV, hC], (by (exact keA)), rfl, ⟨a, hP, hT, hM, hN, hU, hS, hK, hL, hA, hI1, hD, hE, hR, hV, hC, rfl, { k with hI := tI1 }⟩⟩
end Go.Proofs.YtflgnpidelkkpaaGreat
namespace Go.Proofs.YtflgnpidelkkpaaGreat
set_option maxRecDepth 8000
set_option maxHeartbeats 1000000
set_option linter.unusedVariables false
set_option linter.unusedSimpArgs false
def nextK (s : Kn) (n : Int) : Int := if hasK s n = true then s.next.getD n.toNat 0 else 0
def usedK (s : Kn) (n : Int) : Int := if hasK s n = true then s.used.getD n.toNat 0 else 0
theorem hasK_in {s : Kn} {n : Int} (h : hasK s n = true) : 0 ≤ n ∧ n < (s.tasks.length : Nat) := by
  unfold hasK at h
  simp only [Bool.and_eq_true, decide_eq_true_eq] at h
  exact ⟨h.1, h.2.1⟩
attribute [local irreducible] W X WL WA WB WG WO Rn Own one splice Arr Spec WQ WH Qn
theorem kNext_any (b : Nat) (s : Kn) (n : Int) (F : Hp) (hs : List Hp) (ho : KerC b s hs) (w : KOk s) : Spec Tryz.prog 37 [ptrV b, .int .i64 n] F hs fun v hs' => v = .int .i64 (nextK s n) ∧ hs' = hs := by
  obtain ⟨a, hP, hT, hM, hN, hU, hS, hK, hL, hA, hI, hD, hE, hR, hV, hC, rfl, k⟩ := ho
  refine Spec.enter Tryz.func37 rfl Tryz.ntmps37 rfl fun B => ?_
  repeat' (first | ((refine W.region (id := 1) (WL.ofQ ?_))) | ((apply WQ.rd; (exact rfl); (refine Qn.call Tryz.func80 rfl (by kernel_rfl) rfl (by (exact tsA)) (fun G hG hh => has_any b s a n G (k.kf w (hh (one b (cells (KM s a) 108)) (List.Mem.head _)) (hh hP (by simp)) (hh hT (by simp)) (hh hM (by simp)) (hh hN (by simp)) (hh hU (by simp))))))) | (first | refine sqA ?_ | refine soA ?_ | refine sgA ?_ | refine sxA ?_ | refine sbA ?_ | refine fun (Q : Post) hQ => ?_ | refine fun (nb : Nat) => (?_ : WL _ _ _ _ _ _ _ _ _) | (refine WL.guard rfl rfl rfl (fun h => ?_) (fun h => ?_) <;> (try dsimp only at h)) | (refine WQ.guard rfl rfl rfl (fun h => ?_) (fun h => ?_) <;> (try dsimp only at h))))
  refine W.cond rfl (fun h => ?_) (fun h => ?_)
  · have h1 : ¬ hasK s n = true := by simpa using h
    repeat' (first | refine soA ?_ | refine sgA ?_ | refine sxA ?_ | refine sbA ?_ | refine fun (Q : Post) hQ => ?_ | refine fun (nb : Nat) => (?_ : WL _ _ _ _ _ _ _ _ _) | (refine WL.guard rfl rfl rfl (fun h => ?_) (fun h => ?_) <;> (try dsimp only at h)))
    (refine seE ?_)
    exact ⟨_, (by (exact keA)), by unfold nextK; rw [if_neg h1], rfl⟩
  · have h1 : hasK s n = true := by simpa using h
    have hb := hasK_in h1
    obtain ⟨m, hm⟩ : ∃ m : Nat, n = m := ⟨n.toNat, by omega⟩
    have hmn : m < s.next.length := by have := w.nt; have := w.nn; have := w.nu; omega
    obtain ⟨u, hu⟩ : ∃ u, s.next[m]? = some u := ⟨_, List.getElem?_eq_getElem hmn⟩
    have hgd : nextK s n = u := by unfold nextK; rw [if_pos h1, hm, Int.toNat_natCast, List.getD_eq_getElem?_getD, hu]; rfl
    obtain ⟨gU, LU, eU, rfl, hUa, hUi, hUg⟩ := arr_at (f := encI) (sz := 1) (fun _ => rfl) k.hN hmn
    have g1 := hUg u hu 0 _ rfl
    repeat' (first | ((apply WL.rd; (exact rfl); (exact Rn.indexAddrE m eU rfl rfl hm hmn))) | ((apply WL.rd; (exact rfl); (apply Rn.load; (exact rfl); (apply CellAt.mk; (exact atA); (exact g1))))) | (first | refine soA ?_ | refine sgA ?_ | refine sxA ?_ | refine sbA ?_ | refine fun (Q : Post) hQ => ?_ | refine fun (nb : Nat) => (?_ : WL _ _ _ _ _ _ _ _ _) | (refine WL.guard rfl rfl rfl (fun h => ?_) (fun h => ?_) <;> (try dsimp only at h))))
    (refine seE ?_)
    exact ⟨_, (by (exact keA)), by rw [hgd], rfl⟩
theorem kUsed_any (b : Nat) (s : Kn) (n : Int) (F : Hp) (hs : List Hp) (ho : KerC b s hs) (w : KOk s) : Spec Tryz.prog 39 [ptrV b, .int .i64 n] F hs fun v hs' => v = .int .i64 (usedK s n) ∧ hs' = hs := by
  obtain ⟨a, hP, hT, hM, hN, hU, hS, hK, hL, hA, hI, hD, hE, hR, hV, hC, rfl, k⟩ := ho
  refine Spec.enter Tryz.func39 rfl Tryz.ntmps39 rfl fun B => ?_
  repeat' (first | ((refine W.region (id := 1) (WL.ofQ ?_))) | ((apply WQ.rd; (exact rfl); (refine Qn.call Tryz.func80 rfl (by kernel_rfl) rfl (by (exact tsA)) (fun G hG hh => has_any b s a n G (k.kf w (hh (one b (cells (KM s a) 108)) (List.Mem.head _)) (hh hP (by simp)) (hh hT (by simp)) (hh hM (by simp)) (hh hN (by simp)) (hh hU (by simp))))))) | (first | refine sqA ?_ | refine soA ?_ | refine sgA ?_ | refine sxA ?_ | refine sbA ?_ | refine fun (Q : Post) hQ => ?_ | refine fun (nb : Nat) => (?_ : WL _ _ _ _ _ _ _ _ _) | (refine WL.guard rfl rfl rfl (fun h => ?_) (fun h => ?_) <;> (try dsimp only at h)) | (refine WQ.guard rfl rfl rfl (fun h => ?_) (fun h => ?_) <;> (try dsimp only at h))))
  refine W.cond rfl (fun h => ?_) (fun h => ?_)
  · have h1 : ¬ hasK s n = true := by simpa using h
    repeat' (first | refine soA ?_ | refine sgA ?_ | refine sxA ?_ | refine sbA ?_ | refine fun (Q : Post) hQ => ?_ | refine fun (nb : Nat) => (?_ : WL _ _ _ _ _ _ _ _ _) | (refine WL.guard rfl rfl rfl (fun h => ?_) (fun h => ?_) <;> (try dsimp only at h)))
    (refine seE ?_)
    exact ⟨_, (by (exact keA)), by unfold usedK; rw [if_neg h1], rfl⟩
  · have h1 : hasK s n = true := by simpa using h
    have hb := hasK_in h1
    obtain ⟨m, hm⟩ : ∃ m : Nat, n = m := ⟨n.toNat, by omega⟩
    have hmn : m < s.used.length := by have := w.nt; have := w.nn; have := w.nu; omega
    obtain ⟨u, hu⟩ : ∃ u, s.used[m]? = some u := ⟨_, List.getElem?_eq_getElem hmn⟩
    have hgd : usedK s n = u := by unfold usedK; rw [if_pos h1, hm, Int.toNat_natCast, List.getD_eq_getElem?_getD, hu]; rfl
    obtain ⟨gU, LU, eU, rfl, hUa, hUi, hUg⟩ := arr_at (f := encI) (sz := 1) (fun _ => rfl) k.hU hmn
    have g1 := hUg u hu 0 _ rfl
    repeat' (first | ((apply WL.rd; (exact rfl); (exact Rn.indexAddrE m eU rfl rfl hm hmn))) | ((apply WL.rd; (exact rfl); (apply Rn.load; (exact rfl); (apply CellAt.mk; (exact atA); (exact g1))))) | (first | refine soA ?_ | refine sgA ?_ | refine sxA ?_ | refine sbA ?_ | refine fun (Q : Post) hQ => ?_ | refine fun (nb : Nat) => (?_ : WL _ _ _ _ _ _ _ _ _) | (refine WL.guard rfl rfl rfl (fun h => ?_) (fun h => ?_) <;> (try dsimp only at h))))
    (refine seE ?_)
    exact ⟨_, (by (exact keA)), by rw [hgd], rfl⟩
end Go.Proofs.YtflgnpidelkkpaaGreat
namespace Go.Proofs.YtflgnpidelkkpaaGreat
set_option maxRecDepth 8000
set_option maxHeartbeats 1000000
set_option linter.unusedVariables false
set_option linter.unusedSimpArgs false
def deviceK (s : Kn) (d : Int) : DevV := if d < 0 ∨ (s.devs.length : Int) ≤ d then ⟨0, 0⟩ else s.devs.getD d.toNat ⟨0, 0⟩
attribute [local irreducible] W X WL WA WB WG WO Rn Own one splice Arr Spec WQ WH Qn
theorem kDevice_any (b : Nat) (s : Kn) (d : Int) (F : Hp) (hs : List Hp) (ho : KerC b s hs) : Spec Tryz.prog 41 [ptrV b, .int .i64 d] F hs fun v hs' => v = .agg (deviceK s d).enc.toArray ∧ hs' = hs := by
  obtain ⟨a, hP, hT, hM, hN, hU, hS, hK, hL, hA, hI, hD, hE, hR, hV, hC, rfl, k⟩ := ho
  refine Spec.enter Tryz.func41 rfl Tryz.ntmps41 rfl fun B => ?_
  by_cases h1 : d < 0 ∨ (s.devs.length : Int) ≤ d
  · have e : deviceK s d = ⟨0, 0⟩ := if_pos h1
    by_cases h2 : d < 0
    all_goals
      repeat' (first | ((apply WL.rd; (exact rfl); (exact ckA))) | (first | refine soA ?_ | refine sgA ?_ | refine sxA ?_ | refine sbA ?_ | refine fun (Q : Post) hQ => ?_ | refine fun (nb : Nat) => (?_ : WL _ _ _ _ _ _ _ _ _) | (refine WL.guard rfl rfl rfl (fun h => ?_) (fun h => ?_) <;> (try dsimp only at h))))
      (refine seE ?_)
      exact ⟨_, (by (exact keA)), by rw [e]; rfl, rfl⟩
  · obtain ⟨m, hm⟩ : ∃ m : Nat, d = m := ⟨d.toNat, by omega⟩
    have hmn : m < s.devs.length := by omega
    obtain ⟨u, hu⟩ : ∃ u, s.devs[m]? = some u := ⟨_, List.getElem?_eq_getElem hmn⟩
    have e : deviceK s d = u := by unfold deviceK; rw [if_neg h1, hm, Int.toNat_natCast, List.getD_eq_getElem?_getD, hu]; rfl
    obtain ⟨gU, LU, eU, rfl, hUa, hUi, hUg⟩ := arr_at (f := DevV.enc) (sz := 2) DevV.enc_len k.hD hmn
    have g1 := hUg u hu
    repeat' (first | ((apply WL.rd; (exact rfl); (exact ckA))) | ((apply WL.rd; (exact rfl); (exact Rn.indexAddrE m eU rfl rfl hm hmn))) | ((apply WL.rd; (exact rfl); (exact Rn.loadS (vs := u.enc) rfl (CellsAt.mk (by (exact atA)) g1) rfl))) | (first | refine soA ?_ | refine sgA ?_ | refine sxA ?_ | refine sbA ?_ | refine fun (Q : Post) hQ => ?_ | refine fun (nb : Nat) => (?_ : WL _ _ _ _ _ _ _ _ _) | (refine WL.guard rfl rfl rfl (fun h => ?_) (fun h => ?_) <;> (try dsimp only at h))))
    (refine seE ?_)
    exact ⟨_, (by (exact keA)), by rw [e], rfl⟩
end Go.Proofs.YtflgnpidelkkpaaGreat
namespace Go.Proofs.YtflgnpidelkkpaaGreat
set_option maxRecDepth 8000
set_option maxHeartbeats 1000000
set_option linter.unusedVariables false
set_option linter.unusedSimpArgs false
attribute [local irreducible] W X WL WA WB WG WO Rn Own one splice Arr Spec WQ WH Qn
theorem kEvents_any (b : Nat) (s : Kn) (F : Hp) (hs : List Hp) (ho : KerC b s hs) (hf : s.events.length * 32 ≤ 140737488355328) : Spec Tryz.prog 28 [ptrV b] F hs fun v hs' => ∃ A c h, v = .slice A s.events.length s.events.length ∧ hs' = h :: hs ∧ Arr 66 4 s.events.length (s.events.flatMap EventV.enc) A c h := by
  obtain ⟨a, hP, hT, hM, hN, hU, hS, hK, hL, hA, hI, hD, hE, hR, hV, hC, rfl, k⟩ := ho
  refine Spec.enter Tryz.func28 rfl Tryz.ntmps28 rfl fun B => ?_
  repeat' (first | ((refine WL.ex rfl (WO.callN Tryz.func66 rfl (by kernel_rfl) rfl (by (exact tsA)) (fun G hG hh => cloneV_any a.A7 a.c7 s.events G (k.hV.rowX (hh hV (by simp))) hf) ?_); rintro v own' ⟨A, c, h1, rfl, rfl, ha⟩)) | ((refine WL.ex rfl (WO.callN Tryz.func65 rfl (by kernel_rfl) rfl (by (exact tsA)) (fun G hG hh => clipV_any _ _ s.events.length G ha.le) ?_); rintro v own' ⟨rfl, rfl⟩)) | (first | refine soA ?_ | refine sgA ?_ | refine sxA ?_ | refine sbA ?_ | refine fun (Q : Post) hQ => ?_ | refine fun (nb : Nat) => (?_ : WL _ _ _ _ _ _ _ _ _) | (refine WL.guard rfl rfl rfl (fun h => ?_) (fun h => ?_) <;> (try dsimp only at h))))
  (refine seE ?_)
  exact ⟨_, (by (exact keA)), A, c, h1, rfl, rfl, ha⟩
end Go.Proofs.YtflgnpidelkkpaaGreat
namespace Go.Proofs.YtflgnpidelkkpaaGreat
set_option maxRecDepth 8000
set_option maxHeartbeats 1000000
set_option linter.unusedVariables false
set_option linter.unusedSimpArgs false
attribute [local irreducible] W X WL WA WB WG WO Rn Own one splice Arr Spec WQ WH Qn
theorem kJobs_any (b : Nat) (s : Kn) (F : Hp) (hs : List Hp) (ho : KerC b s hs) (w : KOk s) : Spec Tryz.prog 47 [ptrV b] F hs fun v hs' => ∃ A c h, v = .slice A s.jobs.length c ∧ hs' = h :: hs ∧ Arr 142 6 s.jobs.length (s.jobs.flatMap JobV.enc) A c h := by
  have hjl := OrdJ.jobs_le w
  obtain ⟨a, hP, hT, hM, hN, hU, hS, hK, hL, hA, hI, hD, hE, hR, hV, hC, rfl, k⟩ := ho
  refine Spec.enter Tryz.func47 rfl Tryz.ntmps47 rfl fun B => ?_
  repeat' (first | ((refine WL.ex rfl (WO.callN Tryz.func88 rfl (by kernel_rfl) rfl (own := [hS]) (by (exact tsA)) (fun G hG hh => rylistC (by omega) w.jord k.hS) ?_); rintro v own' ⟨AJ, cJ, hJ, rfl, aJ, rfl⟩)) | (first | refine soA ?_ | refine sgA ?_ | refine sxA ?_ | refine sbA ?_ | refine fun (Q : Post) hQ => ?_ | refine fun (nb : Nat) => (?_ : WL _ _ _ _ _ _ _ _ _) | (refine WL.guard rfl rfl rfl (fun h => ?_) (fun h => ?_) <;> (try dsimp only at h))))
  (refine seE ?_)
  exact ⟨_, (by (exact keA)), AJ, cJ, hJ, rfl, rfl, aJ⟩
theorem kHeld_any (b : Nat) (s : Kn) (F : Hp) (hs : List Hp) (ho : KerC b s hs) (w : KOk s) : Spec Tryz.prog 49 [ptrV b] F hs fun v hs' => ∃ A c h, v = .slice A s.held.length s.held.length ∧ hs' = h :: hs ∧ ArrL s.held A c h := by
  have hhl := w.hlen
  obtain ⟨a, hP, hT, hM, hN, hU, hS, hK, hL, hA, hI, hD, hE, hR, hV, hC, rfl, k⟩ := ho
  refine Spec.enter Tryz.func49 rfl Tryz.ntmps49 rfl fun B => ?_
  repeat' (first | ((refine WL.ex rfl (WO.callN Tryz.func91 rfl (by kernel_rfl) rfl (own := [hL]) (by (exact tsA)) (fun G hG hh => loclistC (by omega) k.hL) ?_); rintro v own' ⟨AL, cL, hLL, rfl, aL, rfl⟩)) | (first | refine soA ?_ | refine sgA ?_ | refine sxA ?_ | refine sbA ?_ | refine fun (Q : Post) hQ => ?_ | refine fun (nb : Nat) => (?_ : WL _ _ _ _ _ _ _ _ _) | (refine WL.guard rfl rfl rfl (fun h => ?_) (fun h => ?_) <;> (try dsimp only at h))))
  (refine seE ?_)
  exact ⟨_, (by (exact keA)), AL, cL, hLL, rfl, rfl, aL⟩
end Go.Proofs.YtflgnpidelkkpaaGreat
namespace Go.Proofs.YtflgnpidelkkpaaGreat
set_option maxRecDepth 8000
set_option maxHeartbeats 1000000
set_option linter.unusedVariables false
set_option linter.unusedSimpArgs false
attribute [local irreducible] W X WL WA WB WG WO Rn Own one splice Arr Spec WQ WH Qn
theorem kStack_any (b : Nat) (s : Kn) (F : Hp) (hs : List Hp) (ho : KerC b s hs) (w : KOk s) : Spec Tryz.prog 48 [ptrV b] F hs fun v hs' => ∃ A c h, v = .slice A s.stack.length s.stack.length ∧ hs' = h :: hs ∧ Arr 3 1 s.stack.length (s.stack.flatMap encI) A c h := by
  have hst := w.stk
  obtain ⟨a, hP, hT, hM, hN, hU, hS, hK, hL, hA, hI, hD, hE, hR, hV, hC, rfl, k⟩ := ho
  refine Spec.enter Tryz.func48 rfl Tryz.ntmps48 rfl fun B => ?_
  repeat' (first | ((refine WL.ex rfl (WO.callN Tryz.func90 rfl (by kernel_rfl) rfl (by (exact tsA)) (fun G hG hh => cloneI_any a.A4 a.c4 s.stack G (k.hK.rowX (hh hK (by simp))) (by omega)) ?_); rintro v own' ⟨A, c, h1, rfl, rfl, ha⟩)) | ((refine WL.ex rfl (WO.callN Tryz.func89 rfl (by kernel_rfl) rfl (by (exact tsA)) (fun G hG hh => clipI_any _ _ s.stack.length G ha.le) ?_); rintro v own' ⟨rfl, rfl⟩)) | (first | refine soA ?_ | refine sgA ?_ | refine sxA ?_ | refine sbA ?_ | refine fun (Q : Post) hQ => ?_ | refine fun (nb : Nat) => (?_ : WL _ _ _ _ _ _ _ _ _) | (refine WL.guard rfl rfl rfl (fun h => ?_) (fun h => ?_) <;> (try dsimp only at h))))
  (refine seE ?_)
  exact ⟨_, (by (exact keA)), A, c, h1, rfl, rfl, ha⟩
theorem kTrace_any (b : Nat) (s : Kn) (F : Hp) (hs : List Hp) (ho : KerC b s hs) (hf : s.trace.length * 48 ≤ 140737488355328) : Spec Tryz.prog 22 [ptrV b] F hs fun v hs' => ∃ A c h, v = .slice A s.trace.length c ∧ hs' = h :: hs ∧ Arr 52 6 s.trace.length (s.trace.flatMap IntervalV.enc) A c h := by
  obtain ⟨a, hP, hT, hM, hN, hU, hS, hK, hL, hA, hI, hD, hE, hR, hV, hC, rfl, k⟩ := ho
  refine Spec.enter Tryz.func22 rfl Tryz.ntmps22 rfl fun B => ?_
  repeat' (first | ((refine WL.ex rfl (WO.callN Tryz.func59 rfl (by kernel_rfl) rfl (own := [hR]) (by (exact tsA)) (fun G hG hh => listC a.tr s.trace G hR k.hR hf) ?_); rintro v own' ⟨A, c, h2, rfl, ha, rfl⟩)) | (first | refine soA ?_ | refine sgA ?_ | refine sxA ?_ | refine sbA ?_ | refine fun (Q : Post) hQ => ?_ | refine fun (nb : Nat) => (?_ : WL _ _ _ _ _ _ _ _ _) | (refine WL.guard rfl rfl rfl (fun h => ?_) (fun h => ?_) <;> (try dsimp only at h))))
  (refine seE ?_)
  exact ⟨_, (by (exact keA)), A, c, h2, rfl, rfl, ha⟩
end Go.Proofs.YtflgnpidelkkpaaGreat
