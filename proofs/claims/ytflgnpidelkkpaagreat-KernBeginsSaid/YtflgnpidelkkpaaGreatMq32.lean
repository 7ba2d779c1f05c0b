/- part 32 of the proof: contracts of the functions that the law reaches, and plain laws. -/
import Derived.Test.YtflgnpidelkkpaaGreatMq7
import Derived.Test.YtflgnpidelkkpaaGreatMq31
namespace Go.Proofs.YtflgnpidelkkpaaGreat
set_option maxRecDepth 8000
set_option maxHeartbeats 1000000
set_option linter.unusedVariables false
set_option linter.unusedSimpArgs false
theorem KM_same {s t : Kn} (h : SameBut s t) (a : KA) : KM t a = KM s a := by
  unfold KM
  rw [h.now, h.level, h.policy, h.naps, h.next, h.used, h.stack, h.ended, h.dl, h.sl, h.asleep, h.state, h.wake, h.meter, h.events]
theorem KParts.same {s t : Kn} {a : KA} {hP hT hM hN hU hS hK hL hA hI hD hE hR hV hC hD' hE' : Hp} (k : KParts s a hP hT hM hN hU hS hK hL hA hI hD hE hR hV hC) (h : SameBut s t)
    (hd : Arr 72 2 t.devs.length (t.devs.flatMap DevV.enc) a.A5 a.c5 hD') (he : Arr 3 1 t.spent.length (t.spent.flatMap encI) a.A6 a.c6 hE') : KParts t a hP hT hM hN hU hS hK hL hA hI hD' hE' hR hV hC where
  pl := k.pl.trans h.p.symm
  plat := k.plat
  tasks := k.tasks.trans h.tasks.symm
  hT := k.hT
  sec := k.sec
  dev := k.dev
  hN := by rw [h.next]; exact k.hN
  hU := by rw [h.used]; exact k.hU
  hS := by rw [h.jobs]; exact k.hS
  hK := by rw [h.stack]; exact k.hK
  hL := by rw [h.held]; exact k.hL
  hA := by rw [h.latch]; exact k.hA
  hI := by rw [h.timers]; exact k.hI
  hD := hd
  hE := he
  hR := by rw [h.trace]; exact k.hR
  hV := by rw [h.events]; exact k.hV
  hC := by rw [h.tasks]; exact k.hC
theorem getD_at {l : List Int} {m : Nat} {u : Int} (h : l[m]? = some u) : l.getD m 0 = u := by rw [List.getD_eq_getElem?_getD, h]; rfl
structure AwS where
  m : Nat
  hD : Hp
  hE : Hp
attribute [local irreducible] W X WL WA WB WG WO Rn Own one splice Arr Spec WQ WH Qn
set_option maxHeartbeats 8000000 in
theorem kaway_any (b : Nat) (s : Kn) (F : Hp) (hs : List Hp) (ho : KerC b s hs) (w : KOk s) (m : KMom s) : Spec Tryz.prog 104 [ptrV b] F hs fun v hs' => v = .tuple #[] ∧ KerC b (awayK s) hs' := by
  obtain ⟨a, hP, hT, hM, hN, hU, hS, hK, hL, hA, hI, hD, hE, hR, hV, hC, rfl, k⟩ := ho
  refine Spec.enter Tryz.func104 rfl Tryz.ntmps104 rfl fun B => ?_
  have hjl := w.jord.nodup_le w.jnd w.jin
  have hdl := w.nd
  have hel := w.ne
  have hmb := m.big
  have htk := k.tasks
  have hpd : a.p.devices.xs = s.p.devices := congrArg PP.devices k.pl
  have htl : a.ts.length = 6 := by rw [← w.nt, ← k.tasks, List.length_map]
  repeat' (first | ((refine WL.ex rfl (WO.callN Tryz.func88 rfl (by kernel_rfl) rfl (own := [hS]) (by (exact tsA)) (fun G hG hh => rylistC (by omega) w.jord k.hS) ?_); rintro v own' ⟨AJ, cJ, hJ, rfl, aJ, rfl⟩)) | (first | refine soA ?_ | refine sgA ?_ | refine sxA ?_ | refine sbA ?_ | refine fun (Q : Post) hQ => ?_ | refine fun (nb : Nat) => (?_ : WL _ _ _ _ _ _ _ _ _) | (refine WL.guard rfl rfl rfl (fun h => ?_) (fun h => ?_) <;> (try dsimp only at h))))
  refine W.loopK (σ := AwS) ⟨fun x => x.m ≤ s.devs.length ∧ Arr 72 2 (awayN s x.m).devs.length ((awayN s x.m).devs.flatMap DevV.enc) a.A5 a.c5 x.hD ∧ Arr 3 1 (awayN s x.m).spent.length ((awayN s x.m).spent.flatMap encI) a.A6 a.c6 x.hE, fun x => [(18, some (.int .i64 (x.m : Nat))), (17, some (.int .i64 (s.devs.length : Nat))), (16, some (.slice a.A5 s.devs.length a.c5)), (2, some (.slice AJ s.jobs.length cJ)), (0, some (ptrV b))], fun x => [one b (cells (KM s a) 108), hP, hT, hM, hN, hU, hS, hK, hL, hA, hI, x.hD, x.hE, hR, hV, hC, hJ], fun x => s.devs.length - x.m⟩ ⟨0, hD, hE⟩ ⟨Nat.zero_le _, k.hD, k.hE⟩ (by repeat' (first | exact trivial | refine ⟨rfl, ?_⟩)) (by (exact keA)) ?_
  rintro ⟨n, gD, gE⟩ ⟨hn, aD, aE⟩ Q hLo
  dsimp only at hn aD aE ⊢
  have hsm := awayN_same s n
  repeat' (first | refine soA ?_ | refine sgA ?_ | refine sxA ?_ | refine sbA ?_ | refine fun (Q : Post) hQ => ?_ | refine fun (nb : Nat) => (?_ : WL _ _ _ _ _ _ _ _ _) | (refine WL.guard rfl rfl rfl (fun h => ?_) (fun h => ?_) <;> (try dsimp only at h)))
  refine W.cond rfl (fun h3 => ?_) (fun h3 => ?_)
  · have hlt : n < s.devs.length := by simpa using h3
    have hat := awayN_at s n n (Nat.le_refl _)
    have hl1 : n < (awayN s n).devs.length := by rw [hsm.dl]; exact hlt
    have hl2 : n < (awayN s n).spent.length := by rw [hsm.sl]; omega
    obtain ⟨x, hx⟩ : ∃ x, (awayN s n).devs[n]? = some x := ⟨_, List.getElem?_eq_getElem hl1⟩
    obtain ⟨u, hu⟩ : ∃ u, (awayN s n).spent[n]? = some u := ⟨_, List.getElem?_eq_getElem hl2⟩
    have hlo : n < a.p.devices.xs.length := by rw [hpd]; omega
    obtain ⟨o, ho⟩ : ∃ o, a.p.devices.xs[n]? = some o := ⟨_, List.getElem?_eq_getElem hlo⟩
    have ho2 : s.p.devices[n]? = some o := hpd ▸ ho
    have hR0 := m.dev n o x ho2 (hat.1 ▸ hx)
    have hU0 := untilV_in s.tasks s.next s.jobs n (now := s.now) (by omega)
    obtain ⟨g1, L1, e1, rfl, hDa, hDi, hDg⟩ := arr_at (f := DevV.enc) (sz := 2) DevV.enc_len aD hl1
    obtain ⟨g2, L2, e2, rfl, hEa, hEi, hEg⟩ := arr_at (f := encI) (sz := 1) (fun _ => rfl) aE hl2
    have hdv := w.dvl
    obtain ⟨g3, o3, e3, c3⟩ := (k.plat.devices.own (F := F)).elem 7 DeviceV.enc_len (by omega) n o ho
    have hsl := hsm.sl
    have hdl2 := hsm.dl
    cases hb : devAwayB o x s.now (untilV s.tasks s.next s.jobs n s.now) with
    | false =>
      have he : awayN s (n + 1) = awayN s n := by rw [awayN_succ]; exact awayF_no hsm hx ho2 hb
      repeat' (first | ((apply WL.rd; (exact rfl); (exact Rn.indexAddrE n e1 rfl rfl (by first | rfl | omega) (by first | assumption | omega)))) | ((apply WL.rd; (exact rfl); (exact Rn.loadS (vs := x.enc) rfl (CellsAt.mk (by (exact atA)) (hDg x hx)) rfl))) | ((apply WL.rd; (exact rfl); (exact Rn.indexAddrE n e3 rfl rfl (by first | rfl | omega) (by first | assumption | omega)))) | ((apply WL.rd; (exact rfl); (apply Rn.loadS; (exact rfl); (exact (CellsAt.weak c3 (by simp))); (exact rfl)))) | (first | refine soA ?_ | refine sgA ?_ | refine sxA ?_ | refine sbA ?_ | refine fun (Q : Post) hQ => ?_ | refine fun (nb : Nat) => (?_ : WL _ _ _ _ _ _ _ _ _) | (refine WL.guard rfl rfl rfl (fun h => ?_) (fun h => ?_) <;> (try dsimp only at h))))
      refine dra [(5, []), (4, []), (0, [])] [] ?_
      refine drl 28 0 0 1 ?_
      refine drl 28 1 1 3 ?_
      refine drp 28 2 7 ?_
      refine drp 28 3 15 ?_
      refine drp 28 4 31 ?_
      refine drl 28 5 2 63 ?_
      refine drp 28 6 127 ?_
      refine drp 28 7 255 ?_
      refine drp 28 8 511 ?_
      refine drl 28 9 2 1023 ?_
      refine drp 28 10 2047 ?_
      refine drp 28 11 4095 ?_
      refine drp 28 12 8191 ?_
      refine drl 28 13 2 16383 ?_
      refine drp 28 14 32767 ?_
      refine drp 28 15 65535 ?_
      refine drp 28 16 131071 ?_
      refine drp 28 17 262143 ?_
      refine drp 28 18 524287 ?_
      refine drl 28 19 2 1048575 ?_
      refine dr2 20 25 ?_ ?_
      refine dre 28 20 2097151 ?_
      (refine WO.callN Tryz.func166 rfl (by kernel_rfl) rfl (by (exact tsA)) (fun G hG hh => htk ▸ until_any a.A1 a.c1 a.ts a.A2 a.c2 s.next AJ cJ s.jobs n s.now G (k.tx w (hh hT (by simp)) (hh hM (by simp))) (k.hN.rowX (hh hN (by simp))) (by rw [w.nn, htl]) (aJ.rowX (hh hJ (by simp))) (by omega) (fun j hj => by have := w.jin j hj; omega)) ?_; rintro v own' ⟨rfl, rfl⟩)
      refine ⟨piA, ?_⟩
      refine dr2 21 25 ?_ ?_
      refine dre 28 21 4194303 ?_
      (refine WO.callN Tryz.func165 rfl (by kernel_rfl) rfl (by (exact tsA)) (fun G hG hh => hb ▸ away_any o x s.now (untilV s.tasks s.next s.jobs n s.now) G hR0 hU0) ?_; rintro v own' ⟨rfl, rfl⟩)
      refine ⟨piA, ?_⟩
      refine drp 28 22 8388607 ?_
      refine drp 28 23 16777215 ?_
      refine drp 28 24 33554431 ?_
      refine dr1 25 ?_
      refine dre 28 25 67108863 ?_
      (refine WO.alloc ?_; intro nb)
      refine ⟨piA, ?_⟩
      refine dr1 26 ?_
      refine drf 28 26 134217727 ?_
      (refine swA ?_)
      refine ⟨piA, ?_⟩
      refine drp 28 27 268435455 ?_
      refine drz ?_
      rotate_left 1
      refine dre 28 25 35651583 ?_
      (refine WO.alloc ?_; intro nb)
      refine ⟨piA, ?_⟩
      refine dr1 21 ?_
      refine dre 28 21 37748735 ?_
      (refine WO.callN Tryz.func165 rfl (by kernel_rfl) rfl (by (exact tsA)) (fun G hG hh => hb ▸ away_any o x s.now (untilV s.tasks s.next s.jobs n s.now) G hR0 hU0) ?_; rintro v own' ⟨rfl, rfl⟩)
      refine ⟨piA, ?_⟩
      refine drp 28 22 41943039 ?_
      refine drp 28 23 50331647 ?_
      refine drp 28 24 67108863 ?_
      refine dr1 26 ?_
      refine drf 28 26 134217727 ?_
      (refine swA ?_)
      refine ⟨piA, ?_⟩
      refine drp 28 27 268435455 ?_
      refine drz ?_
      rotate_left 1
      refine dre 28 25 34603007 ?_
      (refine WO.alloc ?_; intro nb)
      refine ⟨piA, ?_⟩
      refine dr1 20 ?_
      refine dre 28 20 35651583 ?_
      (refine WO.callN Tryz.func166 rfl (by kernel_rfl) rfl (by (exact tsA)) (fun G hG hh => htk ▸ until_any a.A1 a.c1 a.ts a.A2 a.c2 s.next AJ cJ s.jobs n s.now G (k.tx w (hh hT (by simp)) (hh hM (by simp))) (k.hN.rowX (hh hN (by simp))) (by rw [w.nn, htl]) (aJ.rowX (hh hJ (by simp))) (by omega) (fun j hj => by have := w.jin j hj; omega)) ?_; rintro v own' ⟨rfl, rfl⟩)
      refine ⟨piA, ?_⟩
      refine dr1 21 ?_
      refine dre 28 21 37748735 ?_
      (refine WO.callN Tryz.func165 rfl (by kernel_rfl) rfl (by (exact tsA)) (fun G hG hh => hb ▸ away_any o x s.now (untilV s.tasks s.next s.jobs n s.now) G hR0 hU0) ?_; rintro v own' ⟨rfl, rfl⟩)
      refine ⟨piA, ?_⟩
      refine drp 28 22 41943039 ?_
      refine drp 28 23 50331647 ?_
      refine drp 28 24 67108863 ?_
      refine dr1 26 ?_
      refine drf 28 26 134217727 ?_
      (refine swA ?_)
      refine ⟨piA, ?_⟩
      refine drp 28 27 268435455 ?_
      refine drz ?_
      all_goals
        repeat' (first | refine soA ?_ | refine sgA ?_ | refine sxA ?_ | refine sbA ?_ | refine fun (Q : Post) hQ => ?_ | refine fun (nb : Nat) => (?_ : WL _ _ _ _ _ _ _ _ _) | (refine WL.guard rfl rfl rfl (fun h => ?_) (fun h => ?_) <;> (try dsimp only at h)))
        exact hLo.nx ⟨n + 1, one g1 (cells L1 72), one g2 (cells L2 3)⟩ _ _ ⟨hlt, he.symm ▸ aD, he.symm ▸ aE⟩ (by dsimp only; omega) (by repeat' (first | exact trivial | refine ⟨rfl, ?_⟩)) (by (exact keA))
    | true =>
      have he : awayN s (n + 1) = { awayN s n with spent := (awayN s n).spent.set n (w64 (u + devEnergyV o x s.now)), devs := (awayN s n).devs.set n ⟨s.now, untilV s.tasks s.next s.jobs n s.now⟩ } := by
        rw [awayN_succ, awayF_yes hsm hx ho2 hb, getD_at hu]
      repeat' (first | ((apply WL.rd; (exact rfl); (exact Rn.indexAddrE n e1 rfl rfl (by first | rfl | omega) (by first | assumption | omega)))) | ((apply WL.rd; (exact rfl); (exact Rn.loadS (vs := x.enc) rfl (CellsAt.mk (by (exact atA)) (hDg x hx)) rfl))) | ((apply WL.rd; (exact rfl); (exact Rn.indexAddrE n e3 rfl rfl (by first | rfl | omega) (by first | assumption | omega)))) | ((apply WL.rd; (exact rfl); (apply Rn.loadS; (exact rfl); (exact (CellsAt.weak c3 (by simp))); (exact rfl)))) | (first | refine soA ?_ | refine sgA ?_ | refine sxA ?_ | refine sbA ?_ | refine fun (Q : Post) hQ => ?_ | refine fun (nb : Nat) => (?_ : WL _ _ _ _ _ _ _ _ _) | (refine WL.guard rfl rfl rfl (fun h => ?_) (fun h => ?_) <;> (try dsimp only at h))))
      refine dra [(5, []), (4, []), (0, [])] [] ?_
      refine drl 28 0 0 1 ?_
      refine drl 28 1 1 3 ?_
      refine drp 28 2 7 ?_
      refine drp 28 3 15 ?_
      refine drp 28 4 31 ?_
      refine drl 28 5 2 63 ?_
      refine drp 28 6 127 ?_
      refine drp 28 7 255 ?_
      refine drp 28 8 511 ?_
      refine drl 28 9 2 1023 ?_
      refine drp 28 10 2047 ?_
      refine drp 28 11 4095 ?_
      refine drp 28 12 8191 ?_
      refine drl 28 13 2 16383 ?_
      refine drp 28 14 32767 ?_
      refine drp 28 15 65535 ?_
      refine drp 28 16 131071 ?_
      refine drp 28 17 262143 ?_
      refine drp 28 18 524287 ?_
      refine drl 28 19 2 1048575 ?_
      refine dr2 20 25 ?_ ?_
      refine dre 28 20 2097151 ?_
      (refine WO.callN Tryz.func166 rfl (by kernel_rfl) rfl (by (exact tsA)) (fun G hG hh => htk ▸ until_any a.A1 a.c1 a.ts a.A2 a.c2 s.next AJ cJ s.jobs n s.now G (k.tx w (hh hT (by simp)) (hh hM (by simp))) (k.hN.rowX (hh hN (by simp))) (by rw [w.nn, htl]) (aJ.rowX (hh hJ (by simp))) (by omega) (fun j hj => by have := w.jin j hj; omega)) ?_; rintro v own' ⟨rfl, rfl⟩)
      refine ⟨piA, ?_⟩
      refine dr2 21 25 ?_ ?_
      refine dre 28 21 4194303 ?_
      (refine WO.callN Tryz.func165 rfl (by kernel_rfl) rfl (by (exact tsA)) (fun G hG hh => hb ▸ away_any o x s.now (untilV s.tasks s.next s.jobs n s.now) G hR0 hU0) ?_; rintro v own' ⟨rfl, rfl⟩)
      refine ⟨piA, ?_⟩
      refine drp 28 22 8388607 ?_
      refine drp 28 23 16777215 ?_
      refine drp 28 24 33554431 ?_
      refine dr1 25 ?_
      refine dre 28 25 67108863 ?_
      (refine WO.alloc ?_; intro nb)
      refine ⟨piA, ?_⟩
      refine dr1 26 ?_
      refine drf 28 26 134217727 ?_
      (refine swA ?_)
      refine ⟨piA, ?_⟩
      refine drp 28 27 268435455 ?_
      refine drz ?_
      rotate_left 1
      refine dre 28 25 35651583 ?_
      (refine WO.alloc ?_; intro nb)
      refine ⟨piA, ?_⟩
      refine dr1 21 ?_
      refine dre 28 21 37748735 ?_
      (refine WO.callN Tryz.func165 rfl (by kernel_rfl) rfl (by (exact tsA)) (fun G hG hh => hb ▸ away_any o x s.now (untilV s.tasks s.next s.jobs n s.now) G hR0 hU0) ?_; rintro v own' ⟨rfl, rfl⟩)
      refine ⟨piA, ?_⟩
      refine drp 28 22 41943039 ?_
      refine drp 28 23 50331647 ?_
      refine drp 28 24 67108863 ?_
      refine dr1 26 ?_
      refine drf 28 26 134217727 ?_
      (refine swA ?_)
      refine ⟨piA, ?_⟩
      refine drp 28 27 268435455 ?_
      refine drz ?_
      rotate_left 1
      refine dre 28 25 34603007 ?_
      (refine WO.alloc ?_; intro nb)
      refine ⟨piA, ?_⟩
      refine dr1 20 ?_
      refine dre 28 20 35651583 ?_
      (refine WO.callN Tryz.func166 rfl (by kernel_rfl) rfl (by (exact tsA)) (fun G hG hh => htk ▸ until_any a.A1 a.c1 a.ts a.A2 a.c2 s.next AJ cJ s.jobs n s.now G (k.tx w (hh hT (by simp)) (hh hM (by simp))) (k.hN.rowX (hh hN (by simp))) (by rw [w.nn, htl]) (aJ.rowX (hh hJ (by simp))) (by omega) (fun j hj => by have := w.jin j hj; omega)) ?_; rintro v own' ⟨rfl, rfl⟩)
      refine ⟨piA, ?_⟩
      refine dr1 21 ?_
      refine dre 28 21 37748735 ?_
      (refine WO.callN Tryz.func165 rfl (by kernel_rfl) rfl (by (exact tsA)) (fun G hG hh => hb ▸ away_any o x s.now (untilV s.tasks s.next s.jobs n s.now) G hR0 hU0) ?_; rintro v own' ⟨rfl, rfl⟩)
      refine ⟨piA, ?_⟩
      refine drp 28 22 41943039 ?_
      refine drp 28 23 50331647 ?_
      refine drp 28 24 67108863 ?_
      refine dr1 26 ?_
      refine drf 28 26 134217727 ?_
      (refine swA ?_)
      refine ⟨piA, ?_⟩
      refine drp 28 27 268435455 ?_
      refine drz ?_
      all_goals
        repeat' (first | refine soA ?_ | refine sgA ?_ | refine sxA ?_ | refine sbA ?_ | refine fun (Q : Post) hQ => ?_ | refine fun (nb : Nat) => (?_ : WL _ _ _ _ _ _ _ _ _) | (refine WL.guard rfl rfl rfl (fun h => ?_) (fun h => ?_) <;> (try dsimp only at h)))
        refine dra [(0, []), (5, []), (4, [])] [((one g2 (cells L2 3)), [16])] ?_
        refine drp 17 0 1 ?_
        refine drp 17 1 3 ?_
        refine drp 17 2 7 ?_
        refine drl 17 3 0 15 ?_
        refine drp 17 4 31 ?_
        refine drp 17 5 63 (hy := by (exact Rn.indexAddrE n e2 rfl rfl rfl (by omega))) ?_
        refine drl 17 6 3 127 (hy := by (apply Rn.load; (exact rfl); (exact .mk At.one (hEg u hu 0 _ rfl)))) ?_
        refine drl 17 7 1 255 ?_
        refine drl 17 8 2 511 ?_
        refine drp 17 9 1023 ?_
        refine drp 17 10 2047 ?_
        refine drp 17 11 4095 ?_
        refine drl 17 12 0 8191 ?_
        refine dr1 13 ?_
        refine dre 17 13 16383 ?_
        (refine WO.callN Tryz.func82 rfl (by kernel_rfl) rfl (by (exact tsA)) (fun G hG hh => energy_any o x s.now G hR0) ?_; rintro v own' ⟨rfl, rfl⟩)
        refine ⟨piA, ?_⟩
        refine drp 17 14 32767 (hy := by (exact Rn.addW rfl rfl)) ?_
        refine drp 17 15 65535 (hy := by (exact Rn.indexAddrE n e2 rfl rfl rfl (by omega))) ?_
        refine dr1 16 ?_
        refine drf 17 16 131071 ?_
        (apply WO.storeC (l := L2) (vs := [.int .i64 (w64 (u + devEnergyV o x s.now))]) (b := g2) (o := 0 + n * 1); (exact rfl); (exact rfl); (exact rfl); (exact rfl); (exact rfl); (exact rpA); (exact hEi))
        refine ⟨piA, ?_⟩
        refine drz ?_
        repeat' (first | refine soA ?_ | refine sgA ?_ | refine sxA ?_ | refine sbA ?_ | refine fun (Q : Post) hQ => ?_ | refine fun (nb : Nat) => (?_ : WL _ _ _ _ _ _ _ _ _) | (refine WL.guard rfl rfl rfl (fun h => ?_) (fun h => ?_) <;> (try dsimp only at h)))
        refine dra [(0, []), (6, [])] [] ?_
        refine drp 8 0 1 ?_
        refine drp 8 1 3 ?_
        refine drp 8 2 7 ?_
        refine drl 8 3 0 15 ?_
        refine drp 8 4 31 ?_
        refine drl 8 5 1 63 ?_
        refine drp 8 6 127 (hy := by (exact Rn.indexAddrE n e1 rfl rfl rfl (by omega))) ?_
        refine dr1 7 ?_
        refine drf 8 7 255 ?_
        (apply WO.storeC (l := L1) (vs := (⟨s.now, untilV s.tasks s.next s.jobs n s.now⟩ : DevV).enc) (b := g1) (o := 0 + n * 2); (exact rfl); (exact rfl); (exact rfl); (exact rfl); (exact rfl); (exact rpA); (exact hDi))
        refine ⟨piA, ?_⟩
        refine drz ?_
        repeat' (first | refine soA ?_ | refine sgA ?_ | refine sxA ?_ | refine sbA ?_ | refine fun (Q : Post) hQ => ?_ | refine fun (nb : Nat) => (?_ : WL _ _ _ _ _ _ _ _ _) | (refine WL.guard rfl rfl rfl (fun h => ?_) (fun h => ?_) <;> (try dsimp only at h)))
        refine hLo.nx ⟨n + 1, one g1 (cells (splice L1 (0 + n * 2) (⟨s.now, untilV s.tasks s.next s.jobs n s.now⟩ : DevV).enc) 72), one g2 (cells (splice L2 (0 + n * 1) [.int .i64 (w64 (u + devEnergyV o x s.now))]) 3)⟩ _ _ ⟨hlt, ?_, ?_⟩ (by dsimp only; omega) (by repeat' (first | exact trivial | refine ⟨rfl, ?_⟩)) (by (exact keA))
        · rw [he]; exact hDa _
        · rw [he]; exact hEa _
  · obtain rfl : n = s.devs.length := by simp at h3; omega
    repeat' (first | refine soA ?_ | refine sgA ?_ | refine sxA ?_ | refine sbA ?_ | refine fun (Q : Post) hQ => ?_ | refine fun (nb : Nat) => (?_ : WL _ _ _ _ _ _ _ _ _) | (refine WL.guard rfl rfl rfl (fun h => ?_) (fun h => ?_) <;> (try dsimp only at h)))
    (refine seE ?_)
    refine ⟨[one b (cells (KM s a) 108), hP, hT, hM, hN, hU, hS, hK, hL, hA, hI, gD, gE, hR, hV, hC], (by (exact keA)), rfl, a, hP, hT, hM, hN, hU, hS, hK, hL, hA, hI, gD, gE, hR, hV, hC, ?_, k.same hsm aD aE⟩
    rw [show KM (awayK s) a = KM s a from KM_same hsm a]
end Go.Proofs.YtflgnpidelkkpaaGreat
namespace Go.Proofs.YtflgnpidelkkpaaGreat
set_option maxRecDepth 8000
set_option maxHeartbeats 1000000
set_option linter.unusedVariables false
set_option linter.unusedSimpArgs false
theorem lnext_due {b : Nat} {l : List TimerV} {now : Int} {x : TimerV} (hd : dueD l now = some x) {F : Hp} {h0 : Hp} (ho : Thing (LatC b l) h0) : Spec Tryz.prog 99 [ptrV b, .int .i64 now] F [h0] fun v hs' => ∃ h1, v = .tuple #[.int .i64 x.id, .int .i64 x.mom, .int .i64 x.every, .bool true] ∧ hs' = [h1] ∧ Thing (LatC b (offT x.id l)) h1 :=
  (Spec.objW (R' := fun v hs' => v = .tuple #[.int .i64 x.id, .int .i64 x.mom, .int .i64 x.every, .bool true] ∧ LatC b (offT x.id l) hs') ho fun hs hr => (lnext_any b l now F hs hr).mono fun v hs' h => by
    rcases h with ⟨y, h1, h2, h3, h4⟩ | ⟨h1, _⟩
    · have := dueD_some hr.nd h1 h2
      rw [hd] at this
      injection this with this
      subst this
      exact ⟨h3, h4⟩
    · rw [dueD_no h1] at hd; cases hd).mono fun v hs' ⟨h1, e, t⟩ => ⟨h1, by obtain ⟨_, _, _, h⟩ := t; exact h.1, e, t.mono fun hs h => h.2⟩
theorem lnext_not {b : Nat} {l : List TimerV} {now : Int} (hd : dueD l now = none) {F : Hp} {h0 : Hp} (ho : Thing (LatC b l) h0) : Spec Tryz.prog 99 [ptrV b, .int .i64 now] F [h0] fun v hs' => v = .tuple #[.int .i64 0, .int .i64 0, .int .i64 0, .bool false] ∧ hs' = [h0] :=
  Spec.objR ho fun hs hr => (lnext_any b l now F hs hr).mono fun v hs' h => by
    rcases h with ⟨y, h1, h2, h3, h4⟩ | ⟨h1, h2, h3⟩
    · have := dueD_some hr.nd h1 h2
      rw [hd] at this; cases this
    · exact ⟨h2, h3⟩
theorem tdue_due {b : Nat} {l : List TimerV} {now : Int} {x : TimerV} (hl : l.length < 8796093022208) (hd : dueD l now = some x) {F : Hp} {h0 : Hp} (ho : Thing (TimC b l) h0) : Spec Tryz.prog 103 [ptrV b, .int .i64 now] F [h0] fun v hs' => ∃ h1, v = .tuple #[.int .i64 x.id, .int .i64 x.mom, .bool true] ∧ hs' = [h1] ∧ Thing (TimC b (nextT x l)) h1 :=
  (Spec.objW (R' := fun v hs' => v = .tuple #[.int .i64 x.id, .int .i64 x.mom, .bool true] ∧ TimC b (nextT x l) hs') ho fun hs hr => (tdue_any b l now hl F hs hr).mono fun v hs' h => by
    rcases h with ⟨y, h1, h2, h3, h4⟩ | ⟨h1, _⟩
    · have := dueD_some hr.nd h1 h2
      rw [hd] at this
      injection this with this
      subst this
      exact ⟨h3, h4⟩
    · rw [dueD_no h1] at hd; cases hd).mono fun v hs' ⟨h1, e, t⟩ => ⟨h1, by obtain ⟨_, _, _, h⟩ := t; exact h.1, e, t.mono fun hs h => h.2⟩
theorem tdue_not {b : Nat} {l : List TimerV} {now : Int} (hl : l.length < 8796093022208) (hd : dueD l now = none) {F : Hp} {h0 : Hp} (ho : Thing (TimC b l) h0) : Spec Tryz.prog 103 [ptrV b, .int .i64 now] F [h0] fun v hs' => v = .tuple #[.int .i64 0, .int .i64 0, .bool false] ∧ hs' = [h0] :=
  Spec.objR ho fun hs hr => (tdue_any b l now hl F hs hr).mono fun v hs' h => by
    rcases h with ⟨y, h1, h2, h3, h4⟩ | ⟨h1, h2, h3⟩
    · have := dueD_some hr.nd h1 h2
      rw [hd] at this; cases this
    · exact ⟨h2, h3⟩
structure BdS where
  t : Kn
  hs : List Hp
structure RelI (b : Nat) (s : Kn) (c : Int) (x : BdS) : Prop where
  ker : KerC b x.t x.hs
  ok : KOk x.t
  mom : KMom x.t
  e : KE x.t c
  same : releaseK x.t = releaseK s
structure ExpI (b : Nat) (s : Kn) (c : Int) (x : BdS) : Prop where
  ker : KerC b x.t x.hs
  ok : KOk x.t
  mom : KMom x.t
  e : KE x.t c
  same : expireK x.t = expireK s
attribute [local irreducible] W X WL WA WB WG WO Rn Own one splice Arr Spec WQ WH Qn
set_option maxHeartbeats 16000000 in
theorem boundary_any (b : Nat) (s : Kn) (c : Int) (F : Hp) (hs : List Hp) (ho : KerC b s hs) (w : KOk s) (m : KMom s) (e : KE s c) (hc : c ≤ 4397000000000) : Spec Tryz.prog 57 [ptrV b] F hs fun v hs' => v = .tuple #[] ∧ KerC b (boundaryK s) hs' := by
  refine Spec.enter Tryz.func57 rfl Tryz.ntmps57 rfl fun B => ?_
  repeat' (first | ((refine W.cutK (c := .block 0 _) (σ := List Hp) ⟨fun x => KerC b (releaseK s) x, fun _ => [(0, some (ptrV b))], fun x => x, fun _ => 0⟩ (fun Q' hMt => ?_) ?_)) | (first | refine soA ?_ | refine sgA ?_ | refine sxA ?_ | refine sbA ?_ | refine fun (Q : Post) hQ => ?_ | refine fun (nb : Nat) => (?_ : WL _ _ _ _ _ _ _ _ _) | (refine WL.guard rfl rfl rfl (fun h => ?_) (fun h => ?_) <;> (try dsimp only at h))))
  · skip
    repeat' (first | refine soA ?_ | refine sgA ?_ | refine sxA ?_ | refine sbA ?_ | refine fun (Q : Post) hQ => ?_ | refine fun (nb : Nat) => (?_ : WL _ _ _ _ _ _ _ _ _) | (refine WL.guard rfl rfl rfl (fun h => ?_) (fun h => ?_) <;> (try dsimp only at h)))
    refine W.loopK (σ := BdS) ⟨RelI b s c, fun _ => [(0, some (ptrV b))], fun x => x.hs, fun x => x.t.latch.length⟩ ⟨s, hs⟩ ⟨ho, w, m, e, rfl⟩ (by repeat' (first | exact trivial | refine ⟨rfl, ?_⟩)) (keep_self hs) ?_
    rintro ⟨t, hs1⟩ ⟨ho1, w1, m1, e1, h1⟩ Q hLo
    dsimp only at ho1 w1 m1 e1 h1 ⊢
    obtain ⟨a, hP, hT, hM, hN, hU, hS, hK, hL, hA, hI, hD, hE, hR, hV, hC, rfl, k⟩ := ho1
    have hjl := w1.jord.nodup_le w1.jnd w1.jin
    cases hd : dueD t.latch t.now with
    | none =>
      have ht : t = releaseK s := by rw [← h1, release_end hd]
      repeat' (first | refine soA ?_ | refine sgA ?_ | refine sxA ?_ | refine sbA ?_ | refine fun (Q : Post) hQ => ?_ | refine fun (nb : Nat) => (?_ : WL _ _ _ _ _ _ _ _ _) | (refine WL.guard rfl rfl rfl (fun h => ?_) (fun h => ?_) <;> (try dsimp only at h)))
      refine dra [(0, [])] [] ?_
      refine drp 18 0 1 ?_
      refine drp 18 1 3 ?_
      refine drp 18 2 7 ?_
      refine drl 18 3 0 15 ?_
      refine drp 18 4 31 ?_
      refine drp 18 5 63 ?_
      refine drp 18 6 127 ?_
      refine drl 18 7 0 255 ?_
      refine dr1 8 ?_
      refine dre 18 8 511 ?_
      (refine WO.callN Tryz.func99 rfl (by kernel_rfl) rfl (own := [hA]) (by (exact tsA)) (fun G hG hh => lnext_not hd k.hA) ?_; rintro v own' ⟨rfl, rfl⟩)
      refine ⟨piA, ?_⟩
      refine drp 18 9 1023 ?_
      refine drp 18 10 2047 ?_
      refine drp 18 11 4095 ?_
      refine drp 18 12 8191 ?_
      refine drp 18 13 16383 ?_
      refine drp 18 14 32767 ?_
      refine drp 18 15 65535 ?_
      refine drp 18 16 131071 ?_
      refine drp 18 17 262143 ?_
      refine drz ?_
      repeat' (first | refine soA ?_ | refine sgA ?_ | refine sxA ?_ | refine sbA ?_ | refine fun (Q : Post) hQ => ?_ | refine fun (nb : Nat) => (?_ : WL _ _ _ _ _ _ _ _ _) | (refine WL.guard rfl rfl rfl (fun h => ?_) (fun h => ?_) <;> (try dsimp only at h)))
      exact hMt.nx [one b (cells (KM t a) 108), hP, hT, hM, hN, hU, hS, hK, hL, hA, hI, hD, hE, hR, hV, hC] _ _ (ht ▸ ⟨a, hP, hT, hM, hN, hU, hS, hK, hL, hA, hI, hD, hE, hR, hV, hC, rfl, k⟩) (by repeat' (first | exact trivial | refine ⟨rfl, ?_⟩)) (by (exact keA))
    | some x =>
      have hx := dueD_in hd
      have hxi := w1.lin x hx.1.1
      obtain ⟨i, hi⟩ : ∃ i : Nat, x.id = i := ⟨x.id.toNat, by omega⟩
      have htl : a.ts.length = 6 := by rw [← w1.nt, ← k.tasks, List.length_map]
      have hil : i < a.ts.length := by omega
      have hin : i < t.next.length := by have := w1.nn; omega
      have hiu : i < t.used.length := by have := w1.nu; omega
      obtain ⟨tk, htk⟩ : ∃ tk, a.ts[i]? = some tk := ⟨_, List.getElem?_eq_getElem (by simpa using hil)⟩
      have htd : taskD t x.id = tk.pl := by
        unfold taskD; rw [hi, Int.toNat_natCast, ← k.tasks, mapT_get htk]; rfl
      obtain ⟨g, o, eA, g1⟩ := (RowAt.arr (F := F) (hs := [hT]) k.hT (by simp)).elem 4 (fun _ => rfl) (by omega) i tk htk
      obtain ⟨gN, LN, eN, rfl, hNa, hNi, _⟩ := arr_at (f := encI) (sz := 1) (fun _ => rfl) k.hN hin
      obtain ⟨gU, LU, eU, rfl, hUa, hUi, _⟩ := arr_at (f := encI) (sz := 1) (fun _ => rfl) k.hU hiu
      have hJ : newJ t x = jobNewV x.id tk.pl x.mom x.every := by unfold newJ; rw [htd]
      repeat' (first | refine soA ?_ | refine sgA ?_ | refine sxA ?_ | refine sbA ?_ | refine fun (Q : Post) hQ => ?_ | refine fun (nb : Nat) => (?_ : WL _ _ _ _ _ _ _ _ _) | (refine WL.guard rfl rfl rfl (fun h => ?_) (fun h => ?_) <;> (try dsimp only at h)))
      refine dra [(0, [])] [] ?_
      refine drp 18 0 1 ?_
      refine drp 18 1 3 ?_
      refine drp 18 2 7 ?_
      refine drl 18 3 0 15 ?_
      refine drp 18 4 31 ?_
      refine drp 18 5 63 ?_
      refine drp 18 6 127 ?_
      refine drl 18 7 0 255 ?_
      refine dr1 8 ?_
      refine dre 18 8 511 ?_
      (refine WO.callN Tryz.func99 rfl (by kernel_rfl) rfl (own := [hA]) (by (exact tsA)) (fun G hG hh => lnext_due hd k.hA) ?_; rintro v own' ⟨hA1, rfl, rfl, tA⟩)
      refine ⟨piA, ?_⟩
      refine drp 18 9 1023 ?_
      refine drp 18 10 2047 ?_
      refine drp 18 11 4095 ?_
      refine drp 18 12 8191 ?_
      refine drp 18 13 16383 ?_
      refine drp 18 14 32767 ?_
      refine drp 18 15 65535 ?_
      refine drp 18 16 131071 ?_
      refine drp 18 17 262143 ?_
      refine drz ?_
      repeat' (first | ((apply WL.rd; (exact rfl); (exact Rn.indexAddrE i eA rfl rfl hi hil))) | ((apply WL.rd; (exact rfl); (apply Rn.loadS; (exact rfl); (exact (CellsAt.weak g1 (by simp))); (exact rfl)))) | ((refine WL.ex rfl (WO.callN Tryz.func100 rfl (by kernel_rfl) rfl Takes.nil (fun G hG hh => jobNew_any x.id tk x.mom x.every G) ?_); rintro v own' ⟨rfl, rfl⟩)) | (first | refine soA ?_ | refine sgA ?_ | refine sxA ?_ | refine sbA ?_ | refine fun (Q : Post) hQ => ?_ | refine fun (nb : Nat) => (?_ : WL _ _ _ _ _ _ _ _ _) | (refine WL.guard rfl rfl rfl (fun h => ?_) (fun h => ?_) <;> (try dsimp only at h))))
      rw [← hJ]
      generalize hJJ : newJ t x = J
      have hJt : J.task = x.id := by rw [← hJJ]; rfl
      refine dra [(0, []), (6, [])] [] ?_
      refine drp 6 0 1 ?_
      refine drp 6 1 3 ?_
      refine drp 6 2 7 ?_
      refine drl 6 3 0 15 ?_
      refine drl 6 4 1 31 ?_
      refine dr1 5 ?_
      refine dre 6 5 63 ?_
      (refine WO.callN Tryz.func101 rfl (by kernel_rfl) rfl (own := [hS]) (by (exact tsA)) (fun G hG hh => Spec.objW k.hS (fun hs hr => ryput_any a.sb t.jobs J (by omega) G hs hr)) ?_; rintro v own' ⟨hS1, rfl, tS⟩)
      refine ⟨piA, ?_⟩
      refine drz ?_
      have tS1 : Thing (RdyC a.sb (putK t.jobs J)) hS1 := tS.mono fun hs h => h.2.perm (putK_perm _ _)
      repeat' (first | refine soA ?_ | refine sgA ?_ | refine sxA ?_ | refine sbA ?_ | refine fun (Q : Post) hQ => ?_ | refine fun (nb : Nat) => (?_ : WL _ _ _ _ _ _ _ _ _) | (refine WL.guard rfl rfl rfl (fun h => ?_) (fun h => ?_) <;> (try dsimp only at h)))
      refine dra [(0, []), (6, [])] [] ?_
      refine drp 18 0 1 ?_
      refine drp 18 1 3 ?_
      refine drp 18 2 7 ?_
      refine drl 18 3 0 15 ?_
      refine drp 18 4 31 ?_
      refine drp 18 5 63 ?_
      refine drp 18 6 127 ?_
      refine drp 18 7 255 ?_
      refine drl 18 8 0 511 ?_
      refine drp 18 9 1023 ?_
      refine drp 18 10 2047 ?_
      refine drl 18 11 1 4095 ?_
      refine drp 18 12 8191 ?_
      refine drl 18 13 1 16383 ?_
      refine drp 18 14 32767 (hy := by (exact Rn.indexAddrE i eN rfl rfl hi hin)) ?_
      refine dr1 15 ?_
      refine drf 18 15 65535 ?_
      (apply WO.storeC (l := LN) (vs := [.int .i64 J.deadline]) (b := gN) (o := 0 + i * 1); (exact rfl); (exact rfl); (exact rfl); (exact rfl); (exact rfl); (exact rpA); (exact hNi))
      refine ⟨piA, ?_⟩
      refine drp 18 16 131071 (hy := by (exact Rn.indexAddrE i eU rfl rfl hi hiu)) ?_
      refine dr1 17 ?_
      refine drf 18 17 262143 ?_
      (apply WO.storeC (l := LU) (vs := [.int .i64 J.left]) (b := gU) (o := 0 + i * 1); (exact rfl); (exact rfl); (exact rfl); (exact rfl); (exact rfl); (exact rpA); (exact hUi))
      refine ⟨piA, ?_⟩
      refine drz ?_
      have hc2 : cells (KM { t with latch := offT x.id t.latch, jobs := putK t.jobs J, next := t.next.set i J.deadline, used := t.used.set i J.left } a) 108 = cells (KM t a) 108 := by
        unfold KM; dsimp only; rw [List.length_set, List.length_set]
      have ker : KerC b { t with latch := offT x.id t.latch, jobs := putK t.jobs J, next := t.next.set i J.deadline, used := t.used.set i J.left } [one b (cells (KM t a) 108), hP, hT, hM, one gN (cells (splice LN (0 + i * 1) [.int .i64 J.deadline]) 3), one gU (cells (splice LU (0 + i * 1) [.int .i64 J.left]) 3), hS1, hK, hL, hA1, hI, hD, hE, hR, hV, hC] :=
        ⟨a, hP, hT, hM, _, _, hS1, hK, hL, hA1, hI, hD, hE, hR, hV, hC, by rw [hc2]; rfl, { k with hN := hNa J.deadline, hU := hUa J.left, hS := tS1, hA := tA }⟩
      have he1 := KE.len e1 m1
      repeat' (first | ((refine WL.ex0 (WO.callN Tryz.func102 rfl (by kernel_rfl) rfl (by (exact tsA)) (fun G hG hh => tell_any b _ 1 x.id x.mom J.deadline G _ ker (by dsimp only; omega)) ?_); rintro v own' ⟨rfl, hk2⟩)) | ((refine WL.ex rfl (WO.callN Tryz.func102 rfl (by kernel_rfl) rfl (by (exact tsA)) (fun G hG hh => tell_any b _ 1 x.id x.mom J.deadline G _ ker (by dsimp only; omega)) ?_); rintro v own' ⟨rfl, hk2⟩)) | (first | refine soA ?_ | refine sgA ?_ | refine sxA ?_ | refine sbA ?_ | refine fun (Q : Post) hQ => ?_ | refine fun (nb : Nat) => (?_ : WL _ _ _ _ _ _ _ _ _) | (refine WL.guard rfl rfl rfl (fun h => ?_) (fun h => ?_) <;> (try dsimp only at h))))
      have hre : relK t x = tellK { t with latch := offT x.id t.latch, jobs := putK t.jobs J, next := t.next.set i J.deadline, used := t.used.set i J.left } 1 x.id x.mom J.deadline := by
        unfold relK tellK
        rw [hJJ, hi, Int.toNat_natCast]
      refine hLo.nx ⟨relK t x, own'⟩ _ _ ⟨hre ▸ hk2, relK_ok w1 hx.1.1, relK_mom m1, relK_e e1 hx.1.1, by rw [← h1]; exact (release_next hd).symm⟩ (offT_lt hx.1.1) (by repeat' (first | exact trivial | refine ⟨rfl, ?_⟩)) (keep_app own' _)
  · intro hs1 ho1
    dsimp only at ho1 ⊢
    have w1 : KOk (releaseK s) := releaseK_ok w
    have m1 : KMom (releaseK s) := releaseK_mom m
    have e1 : KE (releaseK s) c := releaseK_inv (J := fun s => KE s c) (fun s x h hx _ => relK_e h hx) e
    obtain ⟨s1, es1⟩ : ∃ s1, s1 = releaseK s := ⟨_, rfl⟩
    rw [← es1] at ho1 w1 m1 e1
    repeat' (first | ((refine W.cutK (c := .block 2 _) (σ := List Hp) ⟨fun x => KerC b (expireK s1) x, fun _ => [(0, some (ptrV b))], fun x => x, fun _ => 0⟩ (fun Q' hMt => ?_) ?_)) | (first | refine soA ?_ | refine sgA ?_ | refine sxA ?_ | refine sbA ?_ | refine fun (Q : Post) hQ => ?_ | refine fun (nb : Nat) => (?_ : WL _ _ _ _ _ _ _ _ _) | (refine WL.guard rfl rfl rfl (fun h => ?_) (fun h => ?_) <;> (try dsimp only at h))))
    · skip
      repeat' (first | refine soA ?_ | refine sgA ?_ | refine sxA ?_ | refine sbA ?_ | refine fun (Q : Post) hQ => ?_ | refine fun (nb : Nat) => (?_ : WL _ _ _ _ _ _ _ _ _) | (refine WL.guard rfl rfl rfl (fun h => ?_) (fun h => ?_) <;> (try dsimp only at h)))
      refine W.loopK (σ := BdS) ⟨ExpI b s1 c, fun _ => [(0, some (ptrV b))], fun x => x.hs, fun x => qT x.t.now x.t.timers⟩ ⟨s1, hs1⟩ ⟨ho1, w1, m1, e1, rfl⟩ (by repeat' (first | exact trivial | refine ⟨rfl, ?_⟩)) (keep_self hs1) ?_
      rintro ⟨t, hs2⟩ ⟨ho2, w2, m2, e2, h2⟩ Q hLo
      dsimp only at ho2 w2 m2 e2 h2 ⊢
      obtain ⟨a, hP, hT, hM, hN, hU, hS, hK, hL, hA, hI, hD, hE, hR, hV, hC, rfl, k⟩ := ho2
      have htl := w2.tlen4
      cases hd : dueD t.timers t.now with
      | none =>
        have ht : t = expireK s1 := by rw [← h2, expire_end hd]
        repeat' (first | refine soA ?_ | refine sgA ?_ | refine sxA ?_ | refine sbA ?_ | refine fun (Q : Post) hQ => ?_ | refine fun (nb : Nat) => (?_ : WL _ _ _ _ _ _ _ _ _) | (refine WL.guard rfl rfl rfl (fun h => ?_) (fun h => ?_) <;> (try dsimp only at h)))
        refine dra [(0, [])] [] ?_
        refine drp 16 0 1 ?_
        refine drp 16 1 3 ?_
        refine drp 16 2 7 ?_
        refine drl 16 3 0 15 ?_
        refine drp 16 4 31 ?_
        refine drp 16 5 63 ?_
        refine drp 16 6 127 ?_
        refine drl 16 7 0 255 ?_
        refine dr1 8 ?_
        refine dre 16 8 511 ?_
        (refine WO.callN Tryz.func103 rfl (by kernel_rfl) rfl (own := [hI]) (by (exact tsA)) (fun G hG hh => tdue_not (by omega) hd k.hI) ?_; rintro v own' ⟨rfl, rfl⟩)
        refine ⟨piA, ?_⟩
        refine drp 16 9 1023 ?_
        refine drp 16 10 2047 ?_
        refine drp 16 11 4095 ?_
        refine drp 16 12 8191 ?_
        refine drp 16 13 16383 ?_
        refine drp 16 14 32767 ?_
        refine drp 16 15 65535 ?_
        refine drz ?_
        repeat' (first | refine soA ?_ | refine sgA ?_ | refine sxA ?_ | refine sbA ?_ | refine fun (Q : Post) hQ => ?_ | refine fun (nb : Nat) => (?_ : WL _ _ _ _ _ _ _ _ _) | (refine WL.guard rfl rfl rfl (fun h => ?_) (fun h => ?_) <;> (try dsimp only at h)))
        exact hMt.nx [one b (cells (KM t a) 108), hP, hT, hM, hN, hU, hS, hK, hL, hA, hI, hD, hE, hR, hV, hC] _ _ (ht ▸ ⟨a, hP, hT, hM, hN, hU, hS, hK, hL, hA, hI, hD, hE, hR, hV, hC, rfl, k⟩) (by repeat' (first | exact trivial | refine ⟨rfl, ?_⟩)) (by (exact keA))
      | some x =>
        have hx := dueD_in hd
        have hn := m2.big
        repeat' (first | refine soA ?_ | refine sgA ?_ | refine sxA ?_ | refine sbA ?_ | refine fun (Q : Post) hQ => ?_ | refine fun (nb : Nat) => (?_ : WL _ _ _ _ _ _ _ _ _) | (refine WL.guard rfl rfl rfl (fun h => ?_) (fun h => ?_) <;> (try dsimp only at h)))
        refine dra [(0, [])] [] ?_
        refine drp 16 0 1 ?_
        refine drp 16 1 3 ?_
        refine drp 16 2 7 ?_
        refine drl 16 3 0 15 ?_
        refine drp 16 4 31 ?_
        refine drp 16 5 63 ?_
        refine drp 16 6 127 ?_
        refine drl 16 7 0 255 ?_
        refine dr1 8 ?_
        refine dre 16 8 511 ?_
        (refine WO.callN Tryz.func103 rfl (by kernel_rfl) rfl (own := [hI]) (by (exact tsA)) (fun G hG hh => tdue_due (by omega) hd k.hI) ?_; rintro v own' ⟨hI1, rfl, rfl, tI⟩)
        refine ⟨piA, ?_⟩
        refine drp 16 9 1023 ?_
        refine drp 16 10 2047 ?_
        refine drp 16 11 4095 ?_
        refine drp 16 12 8191 ?_
        refine drp 16 13 16383 ?_
        refine drp 16 14 32767 ?_
        refine drp 16 15 65535 ?_
        refine drz ?_
        have ker : KerC b { t with timers := nextT x t.timers } [one b (cells (KM t a) 108), hP, hT, hM, hN, hU, hS, hK, hL, hA, hI1, hD, hE, hR, hV, hC] :=
          ⟨a, hP, hT, hM, hN, hU, hS, hK, hL, hA, hI1, hD, hE, hR, hV, hC, rfl, { k with hI := tI }⟩
        have he2 := KE.len e2 m2
        repeat' (first | ((refine WL.ex0 (WO.callN Tryz.func102 rfl (by kernel_rfl) rfl (by (exact tsA)) (fun G hG hh => tell_any b _ 4 x.id t.now x.mom G _ ker (by dsimp only; omega)) ?_); rintro v own' ⟨rfl, hk2⟩)) | ((refine WL.ex rfl (WO.callN Tryz.func102 rfl (by kernel_rfl) rfl (by (exact tsA)) (fun G hG hh => tell_any b _ 4 x.id t.now x.mom G _ ker (by dsimp only; omega)) ?_); rintro v own' ⟨rfl, hk2⟩)) | (first | refine soA ?_ | refine sgA ?_ | refine sxA ?_ | refine sbA ?_ | refine fun (Q : Post) hQ => ?_ | refine fun (nb : Nat) => (?_ : WL _ _ _ _ _ _ _ _ _) | (refine WL.guard rfl rfl rfl (fun h => ?_) (fun h => ?_) <;> (try dsimp only at h))))
        exact hLo.nx ⟨expK t x, own'⟩ _ _ ⟨hk2, expK_ok w2 hx.1.1, expK_mom m2 hx.1.1 hx.2, expK_e e2 hx.1.1 hx.2 (by omega), by rw [← h2]; exact (expire_next (by omega) hd).symm⟩ (show qT t.now (nextT x t.timers) < qT t.now t.timers from qT_next hx.1.1 hx.2 (by omega)) (by repeat' (first | exact trivial | refine ⟨rfl, ?_⟩)) (keep_app own' _)
    · intro hs2 ho2
      dsimp only at ho2 ⊢
      have w2 : KOk (expireK s1) := expireK_ok w1
      have m2 : KMom (expireK s1) := expireK_mom m1
      repeat' (first | ((refine WL.ex0 (WO.callN Tryz.func104 rfl (by kernel_rfl) rfl (Takes.self _) (fun G hG hh => kaway_any b (expireK s1) G hs2 ho2 w2 m2) ?_); rintro v own' ⟨rfl, hk2⟩)) | ((refine WL.ex rfl (WO.callN Tryz.func104 rfl (by kernel_rfl) rfl (Takes.self _) (fun G hG hh => kaway_any b (expireK s1) G hs2 ho2 w2 m2) ?_); rintro v own' ⟨rfl, hk2⟩)) | (first | refine soA ?_ | refine sgA ?_ | refine sxA ?_ | refine sbA ?_ | refine fun (Q : Post) hQ => ?_ | refine fun (nb : Nat) => (?_ : WL _ _ _ _ _ _ _ _ _) | (refine WL.guard rfl rfl rfl (fun h => ?_) (fun h => ?_) <;> (try dsimp only at h))))
      (refine seE ?_)
      exact ⟨own', keep_app own' _, rfl, by rw [es1] at hk2; exact hk2⟩
end Go.Proofs.YtflgnpidelkkpaaGreat
