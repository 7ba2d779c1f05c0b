/- part 36 of the proof: contracts of the functions that the law reaches, and plain laws. -/
import Derived.Test.YtflgnpidelkkpaaGreatMq7
import Derived.Test.YtflgnpidelkkpaaGreatMq34
import Derived.Test.YtflgnpidelkkpaaGreatMq35
namespace Go.Proofs.YtflgnpidelkkpaaGreat
set_option maxRecDepth 8000
set_option maxHeartbeats 1000000
open Go.Conc
set_option linter.unusedVariables false
set_option linter.unusedSimpArgs false
theorem idxF_find {ts : List TaskV} (h : (thereT ts).length < ts.length) : ∃ m : Nat, idxF (fun x : TaskV => x.period == 0) ts = m ∧ m < ts.length ∧ idxK (ts.map TaskV.pl) = m ∧ ∃ t, ts[m]? = some t ∧ t.period = 0 := by
  have hex : ∃ x ∈ ts, (x.period == 0) = true := by
    refine Classical.byContradiction fun hn => ?_
    have : thereT ts = ts := by
      unfold thereT
      rw [List.filter_eq_self]
      intro x hx
      cases e : x.period == 0 with
      | false => rfl
      | true => exact absurd ⟨x, hx, e⟩ hn
    rw [this] at h; omega
  cases hf : ts.findIdx? (fun x : TaskV => x.period == 0) with
  | none =>
    obtain ⟨x, hx, e⟩ := hex
    have := List.findIdx?_eq_none_iff.1 hf x hx
    rw [e] at this; cases this
  | some m =>
    obtain ⟨hlt, hp, hmin⟩ := List.findIdx?_eq_some_iff_getElem.1 hf
    refine ⟨m, by unfold idxF; rw [hf], hlt, ?_, ts[m], List.getElem?_eq_getElem hlt, by simpa using hp⟩
    unfold idxK
    rw [List.findIdx_map]
    have := List.findIdx?_eq_some_iff_findIdx_eq.1 hf
    exact this.2
theorem there_len_le (ts : List TaskV) : (thereT ts).length ≤ ts.length := List.length_filter_le _ _
theorem there_new {ts : List TT} : ∀ {m : Nat} {t u : TT}, ts[m]? = some t → t.period = 0 → u.period ≠ 0 → (thereK (ts.set m u)).length = (thereK ts).length + 1 := by
  induction ts with
  | nil => intro m t u h; cases h
  | cons x r ih =>
    intro m t u h hp hu
    cases m with
    | zero =>
      injection h with h; subst h
      have e1 : thereK (u :: r) = u :: thereK r := by unfold thereK; rw [List.filter_cons_of_pos (by simp [hu])]
      have e2 : thereK (x :: r) = thereK r := by unfold thereK; rw [List.filter_cons_of_neg (by simp [hp])]
      rw [List.set_cons_zero, e1, e2, List.length_cons]
    | succ m =>
      have h' : r[m]? = some t := h
      have := ih h' hp hu
      rw [List.set_cons_succ]
      unfold thereK at this ⊢
      rw [List.filter_cons, List.filter_cons]
      split <;> (try simp only [List.length_cons]) <;> omega
theorem arrK_snoc {ts : List TaskV} {t : TaskV} {A : Option Addr} {c : Nat} {h : Hp} (ha : Arr 33 4 (ts ++ [t]).length (ts.flatMap TaskV.enc ++ t.enc) A c h) : Arr 33 4 (ts ++ [t]).length ((ts ++ [t]).flatMap TaskV.enc) A c h := by
  rw [List.flatMap_append, List.flatMap_singleton]; exact ha
theorem X.shutK {n : Nat} {B : World} {F : Hp} {Q : Post} {x : Exit} {env : Env} {hs hs1 r : List Hp} (p : Keep hs (hs1 ++ r)) (h : apartL hs1 → X n B F Q x env (joinL hs1 :: r)) : X n B F Q x env hs := fun a w e o =>
  let ⟨ap, o2⟩ := (p.own o).shutL
  h ap a w e o2
theorem joinL_le : ∀ {l : List Hp}, apartL l → ∀ x ∈ l, x.le (joinL l)
  | h :: t, ap, x, hx => by
    rcases List.mem_cons.1 hx with rfl | hx
    · exact Hp.le_join _ _
    · exact (joinL_le ap.2 x hx).trans (Hp.le_join_r ap.1)
theorem admit_done {b : Nat} {s : Kn} {a : KA} {t : TaskV} {i : Nat} {from_ : Int} {dv : List DevV} {cx cy : Nat} {B1 B2 : Option Addr} {d1 d2 : Nat} {k1 k2 hP hT hM hN hU hS hK hL hA hI hD hE hR hV hC hT1 hN1 hU1 hD1 : Hp} (k : KParts s a hP hT hM hN hU hS hK hL hA hI hD hE hR hV hC) (hsl : dv.length = s.devs.length)
    (aD : Arr 72 2 dv.length (dv.flatMap DevV.enc) a.A5 a.c5 hD1)
    (aT : Arr 33 4 (a.ts.set i ⟨t.period, t.cycles, ⟨B1, t.sec.xs.length, t.sec.xs⟩, ⟨B2, t.devs.xs.length, t.devs.xs⟩⟩).length ((a.ts.set i ⟨t.period, t.cycles, ⟨B1, t.sec.xs.length, t.sec.xs⟩, ⟨B2, t.devs.xs.length, t.devs.xs⟩⟩).flatMap TaskV.enc) a.A1 a.c1 hT1)
    (aN : Arr 3 1 (s.next.set i from_).length ((s.next.set i from_).flatMap encI) a.A2 a.c2 hN1) (aU : Arr 3 1 (s.used.set i t.cycles).length ((s.used.set i t.cycles).flatMap encI) a.A3 a.c3 hU1)
    (aB1 : ArrN t.sec.xs B1 d1 k1) (aB2 : ArrN t.devs.xs B2 d2 k2) (ap : apartL [hM, k1, k2]) (hts : (thereK (s.tasks.set i t.pl)).length = (thereK s.tasks).length + 1) {hCn : Hp} (hCe : hCn = one a.ch (chanO ((thereK s.tasks).length + 1) cx cy)) :
    KerC b { s with tasks := s.tasks.set i t.pl, next := s.next.set i from_, used := s.used.set i t.cycles, devs := dv } [one b (cells (KM s a) 108), hP, hT1, joinL [hM, k1, k2], hN1, hU1, hS, hK, hL, hA, hI, hD1, hE, hR, hV, hCn] := by
  have hc : cells (KM { s with tasks := s.tasks.set i t.pl, next := s.next.set i from_, used := s.used.set i t.cycles, devs := dv } { a with ts := a.ts.set i ⟨t.period, t.cycles, ⟨B1, t.sec.xs.length, t.sec.xs⟩, ⟨B2, t.devs.xs.length, t.devs.xs⟩⟩ }) 108 = cells (KM s a) 108 := by
    unfold KM; dsimp only; rw [List.length_set, List.length_set, List.length_set, hsl]
  have hz : ∀ x ∈ a.ts.set i ⟨t.period, t.cycles, ⟨B1, t.sec.xs.length, t.sec.xs⟩, ⟨B2, t.devs.xs.length, t.devs.xs⟩⟩, x ∈ a.ts ∨ x = ⟨t.period, t.cycles, ⟨B1, t.sec.xs.length, t.sec.xs⟩, ⟨B2, t.devs.xs.length, t.devs.xs⟩⟩ := fun x hx => List.mem_or_eq_of_mem_set hx
  have l0 := joinL_le ap hM (by simp)
  have l1 := joinL_le ap k1 (by simp)
  have l2 := joinL_le ap k2 (by simp)
  exact ⟨{ a with ts := a.ts.set i ⟨t.period, t.cycles, ⟨B1, t.sec.xs.length, t.sec.xs⟩, ⟨B2, t.devs.xs.length, t.devs.xs⟩⟩ }, hP, hT1, joinL [hM, k1, k2], hN1, hU1, hS, hK, hL, hA, hI, hD1, hE, hR, hV, hCn, by rw [hc], { k with
    tasks := by dsimp only; rw [set_pl, k.tasks]; rfl
    hT := aT
    sec := fun x hx => by
      rcases hz x hx with h | rfl
      · exact (k.sec x h).up l0 (by simp)
      · exact aB1.rowX l1
    dev := fun x hx => by
      rcases hz x hx with h | rfl
      · exact (k.dev x h).up l0 (by simp)
      · exact aB2.rowX l2
    hN := aN
    hU := aU
    hD := aD
    hC := ⟨cx, cy, by dsimp only; rw [hts]; exact hCe⟩ }⟩
attribute [local irreducible] W X WL WA WB WG WO Rn Own one splice Arr Spec WQ WH Qn
theorem admitF_any (x : TaskV) (F : Hp) : Spec Tryz.prog 148 [.agg x.enc.toArray] F [] fun v hs => v = .bool (x.period == 0) ∧ hs = [] := by
  refine Spec.enter Tryz.func148 rfl Tryz.ntmps148 rfl fun B => ?_
  repeat' (first | refine soA ?_ | refine sgA ?_ | refine sxA ?_ | refine sbA ?_ | refine fun (Q : Post) hQ => ?_ | refine fun (nb : Nat) => (?_ : WL _ _ _ _ _ _ _ _ _) | (refine WL.guard rfl rfl rfl (fun h => ?_) (fun h => ?_) <;> (try dsimp only at h)))
  ((refine seE ?_); refine ⟨[], Keep.nil, ?_⟩)
  exact ⟨rfl, rfl⟩
set_option maxHeartbeats 16000000 in
theorem admit_any (b : Nat) (s : Kn) (t : TaskV) (F : Hp) (hs : List Hp) (ho : KerC b s hs) (w : KOk s) (m : KMom s) (h1 : RowAt F [] t.sec.A (t.sec.xs.flatMap encI)) (h2 : RowAt F [] t.devs.A (t.devs.xs.flatMap encI)) (f1 : t.sec.xs.length * 8 ≤ 140737488355328) (f2 : t.devs.xs.length * 8 ≤ 140737488355328) :
    Spec Tryz.prog 92 [ptrV b, .agg t.enc.toArray] F hs fun v hs' => v = .tuple #[.int .i64 (admitK s t.pl).2.1, .int .i64 (admitK s t.pl).2.2] ∧ KerC b (admitK s t.pl).1 hs' := by
  have ho2 := ho
  obtain ⟨a, hP, hT, hM, hN, hU, hS, hK, hL, hA, hI, hD, hE, hR, hV, hC, rfl, k⟩ := ho
  refine Spec.enter Tryz.func92 rfl Tryz.ntmps92 rfl fun B => ?_
  have hhl := w.hlen
  have hpl := k.pl
  have htk := k.tasks
  have htl : a.ts.length = 6 := by rw [← w.nt, ← k.tasks, List.length_map]
  have hth : (thereT a.ts).map TaskV.pl = thereK s.tasks := by rw [thereT_pl, k.tasks]
  have hthl : (thereT a.ts).length = (thereK s.tasks).length := by rw [← hth, List.length_map]
  have hth6 := there_len_le a.ts
  cases ht : taskB s.p t.pl with
  | false =>
    have e : admitK s t.pl = (s, 0, 3) := by unfold admitK; rw [if_pos ht]
    have ht2 : taskB a.p.pl t.pl = false := hpl ▸ ht
    have hv : (if taskB a.p.pl t.pl = true then (0 : Int) else 3) = 3 := by rw [ht2]; rfl
    repeat' (first | refine soA ?_ | refine sgA ?_ | refine sxA ?_ | refine sbA ?_ | refine fun (Q : Post) hQ => ?_ | refine fun (nb : Nat) => (?_ : WL _ _ _ _ _ _ _ _ _) | (refine WL.guard rfl rfl rfl (fun h => ?_) (fun h => ?_) <;> (try dsimp only at h)))
    refine dra [(0, []), (3, [])] [] ?_
    refine drp 7 0 1 ?_
    refine drp 7 1 3 ?_
    refine drp 7 2 7 ?_
    refine drl 7 3 0 15 (hy := by (exact Rn.loadS (vs := a.p.enc) rfl (CellsAt.part At.one rfl) rfl)) ?_
    refine drl 7 4 1 31 ?_
    refine dr1 5 ?_
    refine dre 7 5 63 ?_
    (refine WO.callN Tryz.func143 rfl (by kernel_rfl) rfl (by (exact tsA)) (fun G hG hh => hv ▸ tcheck_any a.p t G (h1.up hG (by simp)) (h2.up hG (by simp)) f1 f2) ?_; rintro v own' ⟨rfl, rfl⟩)
    refine ⟨piA, ?_⟩
    refine drp 7 6 127 ?_
    refine drz ?_
    repeat' (first | refine soA ?_ | refine sgA ?_ | refine sxA ?_ | refine sbA ?_ | refine fun (Q : Post) hQ => ?_ | refine fun (nb : Nat) => (?_ : WL _ _ _ _ _ _ _ _ _) | (refine WL.guard rfl rfl rfl (fun h => ?_) (fun h => ?_) <;> (try dsimp only at h)))
    (refine seE ?_)
    exact ⟨[one b (cells (KM s a) 108), hP, hT, hM, hN, hU, hS, hK, hL, hA, hI, hD, hE, hR, hV, hC], (by (exact keA)), by rw [e], by rw [e]; exact ho2⟩
  | true =>
    have hspec := taskB_spec ht
    have ht2 : taskB a.p.pl t.pl = true := hpl ▸ ht
    have hv : (if taskB a.p.pl t.pl = true then (0 : Int) else 3) = 0 := by rw [ht2]; rfl
    repeat' (first | refine soA ?_ | refine sgA ?_ | refine sxA ?_ | refine sbA ?_ | refine fun (Q : Post) hQ => ?_ | refine fun (nb : Nat) => (?_ : WL _ _ _ _ _ _ _ _ _) | (refine WL.guard rfl rfl rfl (fun h => ?_) (fun h => ?_) <;> (try dsimp only at h)))
    refine dra [(0, []), (3, [])] [] ?_
    refine drp 7 0 1 ?_
    refine drp 7 1 3 ?_
    refine drp 7 2 7 ?_
    refine drl 7 3 0 15 (hy := by (exact Rn.loadS (vs := a.p.enc) rfl (CellsAt.part At.one rfl) rfl)) ?_
    refine drl 7 4 1 31 ?_
    refine dr1 5 ?_
    refine dre 7 5 63 ?_
    (refine WO.callN Tryz.func143 rfl (by kernel_rfl) rfl (by (exact tsA)) (fun G hG hh => hv ▸ tcheck_any a.p t G (h1.up hG (by simp)) (h2.up hG (by simp)) f1 f2) ?_; rintro v own' ⟨rfl, rfl⟩)
    refine ⟨piA, ?_⟩
    refine drp 7 6 127 ?_
    refine drz ?_
    by_cases hh0 : s.held = []
    · have hh1 : s.held.length = 0 := by rw [hh0]; rfl
      obtain ⟨cx, cy, rfl⟩ := k.hC
      by_cases hfull : (thereK s.tasks).length < 6
      · have hd1 : decide ((thereK s.tasks).length < 6) = true := decide_eq_true hfull
        repeat' (first | ((refine WL.ex rfl (WO.callN Tryz.func91 rfl (by kernel_rfl) rfl (own := [hL]) (by (exact tsA)) (fun G hG hh => loclistC (by omega) k.hL) ?_); rintro v own' ⟨AL, cL, hLL, rfl, aL, rfl⟩)) | ((apply WL.rd; (exact rfl); (exact ckA))) | ((refine WL.ex rfl (WO.callN Tryz.func144 rfl (by kernel_rfl) rfl (own := [one b (cells (KM s a) 108), one a.ch (chanO (thereK s.tasks).length cx cy)]) (by (exact tsA)) (fun G hG hh => ktake_any b s a (thereK s.tasks).length cx cy G) ?_); rintro v own' ⟨rfl, rfl⟩; rw [hd1, if_pos hfull])) | (first | refine soA ?_ | refine sgA ?_ | refine sxA ?_ | refine sbA ?_ | refine fun (Q : Post) hQ => ?_ | refine fun (nb : Nat) => (?_ : WL _ _ _ _ _ _ _ _ _) | (refine WL.guard rfl rfl rfl (fun h => ?_) (fun h => ?_) <;> (try dsimp only at h))))
        have hle : (thereT a.ts ++ [t]).length = (thereT a.ts).length + 1 := by simp
        have hc : 0 ≤ a.p.crit ∧ a.p.crit < (a.p.levels.xs.length : Nat) := by
          have e1 : a.p.levels.xs = s.p.levels := congrArg PP.levels hpl
          have e2 : a.p.crit = s.p.crit := congrArg PP.crit hpl
          rw [e1, e2]; exact w.crit
        have hfv : loadV a.p.pl ((thereT a.ts ++ [t]).map TaskV.pl) 0 = loadV s.p (thereK s.tasks ++ [t.pl]) 0 := by rw [hpl, List.map_append, hth]; rfl
        have hTX : ∀ (G : Hp) (A' : Option Addr), hT.le G → hM.le G → F.le G → RowAt G [] A' ((thereT a.ts ++ [t]).flatMap TaskV.enc) → TasksX G A' (thereT a.ts ++ [t]) := fun G A' g1 g2 g3 hr => by
          have tx := k.tx w g1 g2
          have hmem : ∀ x ∈ thereT a.ts ++ [t], x ∈ a.ts ∨ x = t := fun x hx => by
            rcases List.mem_append.1 hx with hx | hx
            · exact .inl (List.mem_filter.1 hx).1
            · exact .inr (List.mem_singleton.1 hx)
          refine ⟨⟨hr, fun x hx => ?_, by omega⟩, fun x hx => ?_, fun x hx => ?_, fun x hx => ?_⟩
          · rcases hmem x hx with h | rfl
            · exact tx.at_.sec x h
            · exact h1.up g3 (by simp)
          · rcases hmem x hx with h | rfl
            · exact tx.dev x h
            · exact h2.up g3 (by simp)
          · rcases hmem x hx with h | rfl
            · exact tx.secF x h
            · exact f1
          · rcases hmem x hx with h | rfl
            · exact tx.devF x h
            · exact f2
        cases hfit : decide (loadV s.p (thereK s.tasks ++ [t.pl]) 0 ≤ 4294967296) with
        | false =>
          have hfit2 : decide (loadV a.p.pl ((thereT a.ts ++ [t]).map TaskV.pl) 0 ≤ 4294967296) = false := by rw [hfv]; exact hfit
          have e : admitK s t.pl = (s, 0, 5) := by
            unfold admitK
            rw [if_neg (by rw [ht]; decide), if_neg (by rw [hh0]; simp), if_neg (by omega), if_pos (of_decide_eq_false hfit)]
          refine dra [(0, []), (3, [])] [] ?_
          refine drp 11 0 1 ?_
          refine drp 11 1 3 ?_
          refine drp 11 2 7 ?_
          refine drl 11 3 0 15 (hy := by (exact Rn.loadS (vs := a.p.enc) rfl (CellsAt.part At.one rfl) rfl)) ?_
          refine drp 11 4 31 ?_
          refine drl 11 6 1 95 ?_
          refine dr2 5 7 ?_ ?_
          refine dre 11 5 127 ?_
          (refine WO.callN Tryz.func146 rfl (by kernel_rfl) rfl (own := []) (by (exact tsA)) (fun G hG hh => there_any b s a G (k.kf w (hh (one b (cells (KM s a) 108)) (by repeat (first | exact List.Mem.head _ | apply List.Mem.tail))) (hh hP (by simp)) (hh hT (by simp)) (hh hM (by simp)) (hh hN (by simp)) (hh hU (by simp)))) ?_; rintro v own' ⟨A2, c2, h3, rfl, rfl, ha2⟩)
          refine ⟨piA, ?_⟩
          refine dr1 7 ?_
          refine dre 11 7 255 ?_
          (apply WO.buildSlice; (exact rfl); (exact rfl); (exact fpA); intro nb)
          refine ⟨piA, ?_⟩
          refine dr1 8 ?_
          refine dre 11 8 511 ?_
          (apply WO.append (h := h3) (news := t.enc) (m := 1); (exact rfl); (exact rfl); (exact tkA); (exact ha2); (exact rfl); (decide); (exact rfl); (apply RowAt.cells; (exact atA)); (exact rfl); (omega); (omega); intro A' c' h' ha'; rw [← hle] at ha' ⊢)
          refine ⟨piA, ?_⟩
          refine dr1 9 ?_
          refine dre 11 9 1023 ?_
          (refine WO.callN Tryz.func145 rfl (by kernel_rfl) rfl (own := []) (by (exact tsA)) (fun G hG hh => hfit2 ▸ fits_any a.p A' c' (thereT a.ts ++ [t]) G (k.plat.up (hh hP (by simp))) hc (hTX G A' (hh hT (by simp)) (hh hM (by simp)) hG ((arrK_snoc ha').rowX (hh h' (by simp))))) ?_; rintro v own' ⟨rfl, rfl⟩)
          refine ⟨piA, ?_⟩
          refine drp 11 10 2047 ?_
          refine drz ?_
          rotate_left 1
          refine dre 11 7 223 ?_
          (apply WO.buildSlice; (exact rfl); (exact rfl); (exact fpA); intro nb)
          refine ⟨piA, ?_⟩
          refine dr1 5 ?_
          refine dre 11 5 255 ?_
          (refine WO.callN Tryz.func146 rfl (by kernel_rfl) rfl (own := []) (by (exact tsA)) (fun G hG hh => there_any b s a G (k.kf w (hh (one b (cells (KM s a) 108)) (by repeat (first | exact List.Mem.head _ | apply List.Mem.tail))) (hh hP (by simp)) (hh hT (by simp)) (hh hM (by simp)) (hh hN (by simp)) (hh hU (by simp)))) ?_; rintro v own' ⟨A2, c2, h3, rfl, rfl, ha2⟩)
          refine ⟨piA, ?_⟩
          refine dr1 8 ?_
          refine dre 11 8 511 ?_
          (apply WO.append (h := h3) (news := t.enc) (m := 1); (exact rfl); (exact rfl); (exact tkA); (exact ha2); (exact rfl); (decide); (exact rfl); (apply RowAt.cells; (exact atA)); (exact rfl); (omega); (omega); intro A' c' h' ha'; rw [← hle] at ha' ⊢)
          refine ⟨piA, ?_⟩
          refine dr1 9 ?_
          refine dre 11 9 1023 ?_
          (refine WO.callN Tryz.func145 rfl (by kernel_rfl) rfl (own := []) (by (exact tsA)) (fun G hG hh => hfit2 ▸ fits_any a.p A' c' (thereT a.ts ++ [t]) G (k.plat.up (hh hP (by simp))) hc (hTX G A' (hh hT (by simp)) (hh hM (by simp)) hG ((arrK_snoc ha').rowX (hh h' (by simp))))) ?_; rintro v own' ⟨rfl, rfl⟩)
          refine ⟨piA, ?_⟩
          refine drp 11 10 2047 ?_
          refine drz ?_
          all_goals
            repeat' (first | ((refine W.regionC (id := 9) (show WC _ _ _ _ _ _ [0, 1, 2, 3, 4] _ _ from ?_))) | (first | refine soA ?_ | refine sgA ?_ | refine sxA ?_ | refine sbA ?_ | refine fun (Q : Post) hQ => ?_ | refine fun (nb : Nat) => (?_ : WL _ _ _ _ _ _ _ _ _) | (refine WL.guard rfl rfl rfl (fun h => ?_) (fun h => ?_) <;> (try dsimp only at h))))
            refine WC.rd rfl rfl (Rn.move rfl) ?_
            refine WC.rd rfl rfl (Rn.nilCheck rfl) ?_
            refine WC.rd rfl rfl (Rn.fieldAddr rfl) ?_
            apply WC.rd
            (exact rfl)
            (exact rfl)
            (exact rqA)
            apply WC.recv (c := a.ch) (cap := 6) (s := cx + 1) (r := cy) (buf := Array.replicate ((thereK s.tasks).length + 1) unitV) (z := unitV)
            (exact rfl)
            (exact rfl)
            (exact rfl)
            (intro a0 w0 h2; have hz := run_zero (ZR.eq (P := Tryz.prog) (t := 201)) (w := w0); have hu := run_underlying (UT.eq (P := Tryz.prog) (t := 100)) (w := w0); unfold execOp; simp [h2, Sem.run_bind, hu, hz, rcase])
            (exact rpA)
            (simp)
            refine WC.nil ?_
            rw [unit_pop]
            repeat' (first | refine soA ?_ | refine sgA ?_ | refine sxA ?_ | refine sbA ?_ | refine fun (Q : Post) hQ => ?_ | refine fun (nb : Nat) => (?_ : WL _ _ _ _ _ _ _ _ _) | (refine WL.guard rfl rfl rfl (fun h => ?_) (fun h => ?_) <;> (try dsimp only at h)))
            (refine seE ?_)
            rw [e]
            exact ⟨[one b (cells (KM s a) 108), hP, hT, hM, hN, hU, hS, hK, hL, hA, hI, hD, hE, hR, hV, one a.ch (chanO (thereK s.tasks).length (cx + 1) (cy + 1))], (by (exact keA)), rfl, a, hP, hT, hM, hN, hU, hS, hK, hL, hA, hI, hD, hE, hR, hV, _, rfl, { k with hC := ⟨_, _, rfl⟩ }⟩
        | true =>
          have hfit2 : decide (loadV a.p.pl ((thereT a.ts ++ [t]).map TaskV.pl) 0 ≤ 4294967296) = true := by rw [hfv]; exact hfit
          obtain ⟨i, hix, hil, hik, tz, htz, hpz⟩ := idxF_find (ts := a.ts) (by omega)
          have hik2 : idxK s.tasks = i := by rw [← k.tasks]; exact hik
          have hin : i < s.next.length := by have := w.nn; omega
          have hiu : i < s.used.length := by have := w.nu; omega
          have htz2 : s.tasks[i]? = some tz.pl := by rw [← k.tasks]; exact mapT_get htz
          have hts := there_new htz2 hpz (u := t.pl) (by have := hspec.1; omega)
          have hsl := startV_len s t.devs.xs
          have e : admitK s t.pl = ({ s with tasks := s.tasks.set i t.pl, next := s.next.set i (startV s t.devs.xs).2, used := s.used.set i t.cycles, devs := (startV s t.devs.xs).1 }, (i : Int), 0) := by
            unfold admitK
            rw [if_neg (by rw [ht]; decide), if_neg (by rw [hh0]; simp), if_neg (by omega), if_neg (fun h => h (of_decide_eq_true hfit)), hik2]; rfl
          obtain ⟨gT, LT, eT, rfl, hTa, hTi, _⟩ := arr_at (f := TaskV.enc) (sz := 4) TaskV.enc_len k.hT hil
          obtain ⟨gN, LN, eN, rfl, hNa, hNi, _⟩ := arr_at (f := encI) (sz := 1) (fun _ => rfl) k.hN hin
          obtain ⟨gU, LU, eU, rfl, hUa, hUi, _⟩ := arr_at (f := encI) (sz := 1) (fun _ => rfl) k.hU hiu
          generalize hhT : one gT (cells LT 33) = hT at k hTX ho2 ⊢
          generalize hhN : one gN (cells LN 3) = hN at k ho2 ⊢
          generalize hhU : one gU (cells LU 3) = hU at k ho2 ⊢
          refine dra [(0, []), (3, [])] [] ?_
          refine drp 11 0 1 ?_
          refine drp 11 1 3 ?_
          refine drp 11 2 7 ?_
          refine drl 11 3 0 15 (hy := by (exact Rn.loadS (vs := a.p.enc) rfl (CellsAt.part At.one rfl) rfl)) ?_
          refine drp 11 4 31 ?_
          refine drl 11 6 1 95 ?_
          refine dr2 5 7 ?_ ?_
          refine dre 11 5 127 ?_
          (refine WO.callN Tryz.func146 rfl (by kernel_rfl) rfl (own := []) (by (exact tsA)) (fun G hG hh => there_any b s a G (k.kf w (hh (one b (cells (KM s a) 108)) (by repeat (first | exact List.Mem.head _ | apply List.Mem.tail))) (hh hP (by simp)) (hh hT (by simp)) (hh hM (by simp)) (hh hN (by simp)) (hh hU (by simp)))) ?_; rintro v own' ⟨A2, c2, h3, rfl, rfl, ha2⟩)
          refine ⟨piA, ?_⟩
          refine dr1 7 ?_
          refine dre 11 7 255 ?_
          (apply WO.buildSlice; (exact rfl); (exact rfl); (exact fpA); intro nb)
          refine ⟨piA, ?_⟩
          refine dr1 8 ?_
          refine dre 11 8 511 ?_
          (apply WO.append (h := h3) (news := t.enc) (m := 1); (exact rfl); (exact rfl); (exact tkA); (exact ha2); (exact rfl); (decide); (exact rfl); (apply RowAt.cells; (exact atA)); (exact rfl); (omega); (omega); intro A' c' h' ha'; rw [← hle] at ha' ⊢)
          refine ⟨piA, ?_⟩
          refine dr1 9 ?_
          refine dre 11 9 1023 ?_
          (refine WO.callN Tryz.func145 rfl (by kernel_rfl) rfl (own := []) (by (exact tsA)) (fun G hG hh => hfit2 ▸ fits_any a.p A' c' (thereT a.ts ++ [t]) G (k.plat.up (hh hP (by simp))) hc (hTX G A' (hh hT (by simp)) (hh hM (by simp)) hG ((arrK_snoc ha').rowX (hh h' (by simp))))) ?_; rintro v own' ⟨rfl, rfl⟩)
          refine ⟨piA, ?_⟩
          refine drp 11 10 2047 ?_
          refine drz ?_
          rotate_left 1
          refine dre 11 7 223 ?_
          (apply WO.buildSlice; (exact rfl); (exact rfl); (exact fpA); intro nb)
          refine ⟨piA, ?_⟩
          refine dr1 5 ?_
          refine dre 11 5 255 ?_
          (refine WO.callN Tryz.func146 rfl (by kernel_rfl) rfl (own := []) (by (exact tsA)) (fun G hG hh => there_any b s a G (k.kf w (hh (one b (cells (KM s a) 108)) (by repeat (first | exact List.Mem.head _ | apply List.Mem.tail))) (hh hP (by simp)) (hh hT (by simp)) (hh hM (by simp)) (hh hN (by simp)) (hh hU (by simp)))) ?_; rintro v own' ⟨A2, c2, h3, rfl, rfl, ha2⟩)
          refine ⟨piA, ?_⟩
          refine dr1 8 ?_
          refine dre 11 8 511 ?_
          (apply WO.append (h := h3) (news := t.enc) (m := 1); (exact rfl); (exact rfl); (exact tkA); (exact ha2); (exact rfl); (decide); (exact rfl); (apply RowAt.cells; (exact atA)); (exact rfl); (omega); (omega); intro A' c' h' ha'; rw [← hle] at ha' ⊢)
          refine ⟨piA, ?_⟩
          refine dr1 9 ?_
          refine dre 11 9 1023 ?_
          (refine WO.callN Tryz.func145 rfl (by kernel_rfl) rfl (own := []) (by (exact tsA)) (fun G hG hh => hfit2 ▸ fits_any a.p A' c' (thereT a.ts ++ [t]) G (k.plat.up (hh hP (by simp))) hc (hTX G A' (hh hT (by simp)) (hh hM (by simp)) hG ((arrK_snoc ha').rowX (hh h' (by simp))))) ?_; rintro v own' ⟨rfl, rfl⟩)
          refine ⟨piA, ?_⟩
          refine drp 11 10 2047 ?_
          refine drz ?_
          all_goals
            repeat' (first | ((refine WL.ex rfl (WO.callN Tryz.func147 rfl (by kernel_rfl) rfl (own := []) (by (exact tsA)) (fun G hG hh => hix ▸ indexK_any Tryz.func148 rfl (by kernel_rfl) [] (fun x : TaskV => x.period == 0) a.A1 a.c1 a.ts G (k.hT.rowX (hh hT (by simp))) (by omega) (fun G' g' x => admitF_any x G')) ?_); rintro v own' ⟨rfl, rfl⟩)) | ((refine WL.ex rfl (WO.callN Tryz.func149 rfl (by kernel_rfl) rfl (own := [one b (cells (KM s a) 108), hP, hT, hM, hN, hU, hS, hK, hL, hA, hI, hD, hE, hR, hV]) (by (exact tsA)) (fun G hG hh => kstart_any b s t G a hP hT hM hN hU hS hK hL hA hI hD hE hR hV (one a.ch (chanO (thereK s.tasks).length cx cy)) k w m (h2.up hG (by simp)) (fun d hd => risB_in hspec.2.2.2 d hd) f2) ?_); rintro v own' ⟨rfl, hD1, rfl, aD1⟩)) | (first | refine soA ?_ | refine sgA ?_ | refine sxA ?_ | refine sbA ?_ | refine fun (Q : Post) hQ => ?_ | refine fun (nb : Nat) => (?_ : WL _ _ _ _ _ _ _ _ _) | (refine WL.guard rfl rfl rfl (fun h => ?_) (fun h => ?_) <;> (try dsimp only at h))))
            rw [← hhT, ← hhN, ← hhU]
            refine dra [(0, []), (3, [])] [] ?_
            refine drp 26 0 1 ?_
            refine drp 26 1 3 ?_
            refine drp 26 2 7 ?_
            refine drl 26 3 0 15 ?_
            refine drp 26 4 31 ?_
            refine drp 26 5 63 ?_
            refine drp 26 6 127 ?_
            refine drp 26 7 255 ?_
            refine drl 26 8 0 511 ?_
            refine drp 26 9 1023 ?_
            refine drp 26 10 2047 ?_
            refine drp 26 11 4095 ?_
            refine drp 26 12 8191 ?_
            refine drl 26 13 0 16383 ?_
            refine drp 26 14 32767 ?_
            refine drl 26 15 1 65535 ?_
            refine drp 26 17 196607 ?_
            refine drp 26 18 458751 ?_
            refine drl 26 19 1 983039 ?_
            refine dr1 16 ?_
            refine dre 26 16 1048575 ?_
            (refine WO.callN Tryz.func86 rfl (by kernel_rfl) rfl (own := []) (by (exact tsA)) (fun G hG hh => ownE_any t G (h1.up hG (by simp)) (h2.up hG (by simp)) f1 f2) ?_; rintro v own' ⟨B1, d1, k1, B2, d2, k2, rfl, rfl, aB1, aB2⟩)
            refine ⟨piA, ?_⟩
            refine drp 26 20 2097151 (hy := by (exact Rn.indexAddrE i eT rfl rfl rfl hil)) ?_
            refine dr1 21 ?_
            refine drf 26 21 4194303 ?_
            (apply WO.storeC (l := LT) (vs := (⟨t.period, t.cycles, ⟨B1, t.sec.xs.length, t.sec.xs⟩, ⟨B2, t.devs.xs.length, t.devs.xs⟩⟩ : TaskV).enc) (b := gT) (o := 0 + i * 4); (exact rfl); (exact rfl); (exact rfl); (exact rfl); (exact rfl); (exact rpA); (exact hTi))
            refine ⟨piA, ?_⟩
            refine drp 26 22 8388607 (hy := by (exact Rn.indexAddrE i eN rfl rfl rfl hin)) ?_
            refine dr1 23 ?_
            refine drf 26 23 16777215 ?_
            (apply WO.storeC (l := LN) (vs := [.int .i64 (startV s t.devs.xs).2]) (b := gN) (o := 0 + i * 1); (exact rfl); (exact rfl); (exact rfl); (exact rfl); (exact rfl); (exact rpA); (exact hNi))
            refine ⟨piA, ?_⟩
            refine drp 26 24 33554431 (hy := by (exact Rn.indexAddrE i eU rfl rfl rfl hiu)) ?_
            refine dr1 25 ?_
            refine drf 26 25 67108863 ?_
            (apply WO.storeC (l := LU) (vs := [.int .i64 t.cycles]) (b := gU) (o := 0 + i * 1); (exact rfl); (exact rfl); (exact rfl); (exact rfl); (exact rfl); (exact rpA); (exact hUi))
            refine ⟨piA, ?_⟩
            refine drz ?_
            all_goals
              repeat' (first | refine soA ?_ | refine sgA ?_ | refine sxA ?_ | refine sbA ?_ | refine fun (Q : Post) hQ => ?_ | refine fun (nb : Nat) => (?_ : WL _ _ _ _ _ _ _ _ _) | (refine WL.guard rfl rfl rfl (fun h => ?_) (fun h => ?_) <;> (try dsimp only at h)))
              refine X.shutK (hs1 := [hM, k1, k2]) (r := [one b (cells (KM s a) 108), hP, one gT (cells (splice LT (0 + i * 4) (⟨t.period, t.cycles, ⟨B1, t.sec.xs.length, t.sec.xs⟩, ⟨B2, t.devs.xs.length, t.devs.xs⟩⟩ : TaskV).enc) 33), one gN (cells (splice LN (0 + i * 1) [.int .i64 (startV s t.devs.xs).2]) 3), one gU (cells (splice LU (0 + i * 1) [.int .i64 t.cycles]) 3), hS, hK, hL, hA, hI, hD1, hE, hR, hV, one a.ch (chanO ((thereK s.tasks).length + 1) (cx + 1) cy)]) (by (exact keA)) fun ap => ?_
              (refine seE ?_)
              rw [e]
              refine ⟨[one b (cells (KM s a) 108), hP, one gT (cells (splice LT (0 + i * 4) (⟨t.period, t.cycles, ⟨B1, t.sec.xs.length, t.sec.xs⟩, ⟨B2, t.devs.xs.length, t.devs.xs⟩⟩ : TaskV).enc) 33), joinL [hM, k1, k2], one gN (cells (splice LN (0 + i * 1) [.int .i64 (startV s t.devs.xs).2]) 3), one gU (cells (splice LU (0 + i * 1) [.int .i64 t.cycles]) 3), hS, hK, hL, hA, hI, hD1, hE, hR, hV, one a.ch (chanO ((thereK s.tasks).length + 1) (cx + 1) cy)], (by (exact keA)), rfl, ?_⟩
              exact admit_done k hsl aD1 (hTa _) (hNa _) (hUa _) aB1 aB2 ap hts rfl
      · have hd1 : decide ((thereK s.tasks).length < 6) = false := decide_eq_false hfull
        have e : admitK s t.pl = (s, 0, 4) := by
          unfold admitK
          rw [if_neg (by rw [ht]; decide), if_neg (by rw [hh0]; simp), if_pos (by omega)]
        repeat' (first | ((refine WL.ex rfl (WO.callN Tryz.func91 rfl (by kernel_rfl) rfl (own := [hL]) (by (exact tsA)) (fun G hG hh => loclistC (by omega) k.hL) ?_); rintro v own' ⟨AL, cL, hLL, rfl, aL, rfl⟩)) | ((apply WL.rd; (exact rfl); (exact ckA))) | ((refine WL.ex rfl (WO.callN Tryz.func144 rfl (by kernel_rfl) rfl (own := [one b (cells (KM s a) 108), one a.ch (chanO (thereK s.tasks).length cx cy)]) (by (exact tsA)) (fun G hG hh => ktake_any b s a (thereK s.tasks).length cx cy G) ?_); rintro v own' ⟨rfl, rfl⟩; rw [hd1, if_neg hfull])) | (first | refine soA ?_ | refine sgA ?_ | refine sxA ?_ | refine sbA ?_ | refine fun (Q : Post) hQ => ?_ | refine fun (nb : Nat) => (?_ : WL _ _ _ _ _ _ _ _ _) | (refine WL.guard rfl rfl rfl (fun h => ?_) (fun h => ?_) <;> (try dsimp only at h))))
        (refine seE ?_)
        exact ⟨[one b (cells (KM s a) 108), hP, hT, hM, hN, hU, hS, hK, hL, hA, hI, hD, hE, hR, hV, one a.ch (chanO (thereK s.tasks).length cx cy)], (by (exact keA)), by rw [e], by rw [e]; exact ho2⟩
    · have hh1 : 0 < s.held.length := by cases h : s.held with | nil => exact absurd h hh0 | cons _ _ => simp
      have e : admitK s t.pl = (s, 0, 8) := by unfold admitK; rw [if_neg (by rw [ht]; decide), if_pos hh0]
      repeat' (first | ((refine WL.ex rfl (WO.callN Tryz.func91 rfl (by kernel_rfl) rfl (own := [hL]) (by (exact tsA)) (fun G hG hh => loclistC (by omega) k.hL) ?_); rintro v own' ⟨AL, cL, hLL, rfl, aL, rfl⟩)) | ((apply WL.rd; (exact rfl); (exact ckA))) | (first | refine soA ?_ | refine sgA ?_ | refine sxA ?_ | refine sbA ?_ | refine fun (Q : Post) hQ => ?_ | refine fun (nb : Nat) => (?_ : WL _ _ _ _ _ _ _ _ _) | (refine WL.guard rfl rfl rfl (fun h => ?_) (fun h => ?_) <;> (try dsimp only at h))))
      (refine seE ?_)
      exact ⟨[one b (cells (KM s a) 108), hP, hT, hM, hN, hU, hS, hK, hL, hA, hI, hD, hE, hR, hV, hC], (by (exact keA)), by rw [e], by rw [e]; exact ho2⟩
end Go.Proofs.YtflgnpidelkkpaaGreat
