/- part 27 of the proof: contracts of the functions that the law reaches, and plain laws. -/
import Derived.Test.YtflgnpidelkkpaaGreatMq26
import Derived.Test.YtflgnpidelkkpaaGreatMq7
namespace Go.Proofs.YtflgnpidelkkpaaGreat
set_option maxRecDepth 8000
set_option maxHeartbeats 1000000
set_option linter.unusedVariables false
set_option linter.unusedSimpArgs false
def befB (x y : JobV) : Bool := decide (x.deadline < y.deadline) || (decide (x.deadline = y.deadline) && decide (x.task < y.task))
theorem befB_iff (x y : JobV) : befB x y = true ↔ befJ x y := by unfold befB befJ; simp
def putK (l : List JobV) (j : JobV) : List JobV := (offJ j.task l).filter (fun x => befB x j) ++ j :: (offJ j.task l).filter (fun x => !befB x j)
theorem putK_perm (l : List JobV) (j : JobV) : (j :: offJ j.task l).Perm (putK l j) :=
  ((List.filter_append_perm (fun x => befB x j) (offJ j.task l)).symm.cons j).trans List.perm_middle.symm
theorem putK_ord {l : List JobV} {j : JobV} (h : OrdJ l) : OrdJ (putK l j) := by
  have ho : OrdJ (offJ j.task l) := h.off j.task
  have hne : ∀ x ∈ offJ j.task l, x.task ≠ j.task := fun x hx => by have := (List.mem_filter.1 hx).2; simpa using this
  unfold putK OrdJ
  rw [List.pairwise_append]
  refine ⟨List.Pairwise.filter _ ho, List.pairwise_cons.2 ⟨fun y hy => ?_, List.Pairwise.filter _ ho⟩, fun x hx y hy => ?_⟩
  · obtain ⟨h1, h2⟩ := List.mem_filter.1 hy
    have h3 : ¬ befJ y j := fun k => by rw [(befB_iff y j).2 k] at h2; cases h2
    exact h3 |> fun h3 => befJ.tot h3 (hne y h1)
  · obtain ⟨h1, h2⟩ := List.mem_filter.1 hx
    have h3 : befJ x j := (befB_iff x j).1 h2
    rcases List.mem_cons.1 hy with rfl | hy
    · exact h3
    · obtain ⟨h4, h5⟩ := List.mem_filter.1 hy
      have h6 : ¬ befJ y j := fun k => by rw [(befB_iff y j).2 k] at h5; cases h5
      exact h3.tr (befJ.tot h6 (hne y h4))
theorem putK_mem {l : List JobV} {j x : JobV} : x ∈ putK l j ↔ x = j ∨ (x ∈ l ∧ x.task ≠ j.task) := by
  rw [← (putK_perm l j).mem_iff, List.mem_cons]
  unfold offJ
  rw [List.mem_filter]
  simp
theorem putK_nd {l : List JobV} {j : JobV} (h : (l.map (·.task)).Nodup) : ((putK l j).map (·.task)).Nodup := by
  rw [← ((putK_perm l j).map (·.task)).nodup_iff, List.map_cons, List.nodup_cons]
  refine ⟨fun hm => ?_, nd_off h j.task⟩
  obtain ⟨x, hx, e⟩ := List.mem_map.1 hm
  have := (List.mem_filter.1 hx).2
  simp [e] at this
def startK (s : Kn) (j : JobV) : Kn := if j.started = true then s else { s with jobs := putK s.jobs { j with started := true }, stack := s.stack ++ [j.task] }
def readyK (s : Kn) (j : JobV) : Kn := { startK s j with ended := false }
def speedK (s : Kn) (j : JobV) : Int := fastV s.p s.policy (staticK s) j.left (leastV s.p s.tasks s.next s.jobs s.held s.now j.deadline) s.level
def chooseK (s : Kn) (j : JobV) : Kn × Bool :=
  if speedK (readyK s j) j = (readyK s j).level then (readyK s j, false) else (didK { readyK s j with level := speedK (readyK s j) j } 3 s.p.switch (speedK (readyK s j) j) 0 0, true)
theorem unst_off_le (t : Int) (l : List JobV) : unst (offJ t l) ≤ unst l := by
  unfold unst offJ
  rw [List.filter_filter, ← List.countP_eq_length_filter, ← List.countP_eq_length_filter]
  exact List.countP_mono_left fun x _ h => by simp only [Bool.and_eq_true] at h; exact h.1
theorem unst_off_lt {l : List JobV} {j : JobV} (hj : j ∈ l) (hs : j.started = false) : unst (offJ j.task l) + 1 ≤ unst l := by
  induction l with
  | nil => cases hj
  | cons x t ih =>
    rcases List.mem_cons.1 hj with rfl | hj
    · have h1 : offJ j.task (j :: t) = offJ j.task t := by unfold offJ; rw [List.filter_cons_of_neg (by simp)]
      have h2 : unst (j :: t) = unst t + 1 := by unfold unst; rw [List.filter_cons_of_pos (by simp [hs]), List.length_cons]
      rw [h1, h2]; exact Nat.succ_le_succ (unst_off_le _ _)
    · have h3 := ih hj
      by_cases h4 : x.task = j.task
      · have h1 : offJ j.task (x :: t) = offJ j.task t := by unfold offJ; rw [List.filter_cons_of_neg (by simp [h4])]
        have h2 : unst t ≤ unst (x :: t) := by unfold unst; rw [List.filter_cons]; split <;> simp
        rw [h1]; omega
      · have h1 : offJ j.task (x :: t) = x :: offJ j.task t := by unfold offJ; rw [List.filter_cons_of_pos (by simp [h4])]
        rw [h1]
        unfold unst at *
        rw [List.filter_cons, List.filter_cons]
        split
        · simp only [List.length_cons]; omega
        · exact h3
theorem unst_perm {l l' : List JobV} (h : l.Perm l') : unst l = unst l' := (h.filter _).length_eq
theorem unst_put (l : List JobV) (j : JobV) : unst (putK l j) = unst (offJ j.task l) + (if j.started = true then 0 else 1) := by
  rw [← unst_perm (putK_perm l j)]
  unfold unst
  cases h : j.started <;> simp [h]
theorem startK_ok {s : Kn} {j : JobV} (w : KOk s) (hj : j ∈ s.jobs) : KOk (startK s j) := by
  unfold startK
  split
  · exact w
  · next hs =>
    exact { w with
      stq := by
        have h1 := unst_off_lt hj (by simpa using hs)
        have h2 : unst (putK s.jobs { j with started := true }) = unst (offJ j.task s.jobs) := by rw [unst_put]; rfl
        have h3 := w.stq
        show (s.stack ++ [j.task]).length + unst (putK s.jobs { j with started := true }) + s.latch.length ≤ _
        rw [h2, List.length_append, List.length_singleton]; omega
      jin := fun x hx => by
        rcases putK_mem.1 hx with rfl | ⟨h, _⟩
        · exact w.jin j hj
        · exact w.jin x h
      jord := putK_ord w.jord
      jnd := putK_nd w.jnd
      sst := fun x hx => by
        rcases List.mem_append.1 hx with hx | hx
        · obtain ⟨j', h1, h2⟩ := w.sst x hx
          by_cases hne : j'.task = j.task
          · exact ⟨_, putK_mem.2 (.inl rfl), hne ▸ h2⟩
          · exact ⟨j', putK_mem.2 (.inr ⟨h1, hne⟩), h2⟩
        · rw [List.mem_singleton] at hx
          subst hx
          exact ⟨_, putK_mem.2 (.inl rfl), rfl⟩ }
theorem readyK_ok {s : Kn} {j : JobV} (w : KOk s) (hj : j ∈ s.jobs) : KOk (readyK s j) := { startK_ok w hj with }
end Go.Proofs.YtflgnpidelkkpaaGreat
namespace Go.Proofs.YtflgnpidelkkpaaGreat
set_option maxRecDepth 8000
set_option maxHeartbeats 1000000
set_option linter.unusedVariables false
set_option linter.unusedSimpArgs false
theorem OrdJ.jobs_le {s : Kn} (w : KOk s) : s.jobs.length ≤ 6 := w.jord.nodup_le w.jnd w.jin
attribute [local irreducible] W X WL WA WB WG WO Rn Own one splice Arr Spec WQ WH Qn
theorem loclistC {b : Nat} {L : List HeldV} {h0 : Hp} (hl : L.length * 24 ≤ 140737488355328) {F : Hp} (ho : Thing (LockC b L) h0) : Spec Tryz.prog 91 [ptrV b] F [h0] fun v hs' => ∃ A c h, v = .slice A L.length L.length ∧ ArrL L A c h ∧ hs' = [h0, h] :=
  (Spec.objK (r := []) (K := fun v new => ∃ A c h, v = .slice A L.length L.length ∧ ArrL L A c h ∧ new = [h]) ho fun hs hr => by
    rw [List.append_nil]
    exact (list_any b L F hs hr hl).mono fun v hs' ⟨A, c, h, e1, e2, e3⟩ => ⟨[h], ⟨A, c, h, e1, e3, rfl⟩, by rw [e2]; exact List.perm_append_comm (l₁ := [h]) (l₂ := hs)⟩).mono fun v hs' ⟨new, ⟨A, c, h, e1, e2, e3⟩, e4⟩ => ⟨A, c, h, e1, e2, by rw [e4, e3]⟩
theorem KG.sv {F : Hp} {s : Kn} {a : KA} (h : KG F s a) (w : KOk s) {AJ AL : Option Addr} {cJ cL : Nat} (hJ : RowAt F [] AJ (s.jobs.flatMap JobV.enc)) (hL : RowAt F [] AL (s.held.flatMap HeldV.enc)) : SVok F ⟨a.p, a.A1, a.c1, a.ts, a.A2, a.c2, s.next, AJ, cJ, s.jobs, AL, cL, s.held, s.now⟩ where
  plat := h.plat
  crit := h.crit w
  lev := h.lev4 w
  tasks := h.tx
  next := h.nx
  nlen := by have := h.tlen w; have := w.nn; show s.next.length = a.ts.length; omega
  jobs := hJ
  held := hL
  hin := fun x hx => by have := w.hin x hx; have := h.tlen w; show 0 ≤ x.task ∧ x.task < (a.ts.length : Nat); omega
  jfit := by have := OrdJ.jobs_le w; show s.jobs.length * 48 ≤ _; omega
  hfit := by have := w.hlen; show s.held.length * 24 ≤ _; omega
theorem KG.least {F : Hp} {s : Kn} {a : KA} (h : KG F s a) (w : KOk s) {AJ AL : Option Addr} {cJ cL : Nat} (first : Int) (hJ : RowAt F [] AJ (s.jobs.flatMap JobV.enc)) (hL : RowAt F [] AL (s.held.flatMap HeldV.enc)) : Spec Tryz.prog 273 [.agg a.p.enc.toArray, .slice a.A1 a.ts.length a.c1, .slice a.A2 s.next.length a.c2, .slice AJ s.jobs.length cJ, .slice AL s.held.length cL, .int .i64 s.now, .int .i64 first] F [] fun v hs => v = .int .i64 (leastV s.p s.tasks s.next s.jobs s.held s.now first) ∧ hs = [] := by
  have k := least_any _ first F (h.sv w (cJ := cJ) (cL := cL) hJ hL)
  dsimp only at k
  rwa [h.pl, h.tasks] at k
theorem KG.gov {F : Hp} {s : Kn} {a : KA} (h : KG F s a) (w : KOk s) (policy static left slack level : Int) : Spec Tryz.prog 274 [.agg a.p.enc.toArray, .int .i64 policy, .int .i64 static, .int .i64 left, .int .i64 slack, .int .i64 level] F [] fun v hs => v = .int .i64 (fastV s.p policy static left slack level) ∧ hs = [] := by
  have k := gchoose_any a.p policy static left slack level F h.plat (h.crit w) (h.lev4 w)
  rwa [h.pl] at k
set_option maxHeartbeats 8000000 in
theorem kchoose_any (b : Nat) (s : Kn) (j : JobV) (F : Hp) (hs : List Hp) (ho : KerC b s hs) (w : KOk s) (hj : j ∈ s.jobs) (hf : (s.trace.length + 1) * 48 ≤ 140737488355328) : Spec Tryz.prog 245 [ptrV b, .agg j.enc.toArray] F hs fun v hs' => v = .bool (chooseK s j).2 ∧ KerC b (chooseK s j).1 hs' := by
  have ho2 := ho
  have w2 := startK_ok w hj
  have htr : (startK s j).trace = s.trace := by unfold startK; split <;> rfl
  obtain ⟨a, hP, hT, hM, hN, hU, hS, hK, hL, hA, hI, hD, hE, hR, hV, hC, rfl, k⟩ := ho
  refine Spec.enter Tryz.func245 rfl Tryz.ntmps245 rfl fun B => ?_
  have hjl := OrdJ.jobs_le w
  have hst := w.stk
  repeat' (first | ((refine W.cutK (c := .seq (.region 1 _ _) _) (σ := List Hp) ⟨fun x => KerC b (startK s j) x, fun _ => [(0, some (ptrV b)), (3, some (.pointer (some ⟨nb, 0, none⟩)))], fun x => one nb (cells ({ j with started := true } : JobV).enc 142) :: x, fun _ => 0⟩ (fun Q' hMt => ?_) ?_)) | (first | refine soA ?_ | refine sgA ?_ | refine sxA ?_ | refine sbA ?_ | refine fun (Q : Post) hQ => ?_ | refine fun (nb : Nat) => (?_ : WL _ _ _ _ _ _ _ _ _) | (refine WL.guard rfl rfl rfl (fun h => ?_) (fun h => ?_) <;> (try dsimp only at h))))
  · cases hjs : j.started with
    | true =>
      have e1 : startK s j = s := by unfold startK; rw [if_pos hjs]
      have e2 : ({ j with started := true } : JobV) = j := by cases j; subst hjs; rfl
      rw [e1, e2] at hMt
      repeat' (first | refine soA ?_ | refine sgA ?_ | refine sxA ?_ | refine sbA ?_ | refine fun (Q : Post) hQ => ?_ | refine fun (nb : Nat) => (?_ : WL _ _ _ _ _ _ _ _ _) | (refine WL.guard rfl rfl rfl (fun h => ?_) (fun h => ?_) <;> (try dsimp only at h)))
      exact hMt.nx _ _ _ ho2 (by repeat' (first | exact trivial | refine ⟨rfl, ?_⟩)) (by (exact keA))
    | false =>
      have e1 : startK s j = { s with jobs := putK s.jobs { j with started := true }, stack := s.stack ++ [j.task] } := by unfold startK; rw [if_neg (by rw [hjs]; decide)]
      rw [e1] at hMt
      have hl : (s.stack ++ [j.task]).length = s.stack.length + 1 := by simp
      repeat' (first | refine soA ?_ | refine sgA ?_ | refine sxA ?_ | refine sbA ?_ | refine fun (Q : Post) hQ => ?_ | refine fun (nb : Nat) => (?_ : WL _ _ _ _ _ _ _ _ _) | (refine WL.guard rfl rfl rfl (fun h => ?_) (fun h => ?_) <;> (try dsimp only at h)))
      refine dra [(0, []), (3, [])] [] ?_
      refine drp 6 0 1 ?_
      refine drp 6 1 3 ?_
      refine drp 6 2 7 ?_
      refine drl 6 3 0 15 ?_
      refine drl 6 4 1 31 ?_
      refine dr1 5 ?_
      refine dre 6 5 63 ?_
      (refine WO.callN Tryz.func101 rfl (by kernel_rfl) rfl (own := [hS]) (by (exact tsA)) (fun G hG hh => Spec.objW k.hS (fun hs hr => ryput_any a.sb s.jobs { j with started := true } (by omega) G hs hr)) ?_; rintro v own' ⟨hS1, rfl, tS⟩)
      refine ⟨piA, ?_⟩
      refine drz ?_
      have tS1 : Thing (RdyC a.sb (putK s.jobs { j with started := true })) hS1 := tS.mono fun hs h => h.2.perm (putK_perm _ _)
      repeat' (first | refine soA ?_ | refine sgA ?_ | refine sxA ?_ | refine sbA ?_ | refine fun (Q : Post) hQ => ?_ | refine fun (nb : Nat) => (?_ : WL _ _ _ _ _ _ _ _ _) | (refine WL.guard rfl rfl rfl (fun h => ?_) (fun h => ?_) <;> (try dsimp only at h)))
      refine dra [(0, [11]), (3, [])] [] ?_
      refine drp 12 0 1 ?_
      refine drp 12 1 3 ?_
      refine drp 12 2 7 ?_
      refine drp 12 3 15 ?_
      refine drl 12 4 0 31 ?_
      refine drp 12 5 63 ?_
      refine drl 12 6 1 127 ?_
      refine dr1 7 ?_
      refine dre 12 7 255 ?_
      (apply WO.buildSlice; (exact rfl); (exact rfl); (exact fpA); intro nb)
      refine ⟨piA, ?_⟩
      refine dr1 8 ?_
      refine dre 12 8 511 ?_
      (apply WO.append (h := hK) (news := [.int .i64 j.task]) (m := 1); (exact rfl); (exact rfl); (exact tkA); (exact k.hK); (exact rfl); (decide); (exact rfl); (apply RowAt.cells; (exact atA)); (exact rfl); (omega); (omega); intro A' c' h' ha'; rw [← hl] at ha' ⊢)
      refine ⟨piA, ?_⟩
      refine drp 12 9 1023 ?_
      refine drp 12 10 2047 ?_
      refine dr1 11 ?_
      refine drf 12 11 4095 ?_
      (refine swA ?_)
      refine ⟨piA, ?_⟩
      refine drz ?_
      repeat' (first | refine soA ?_ | refine sgA ?_ | refine sxA ?_ | refine sbA ?_ | refine fun (Q : Post) hQ => ?_ | refine fun (nb : Nat) => (?_ : WL _ _ _ _ _ _ _ _ _) | (refine WL.guard rfl rfl rfl (fun h => ?_) (fun h => ?_) <;> (try dsimp only at h)))
      exact hMt.nx _ _ _ ⟨{ a with A4 := A', c4 := c' }, hP, hT, hM, hN, hU, hS1, h', hL, hA, hI, hD, hE, hR, hV, hC, rfl, { k with hS := tS1, hK := arrI_snoc (hl ▸ ha') }⟩ (by repeat' (first | exact trivial | refine ⟨rfl, ?_⟩)) (by (exact keA))
  · intro hs1 ho3
    change KerC b (startK s j) hs1 at ho3
    have hp1 : (startK s j).p = s.p := by unfold startK; split <;> rfl
    generalize hsK : startK s j = s1 at ho3 w2 htr hp1
    clear k ho2
    obtain ⟨a, hP, hT, hM, hN, hU, hS, hK, hL, hA, hI, hD, hE, hR, hV, hC, rfl, k⟩ := ho3
    repeat' (first | refine soA ?_ | refine sgA ?_ | refine sxA ?_ | refine sbA ?_ | refine fun (Q : Post) hQ => ?_ | refine fun (nb : Nat) => (?_ : WL _ _ _ _ _ _ _ _ _) | (refine WL.guard rfl rfl rfl (fun h => ?_) (fun h => ?_) <;> (try dsimp only at h)))
    have hpl := k.pl
    have htk := k.tasks
    have w3 : KOk { s1 with ended := false } := { w2 with }
    have hjl1 := OrdJ.jobs_le w2
    have hhl1 := w2.hlen
    have hsp : speedK (readyK s j) j = fastV s1.p s1.policy (staticK { s1 with ended := false }) j.left (leastV s1.p s1.tasks s1.next s1.jobs s1.held s1.now j.deadline) s1.level := by unfold speedK readyK; rw [hsK]
    refine dra [(0, []), (3, [])] [] ?_
    refine drp 30 0 1 ?_
    refine drp 30 1 3 ?_
    refine drp 30 2 7 ?_
    refine drl 30 3 0 15 (hy := by (exact Rn.loadS (vs := a.p.enc) rfl (CellsAt.part At.one rfl) rfl)) ?_
    refine drp 30 4 31 ?_
    refine drp 30 5 63 ?_
    refine drp 30 6 127 ?_
    refine drl 30 7 0 255 ?_
    refine drp 30 8 511 ?_
    refine drp 30 9 1023 ?_
    refine drp 30 10 2047 ?_
    refine drl 30 11 0 4095 ?_
    refine drp 30 12 8191 ?_
    refine drp 30 13 16383 ?_
    refine drp 30 14 32767 ?_
    refine drl 30 15 0 65535 ?_
    refine drp 30 17 196607 ?_
    refine drp 30 18 458751 ?_
    refine drp 30 19 983039 ?_
    refine drl 30 20 0 2031615 ?_
    refine drp 30 22 6225919 ?_
    refine drp 30 23 14614527 ?_
    refine drp 30 24 31391743 ?_
    refine drl 30 25 0 64946175 ?_
    refine drp 30 26 132055039 ?_
    refine drl 30 27 1 266272767 ?_
    refine dr1 16 ?_
    refine dre 30 16 266338303 ?_
    (refine WO.callN Tryz.func88 rfl (by kernel_rfl) rfl (own := [hS]) (by (exact tsA)) (fun G hG hh => rylistC (by omega) w2.jord k.hS) ?_; rintro v own' ⟨AJ, cJ, hJ, rfl, aJ, rfl⟩)
    refine ⟨piA, ?_⟩
    refine dr1 21 ?_
    refine dre 30 21 268435455 ?_
    (refine WO.callN Tryz.func91 rfl (by kernel_rfl) rfl (own := [hL]) (by (exact tsA)) (fun G hG hh => loclistC (by omega) k.hL) ?_; rintro v own' ⟨AL, cL, hLL, rfl, aL, rfl⟩)
    refine ⟨piA, ?_⟩
    refine dr1 28 ?_
    refine dre 30 28 536870911 ?_
    (refine WO.callN Tryz.func273 rfl (by kernel_rfl) rfl (by (exact tsA)) (fun G hG hh => (k.kg w2 (hh hP (by simp)) (hh hT (by simp)) (hh hM (by simp)) (hh hN (by simp))).least w2 j.deadline (aJ.rowX (hh hJ (by simp))) (aL.rowX (hh hLL (by simp)))) ?_; rintro v own' ⟨rfl, rfl⟩)
    refine ⟨piA, ?_⟩
    refine drp 30 29 1073741823 ?_
    refine drz ?_
    have k3 : KParts { s1 with ended := false } a hP hT hM hN hU hS hK hL hA hI hD hE hR hV hC := { k with }
    repeat' (first | refine soA ?_ | refine sgA ?_ | refine sxA ?_ | refine sbA ?_ | refine fun (Q : Post) hQ => ?_ | refine fun (nb : Nat) => (?_ : WL _ _ _ _ _ _ _ _ _) | (refine WL.guard rfl rfl rfl (fun h => ?_) (fun h => ?_) <;> (try dsimp only at h)))
    generalize leastV s1.p s1.tasks s1.next s1.jobs s1.held s1.now j.deadline = sl at hsp ⊢
    refine dra [(0, []), (3, [])] [] ?_
    refine drp 19 0 1 ?_
    refine drp 19 1 3 ?_
    refine drp 19 2 7 ?_
    refine drl 19 3 0 15 (hy := by (exact Rn.loadS (vs := a.p.enc) rfl (CellsAt.part At.one rfl) rfl)) ?_
    refine drp 19 4 31 ?_
    refine drp 19 5 63 ?_
    refine drp 19 6 127 ?_
    refine drl 19 7 0 255 ?_
    refine drp 19 8 511 ?_
    refine drp 19 10 1535 ?_
    refine drl 19 11 1 3583 ?_
    refine drp 19 12 7679 ?_
    refine drp 19 13 15871 ?_
    refine drp 19 14 32255 ?_
    refine drp 19 15 65023 ?_
    refine drl 19 16 0 130559 ?_
    refine dr1 9 ?_
    refine dre 19 9 131071 ?_
    (refine WO.callN Tryz.func275 rfl (by kernel_rfl) rfl (own := []) (by (exact tsA)) (fun G hG hh => static_any b { s1 with ended := false } a G (k3.kf w3 (hh (one b (cells (KM { s1 with ended := false } a) 108)) (by repeat (first | exact List.Mem.head _ | apply List.Mem.tail))) (hh hP (by simp)) (hh hT (by simp)) (hh hM (by simp)) (hh hN (by simp)) (hh hU (by simp))) w3) ?_; rintro v own' ⟨rfl, rfl⟩)
    refine ⟨piA, ?_⟩
    refine dr1 17 ?_
    refine dre 19 17 262143 ?_
    (refine WO.callN Tryz.func274 rfl (by kernel_rfl) rfl (by (exact tsA)) (fun G hG hh => (k.kg w2 (hh hP (by simp)) (hh hT (by simp)) (hh hM (by simp)) (hh hN (by simp))).gov w2 s1.policy (staticK { s1 with ended := false }) j.left sl s1.level) ?_; rintro v own' ⟨rfl, rfl⟩)
    refine ⟨piA, ?_⟩
    refine drp 19 18 524287 ?_
    refine drz ?_
    generalize fastV s1.p s1.policy (staticK { s1 with ended := false }) j.left sl s1.level = v at hsp ⊢
    repeat' (first | refine soA ?_ | refine sgA ?_ | refine sxA ?_ | refine sbA ?_ | refine fun (Q : Post) hQ => ?_ | refine fun (nb : Nat) => (?_ : WL _ _ _ _ _ _ _ _ _) | (refine WL.guard rfl rfl rfl (fun h => ?_) (fun h => ?_) <;> (try dsimp only at h)))
    have hsw : a.p.switch = s.p.switch := by rw [← hp1]; exact congrArg PP.switch k.pl
    have hch : chooseK s j = if v = s1.level then ({ s1 with ended := false }, false) else (didK { s1 with ended := false, level := v } 3 a.p.switch v 0 0, true) := by
      unfold chooseK; rw [hsp, hsw]; unfold readyK; rw [hsK]
    refine W.cond rfl (fun h => ?_) (fun h => ?_)
    · have h' : v = s1.level := by simpa using h
      rw [if_pos h'] at hch
      repeat' (first | refine soA ?_ | refine sgA ?_ | refine sxA ?_ | refine sbA ?_ | refine fun (Q : Post) hQ => ?_ | refine fun (nb : Nat) => (?_ : WL _ _ _ _ _ _ _ _ _) | (refine WL.guard rfl rfl rfl (fun h => ?_) (fun h => ?_) <;> (try dsimp only at h)))
      (refine seE ?_)
      refine ⟨[one b (cells (KM { s1 with ended := false } a) 108), hP, hT, hM, hN, hU, hS, hK, hL, hA, hI, hD, hE, hR, hV, hC], (by (exact keA)), by rw [hch], ?_⟩
      rw [hch]; exact ⟨a, hP, hT, hM, hN, hU, hS, hK, hL, hA, hI, hD, hE, hR, hV, hC, rfl, k3⟩
    · have h' : ¬ v = s1.level := by simpa using h
      rw [if_neg h'] at hch
      have ker : KerC b { s1 with ended := false, level := v } _ := ⟨a, hP, hT, hM, hN, hU, hS, hK, hL, hA, hI, hD, hE, hR, hV, hC, rfl, { k with }⟩
      repeat' (first | ((refine WL.ex0 (WO.callN Tryz.func242 rfl (by kernel_rfl) rfl (by (exact tsA)) (fun G hG hh => did_any b _ 3 a.p.switch v 0 0 G _ ker (htr ▸ hf)) ?_); rintro v2 own' ⟨rfl, hk2⟩)) | ((refine WL.ex rfl (WO.callN Tryz.func242 rfl (by kernel_rfl) rfl (by (exact tsA)) (fun G hG hh => did_any b _ 3 a.p.switch v 0 0 G _ ker (htr ▸ hf)) ?_); rintro v2 own' ⟨rfl, hk2⟩)) | (first | refine soA ?_ | refine sgA ?_ | refine sxA ?_ | refine sbA ?_ | refine fun (Q : Post) hQ => ?_ | refine fun (nb : Nat) => (?_ : WL _ _ _ _ _ _ _ _ _) | (refine WL.guard rfl rfl rfl (fun h => ?_) (fun h => ?_) <;> (try dsimp only at h))))
      (refine seE ?_)
      refine ⟨own', keep_app own' _, by rw [hch], ?_⟩
      rw [hch]; exact hk2
end Go.Proofs.YtflgnpidelkkpaaGreat
namespace Go.Proofs.YtflgnpidelkkpaaGreat
set_option maxRecDepth 8000
set_option maxHeartbeats 1000000
set_option linter.unusedVariables false
set_option linter.unusedSimpArgs false
def jlessV (j : JobV) : JobV := { j with left := w64 (j.left - 1), real := w64 (j.real - 1) }
def jhowV (j : JobV) : Int := if w64 (j.real - 1) ≤ 0 then 2 else if w64 (j.left - 1) ≤ 0 then 3 else 0
attribute [local irreducible] W X WL WA WB WG WO Rn Own one splice Arr Spec WQ WH Qn
set_option maxHeartbeats 4000000 in
theorem jstep_any (j : JobV) (F : Hp) : Spec Tryz.prog 247 [.agg j.enc.toArray] F [] fun v hs => v = .tuple #[.agg (jlessV j).enc.toArray, .int .i64 (jhowV j)] ∧ hs = [] := by
  refine Spec.enter Tryz.func247 rfl Tryz.ntmps247 rfl fun B => ?_
  by_cases h1 : w64 (j.real - 1) ≤ 0
  · have e : jhowV j = 2 := if_pos h1
    repeat' (first | ((apply WL.rd; (exact rfl); (exact Rn.subW rfl rfl))) | ((apply WL.rd; (exact rfl); (exact Rn.cmp (b := true) rfl rfl (congrArg some (decide_eq_true h1))))) | (first | refine soA ?_ | refine sgA ?_ | refine sxA ?_ | refine sbA ?_ | refine fun (Q : Post) hQ => ?_ | refine fun (nb : Nat) => (?_ : WL _ _ _ _ _ _ _ _ _) | (refine WL.guard rfl rfl rfl (fun h => ?_) (fun h => ?_) <;> (try dsimp only at h))))
    ((refine seE ?_); refine ⟨[], Keep.nil, ?_⟩)
    exact ⟨by rw [e]; rfl, rfl⟩
  · by_cases h2 : w64 (j.left - 1) ≤ 0
    · have e : jhowV j = 3 := by unfold jhowV; rw [if_neg h1, if_pos h2]
      repeat' (first | ((apply WL.rd; (exact rfl); (exact Rn.subW rfl rfl))) | ((apply WL.rd; (exact rfl); (first | exact Rn.cmp (b := false) rfl rfl (congrArg some (decide_eq_false h1)) | exact Rn.cmp (b := true) rfl rfl (congrArg some (decide_eq_true h2))))) | (first | refine soA ?_ | refine sgA ?_ | refine sxA ?_ | refine sbA ?_ | refine fun (Q : Post) hQ => ?_ | refine fun (nb : Nat) => (?_ : WL _ _ _ _ _ _ _ _ _) | (refine WL.guard rfl rfl rfl (fun h => ?_) (fun h => ?_) <;> (try dsimp only at h))))
      ((refine seE ?_); refine ⟨[], Keep.nil, ?_⟩)
      exact ⟨by rw [e]; rfl, rfl⟩
    · have e : jhowV j = 0 := by unfold jhowV; rw [if_neg h1, if_neg h2]
      repeat' (first | ((apply WL.rd; (exact rfl); (exact Rn.subW rfl rfl))) | ((apply WL.rd; (exact rfl); (first | exact Rn.cmp (b := false) rfl rfl (congrArg some (decide_eq_false h1)) | exact Rn.cmp (b := false) rfl rfl (congrArg some (decide_eq_false h2))))) | (first | refine soA ?_ | refine sgA ?_ | refine sxA ?_ | refine sbA ?_ | refine fun (Q : Post) hQ => ?_ | refine fun (nb : Nat) => (?_ : WL _ _ _ _ _ _ _ _ _) | (refine WL.guard rfl rfl rfl (fun h => ?_) (fun h => ?_) <;> (try dsimp only at h))))
      ((refine seE ?_); refine ⟨[], Keep.nil, ?_⟩)
      exact ⟨by rw [e]; rfl, rfl⟩
end Go.Proofs.YtflgnpidelkkpaaGreat
namespace Go.Proofs.YtflgnpidelkkpaaGreat
set_option maxRecDepth 8000
set_option maxHeartbeats 1000000
set_option linter.unusedVariables false
set_option linter.unusedSimpArgs false
theorem fastF_in (p : PP) (left slack level : Int) : ∀ n : Nat, 0 ≤ (List.range n).foldl (fastF p left slack level) 0 ∧ (List.range n).foldl (fastF p left slack level) 0 ≤ (n : Nat)
  | 0 => ⟨Int.le_refl _, Int.le_refl _⟩
  | n + 1 => by
    have ih := fastF_in p left slack level n
    rw [fast_down]
    split <;> omega
theorem fastV_in (p : PP) (policy static left slack level : Int) (hc : 0 ≤ p.crit) : 0 ≤ fastV p policy static left slack level ∧ fastV p policy static left slack level ≤ p.crit := by
  have h1 := limitV_in p policy static hc
  have h2 := fastF_in p left slack level (limitV p policy static).toNat
  unfold fastV; omega
theorem KOk.did {s : Kn} (w : KOk s) (kind len arg task cy : Int) : KOk (didK s kind len arg task cy) := { w with }
theorem chooseK_ok {s : Kn} {j : JobV} (w : KOk s) (hj : j ∈ s.jobs) : KOk (chooseK s j).1 := by
  have h1 := readyK_ok w hj
  unfold chooseK
  split
  · exact h1
  · have h2 := fastV_in (readyK s j).p (readyK s j).policy (staticK (readyK s j)) j.left (leastV (readyK s j).p (readyK s j).tasks (readyK s j).next (readyK s j).jobs (readyK s j).held (readyK s j).now j.deadline) (readyK s j).level h1.crit.1
    have h3 := h1.crit
    refine KOk.did (s := { readyK s j with level := speedK (readyK s j) j }) { h1 with lvl := ?_ } _ _ _ _ _
    show 0 ≤ speedK (readyK s j) j ∧ speedK (readyK s j) j < ((readyK s j).p.levels.length : Nat)
    unfold speedK; omega
def overK (s : Kn) (n : Int) : Bool := s.held.any fun x => (x.task == n) && decide (x.left ≤ 0)
def spentK (s : Kn) (n : Int) : Kn := { didK s 1 (levOf s.p s.level).P s.level n 1 with held := spendL n s.held }
def goK (s : Kn) (n : Int) (j : JobV) : Kn :=
  if jhowV j = 0 then { spentK s n with jobs := putK s.jobs (jlessV j) } else endK (spentK s n) (jhowV j) (jlessV j)
def begK (j : JobV) : JobV := { j with started := true }
def runsK (s : Kn) (n : Int) (j : JobV) : Kn :=
  if overK s n = true then endK s 3 j
  else if j.started = false ∨ s.ended = true then (if (chooseK s j).2 = true then (chooseK s j).1 else goK (chooseK s j).1 n (begK j))
  else goK s n j
theorem spentK_ok {s : Kn} {n : Int} (w : KOk s) (h : overK s n = false) : KOk (spentK s n) := { w with
  hin := fun x hx => by
    obtain ⟨y, hy, rfl⟩ := List.mem_map.1 hx
    have := w.hin y hy
    unfold spendX; split <;> exact this
  hbd := fun x hx => by
    obtain ⟨y, hy, rfl⟩ := List.mem_map.1 hx
    have h2 := w.hbd y hy
    unfold spendX
    split
    · next e =>
      have h3 : ¬ y.left ≤ 0 := fun h3 => by
        have : overK s n = true := List.any_eq_true.2 ⟨y, hy, by simp [e, h3]⟩
        rw [h] at this; cases this
      have e2 : decV y.left = y.left - 1 := w64_in (by omega)
      dsimp only
      rw [e2]; omega
    · exact h2
  hsem := fun x hx => by
    obtain ⟨y, hy, rfl⟩ := List.mem_map.1 hx
    have := w.hsem y hy
    unfold spendX; split <;> exact this
  hnd := by
    show ((List.map (spendX n) s.held).map (·.sem)).Nodup
    rw [List.map_map]
    have e : ((fun h : HeldV => h.sem) ∘ spendX n) = fun h => h.sem := by funext x; simp only [Function.comp]; unfold spendX; split <;> rfl
    rw [e]; exact w.hnd }
theorem putK_ok {s : Kn} {j : JobV} (w : KOk s) (hj : 0 ≤ j.task ∧ j.task < 6) (hs : j.started = true) : KOk { s with jobs := putK s.jobs j } := { w with
  jin := fun x hx => by
    rcases putK_mem.1 hx with rfl | ⟨h, _⟩
    · exact hj
    · exact w.jin x h
  jord := putK_ord w.jord
  jnd := putK_nd w.jnd
  stq := by
    have h1 := unst_off_le j.task s.jobs
    have h2 : unst (putK s.jobs j) = unst (offJ j.task s.jobs) := by rw [unst_put, hs]; rfl
    have h3 := w.stq
    show s.stack.length + unst (putK s.jobs j) + s.latch.length ≤ _
    omega
  sst := fun x hx => by
    obtain ⟨j', h1, h2⟩ := w.sst x hx
    by_cases e : x = j.task
    · exact ⟨j, putK_mem.2 (.inl rfl), e.symm⟩
    · exact ⟨j', putK_mem.2 (.inr ⟨h1, fun e2 => e (h2 ▸ e2)⟩), h2⟩ }
theorem endK_ok {s : Kn} {kind : Int} {j : JobV} (w : KOk s) : KOk (endK s kind j) := { w with
  nu := by show (List.set _ _ _).length = 6; rw [List.length_set]; exact w.nu
  jin := fun x hx => w.jin x (List.mem_filter.1 hx).1
  jord := w.jord.off j.task
  jnd := nd_off w.jnd j.task
  stq := by
    have h1 := unst_off_le j.task s.jobs
    have h2 : (stackOff j.task s.stack).length ≤ s.stack.length := List.length_filter_le _ _
    have h3 := w.stq
    show (stackOff j.task s.stack).length + unst (offJ j.task s.jobs) + s.latch.length ≤ _
    omega
  sst := fun x hx => by
    obtain ⟨h1, h2⟩ := List.mem_filter.1 hx
    obtain ⟨j', h3, h4⟩ := w.sst x h1
    refine ⟨j', List.mem_filter.2 ⟨h3, ?_⟩, h4⟩
    rw [h4]; exact h2
  hin := fun x hx => w.hin x (List.mem_filter.1 hx).1
  hbd := fun x hx => w.hbd x (List.mem_filter.1 hx).1
  hsem := fun x hx => w.hsem x (List.mem_filter.1 hx).1
  hnd := (List.filter_sublist.map _).nodup w.hnd }
theorem goK_ok {s : Kn} {n : Int} {j : JobV} (w : KOk s) (h : overK s n = false) (hj : 0 ≤ j.task ∧ j.task < 6) (hs : j.started = true) : KOk (goK s n j) := by
  unfold goK
  split
  · exact putK_ok (s := spentK s n) (spentK_ok w h) hj hs
  · exact endK_ok (spentK_ok w h)
theorem chooseK_held (s : Kn) (j : JobV) : (chooseK s j).1.held = s.held := by unfold chooseK readyK startK didK; repeat' split <;> try rfl
theorem chooseK_jobs (s : Kn) (j : JobV) : (chooseK s j).1.jobs = (startK s j).jobs := by unfold chooseK readyK didK; split <;> rfl
theorem chooseK_mem {s : Kn} {j : JobV} (hj : j ∈ s.jobs) : begK j ∈ (chooseK s j).1.jobs := by
  rw [chooseK_jobs]
  unfold startK
  split
  · next h => have : begK j = j := by cases j; subst h; rfl
              rw [this]; exact hj
  · exact putK_mem.2 (.inl rfl)
theorem runsK_ok {s : Kn} {n : Int} {j : JobV} (w : KOk s) (hj : j ∈ s.jobs) : KOk (runsK s n j) := by
  unfold runsK
  split
  · exact endK_ok w
  · next h =>
    have h : overK s n = false := by simpa using h
    have hb := w.jin j hj
    split
    · split
      · exact chooseK_ok w hj
      · exact goK_ok (chooseK_ok w hj) (by unfold overK; rw [chooseK_held]; exact h) hb rfl
    · next h2 =>
      have h3 : j.started = true := by cases h4 : j.started with | true => rfl | false => exact absurd (Or.inl h4) h2
      exact goK_ok w h hb h3
theorem getJ_mem {l : List JobV} {j : JobV} (hn : (l.map (·.task)).Nodup) (hj : j ∈ l) {n : Int} (e : j.task = n) : getJ l n = .tuple #[.agg j.enc.toArray, .bool true] := by
  subst e
  unfold getJ
  cases h : l.find? (fun x => x.task == j.task) with
  | none => exact absurd (List.find?_eq_none.1 h j hj) (by simp)
  | some x =>
    have h1 := List.mem_of_find?_eq_some h
    have h2 : x.task = j.task := by have := List.find?_some h; simpa using this
    have := uniqJ hn h1 hj h2
    subst this; rfl
end Go.Proofs.YtflgnpidelkkpaaGreat
