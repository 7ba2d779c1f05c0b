/- part 28 of the proof: contracts of the functions that the law reaches, and plain laws. -/
import Derived.Test.YtflgnpidelkkpaaGreatMq7
import Derived.Test.YtflgnpidelkkpaaGreatMq27
namespace Go.Proofs.YtflgnpidelkkpaaGreat
set_option maxRecDepth 8000
set_option maxHeartbeats 1000000
set_option linter.unusedVariables false
set_option linter.unusedSimpArgs false
theorem chooseK_tr (s : Kn) (j : JobV) : (chooseK s j).1.trace.length ≤ s.trace.length + 1 := by
  have h : (readyK s j).trace = s.trace := by unfold readyK startK; split <;> rfl
  unfold chooseK
  split
  · rw [h]; omega
  · unfold didK; rw [← h]; exact addV_len _ _
theorem chooseK_ev (s : Kn) (j : JobV) : (chooseK s j).1.events = s.events := by unfold chooseK readyK startK didK; repeat' split <;> try rfl
structure RuS where
  s : Kn
  hs : List Hp
  j : JobV
attribute [local irreducible] W X WL WA WB WG WO Rn Own one splice Arr Spec WQ WH Qn
set_option maxHeartbeats 8000000 in
theorem runs_any (b : Nat) (s : Kn) (n : Int) (j : JobV) (F : Hp) (hs : List Hp) (ho : KerC b s hs) (w : KOk s) (hj : j ∈ s.jobs) (hn : j.task = n) (hf : (s.trace.length + 2) * 48 ≤ 140737488355328) (hfe : (s.events.length + 1) * 32 ≤ 140737488355328) : Spec Tryz.prog 207 [ptrV b, .int .i64 n] F hs fun v hs' => v = .tuple #[] ∧ KerC b (runsK s n j) hs' := by
  have ho2 := ho
  have hget := getJ_mem w.jnd hj hn
  have hjb := w.jin j hj
  have hhl := w.hlen
  obtain ⟨a, hP, hT, hM, hN, hU, hS, hK, hL, hA, hI, hD, hE, hR, hV, hC, rfl, k⟩ := ho
  refine Spec.enter Tryz.func207 rfl Tryz.ntmps207 rfl fun B => ?_
  repeat' (first | ((refine WL.ex rfl (WO.callN Tryz.func150 rfl (by kernel_rfl) rfl (own := [hS]) (by (exact tsA)) (fun G hG hh => Spec.objR k.hS fun hs hr => hget ▸ ryget_any a.sb s.jobs n G hs hr) ?_); rintro v own' ⟨rfl, rfl⟩)) | ((refine WL.ex rfl (WO.callN Tryz.func243 rfl (by kernel_rfl) rfl (own := [hL]) (by (exact tsA)) (fun G hG hh => Spec.objR k.hL fun hs hr => over_any a.lk s.held n G hs hr (by omega)) ?_); rintro v own' ⟨rfl, rfl⟩)) | (first | refine soA ?_ | refine sgA ?_ | refine sxA ?_ | refine sbA ?_ | refine fun (Q : Post) hQ => ?_ | refine fun (nb : Nat) => (?_ : WL _ _ _ _ _ _ _ _ _) | (refine WL.guard rfl rfl rfl (fun h => ?_) (fun h => ?_) <;> (try dsimp only at h))))
  refine W.cond rfl (fun h => ?_) (fun h => ?_)
  · have h1 : overK s n = true := by simpa [overK] using h
    repeat' (first | ((refine WL.ex0 (WO.callN Tryz.func244 rfl (by kernel_rfl) rfl (by (exact tsA)) (fun G hG hh => end_any b s 3 j G _ ho2 w hjb hfe) ?_); rintro v own' ⟨rfl, hk2⟩)) | ((refine WL.ex rfl (WO.callN Tryz.func244 rfl (by kernel_rfl) rfl (by (exact tsA)) (fun G hG hh => end_any b s 3 j G _ ho2 w hjb hfe) ?_); rintro v own' ⟨rfl, hk2⟩)) | (first | refine soA ?_ | refine sgA ?_ | refine sxA ?_ | refine sbA ?_ | refine fun (Q : Post) hQ => ?_ | refine fun (nb : Nat) => (?_ : WL _ _ _ _ _ _ _ _ _) | (refine WL.guard rfl rfl rfl (fun h => ?_) (fun h => ?_) <;> (try dsimp only at h))))
    (refine seE ?_)
    exact ⟨own', keep_app own' _, rfl, by unfold runsK; rw [if_pos h1]; exact hk2⟩
  · have h1 : overK s n = false := by simpa [overK] using h
    repeat' (first | ((refine W.cutK (c := .seq (.region 3 _ _) _) (σ := RuS) ⟨fun x => KerC b x.s x.hs ∧ KOk x.s ∧ overK x.s n = false ∧ runsK s n j = goK x.s n x.j ∧ x.j.task = n ∧ (x.s.trace.length + 1) * 48 ≤ 140737488355328 ∧ (x.s.events.length + 1) * 32 ≤ 140737488355328, fun x => [(0, some (ptrV b)), (1, some (.int .i64 n)), (4, some (.pointer (some ⟨nb, 0, none⟩)))], fun x => one nb (cells x.j.enc 142) :: x.hs, fun _ => 0⟩ (fun Q' hMt => ?_) ?_)) | (first | refine soA ?_ | refine sgA ?_ | refine sxA ?_ | refine sbA ?_ | refine fun (Q : Post) hQ => ?_ | refine fun (nb : Nat) => (?_ : WL _ _ _ _ _ _ _ _ _) | (refine WL.guard rfl rfl rfl (fun h => ?_) (fun h => ?_) <;> (try dsimp only at h))))
    · skip
      repeat' (first | refine soA ?_ | refine sgA ?_ | refine sxA ?_ | refine sbA ?_ | refine fun (Q : Post) hQ => ?_ | refine fun (nb : Nat) => (?_ : WL _ _ _ _ _ _ _ _ _) | (refine WL.guard rfl rfl rfl (fun h => ?_) (fun h => ?_) <;> (try dsimp only at h)))
      refine W.cond rfl (fun h => ?_) (fun h => ?_)
      · have h2 : j.started = false ∨ s.ended = true := by simpa using h
        repeat' (first | ((refine WL.ex rfl (WO.callN Tryz.func245 rfl (by kernel_rfl) rfl (by (exact tsA)) (fun G hG hh => kchoose_any b s j G _ ho2 w hj (by omega)) ?_); rintro v own' ⟨rfl, hk2⟩)) | (first | refine soA ?_ | refine sgA ?_ | refine sxA ?_ | refine sbA ?_ | refine fun (Q : Post) hQ => ?_ | refine fun (nb : Nat) => (?_ : WL _ _ _ _ _ _ _ _ _) | (refine WL.guard rfl rfl rfl (fun h => ?_) (fun h => ?_) <;> (try dsimp only at h))))
        refine W.cond rfl (fun h3 => ?_) (fun h3 => ?_)
        · have h3 : (chooseK s j).2 = true := by simpa using h3
          repeat' (first | refine soA ?_ | refine sgA ?_ | refine sxA ?_ | refine sbA ?_ | refine fun (Q : Post) hQ => ?_ | refine fun (nb : Nat) => (?_ : WL _ _ _ _ _ _ _ _ _) | (refine WL.guard rfl rfl rfl (fun h => ?_) (fun h => ?_) <;> (try dsimp only at h)))
          (refine seE ?_)
          exact ⟨own', keep_app own' _, rfl, by unfold runsK; rw [if_neg (by rw [h1]; decide), if_pos h2, if_pos h3]; exact hk2⟩
        · have h3 : (chooseK s j).2 = false := by simpa using h3
          have w2 := chooseK_ok w hj
          have hget2 := getJ_mem w2.jnd (chooseK_mem hj) (n := n) hn
          have htr := chooseK_tr s j
          have hev := chooseK_ev s j
          have hov : overK (chooseK s j).1 n = false := by unfold overK; rw [chooseK_held]; exact h1
          have hrk : runsK s n j = goK (chooseK s j).1 n (begK j) := by unfold runsK; rw [if_neg (by rw [h1]; decide), if_pos h2, if_neg (by rw [h3]; decide)]
          generalize (chooseK s j).1 = s2 at hk2 w2 hget2 htr hev hov hrk
          have hk3 := hk2
          obtain ⟨a2, hP2, hT2, hM2, hN2, hU2, hS2, hK2, hL2, hA2, hI2, hD2, hE2, hR2, hV2, hC2, rfl, k2⟩ := hk2
          repeat' (first | ((refine WL.ex rfl (WO.callN Tryz.func150 rfl (by kernel_rfl) rfl (own := [hS2]) (by (exact tsA)) (fun G hG hh => Spec.objR k2.hS fun hs hr => hget2 ▸ ryget_any a2.sb s2.jobs n G hs hr) ?_); rintro v own' ⟨rfl, rfl⟩)) | (first | refine soA ?_ | refine sgA ?_ | refine sxA ?_ | refine sbA ?_ | refine fun (Q : Post) hQ => ?_ | refine fun (nb : Nat) => (?_ : WL _ _ _ _ _ _ _ _ _) | (refine WL.guard rfl rfl rfl (fun h => ?_) (fun h => ?_) <;> (try dsimp only at h))))
          exact hMt.nx ⟨s2, _, begK j⟩ _ _ ⟨hk3, w2, hov, hrk, hn, by dsimp only; omega, by dsimp only; rw [hev]; exact hfe⟩ (by repeat' (first | exact trivial | refine ⟨rfl, ?_⟩)) (by (exact keA))
      · have h2 : ¬ (j.started = false ∨ s.ended = true) := by simpa using h
        repeat' (first | refine soA ?_ | refine sgA ?_ | refine sxA ?_ | refine sbA ?_ | refine fun (Q : Post) hQ => ?_ | refine fun (nb : Nat) => (?_ : WL _ _ _ _ _ _ _ _ _) | (refine WL.guard rfl rfl rfl (fun h => ?_) (fun h => ?_) <;> (try dsimp only at h)))
        exact hMt.nx ⟨s, _, j⟩ _ _ ⟨ho2, w, h1, by unfold runsK; rw [if_neg (by rw [h1]; decide), if_neg h2], hn, by dsimp only; omega, hfe⟩ (by repeat' (first | exact trivial | refine ⟨rfl, ?_⟩)) (by (exact keA))
    · rintro ⟨s1, hs1, j1⟩ ⟨ho3, w3, hov, hrk, hj1, hf1, hfe1⟩
      dsimp only at ho3 w3 hov hrk hj1 hf1 hfe1 ⊢
      rw [hrk]
      clear k ho2
      obtain ⟨a, hP, hT, hM, hN, hU, hS, hK, hL, hA, hI, hD, hE, hR, hV, hC, rfl, k⟩ := ho3
      have hlv := w3.lvl
      obtain ⟨m, hm⟩ : ∃ m : Nat, s1.level = m := ⟨s1.level.toNat, by omega⟩
      have hps : a.p.levels.xs = s1.p.levels := congrArg PP.levels k.pl
      have hml : m < a.p.levels.xs.length := by rw [hps]; omega
      obtain ⟨x, hx⟩ : ∃ x, a.p.levels.xs[m]? = some x := ⟨_, List.getElem?_eq_getElem (by simpa using hml)⟩
      have hxo : levOf s1.p s1.level = x := by rw [hm]; exact levOf_at (hps ▸ hx)
      obtain ⟨g, o, eA, g1⟩ := (RowAt.own (F := F) k.plat.levels).elem 2 (fun _ => rfl) (by omega) m x hx
      have ker : KerC b s1 _ := ⟨a, hP, hT, hM, hN, hU, hS, hK, hL, hA, hI, hD, hE, hR, hV, hC, rfl, k⟩
      repeat' (first | refine soA ?_ | refine sgA ?_ | refine sxA ?_ | refine sbA ?_ | refine fun (Q : Post) hQ => ?_ | refine fun (nb : Nat) => (?_ : WL _ _ _ _ _ _ _ _ _) | (refine WL.guard rfl rfl rfl (fun h => ?_) (fun h => ?_) <;> (try dsimp only at h)))
      refine dra [(0, [18])] [(hP, [18])] ?_
      refine drp 19 0 1 ?_
      refine drp 19 1 3 ?_
      refine drp 19 2 7 ?_
      refine drp 19 3 15 ?_
      refine drp 19 4 31 ?_
      refine drk [10, 11, 12, 18] 19 5 0 63 ?_
      refine drp 19 6 127 ?_
      refine drp 19 7 255 ?_
      refine drp 19 8 511 ?_
      refine drk [10, 11, 12, 18] 19 9 0 1023 ?_
      refine drp 19 10 2047 (hy := by (exact Rn.indexAddrE m eA rfl rfl hm hml)) ?_
      refine drp 19 11 4095 ?_
      refine drl 19 12 1 8191 (hy := by (apply Rn.load; (exact rfl); (exact g1 0 _ rfl))) ?_
      refine drp 19 13 16383 ?_
      refine drp 19 14 32767 ?_
      refine drp 19 15 65535 ?_
      refine drl 19 16 0 131071 ?_
      refine drp 19 17 262143 ?_
      refine dr1 18 ?_
      refine dre 19 18 524287 ?_
      (refine WO.callN Tryz.func242 rfl (by kernel_rfl) rfl (by (exact tsA)) (fun G hG hh => did_any b _ 1 x.P s1.level n 1 G _ ker hf1) ?_; rintro v own' ⟨rfl, hk2⟩)
      refine ⟨piA, ?_⟩
      refine drz ?_
      have hse : spentK s1 n = { didK s1 1 x.P s1.level n 1 with held := spendL n s1.held } := by unfold spentK; rw [hxo]
      have wsp := spentK_ok w3 hov
      have hjb1 : 0 ≤ j1.task ∧ j1.task < 6 := by omega
      have hhl1 := w3.hlen
      have hjl1 := OrdJ.jobs_le w3
      obtain ⟨a2, hP2, hT2, hM2, hN2, hU2, hS2, hK2, hL2, hA2, hI2, hD2, hE2, hR2, hV2, hC2, rfl, k2⟩ := hk2
      repeat' (first | ((refine WL.ex rfl (WO.callN Tryz.func246 rfl (by kernel_rfl) rfl (own := [hL2]) (by (exact tsA)) (fun G hG hh => Spec.objW k2.hL (fun hs hr => spend_any a2.lk s1.held n G hs hr (by omega))) ?_); rintro v own' ⟨hL3, rfl, tL⟩)) | ((refine WL.ex0 (WO.callN Tryz.func246 rfl (by kernel_rfl) rfl (own := [hL2]) (by (exact tsA)) (fun G hG hh => Spec.objW k2.hL (fun hs hr => spend_any a2.lk s1.held n G hs hr (by omega))) ?_); rintro v own' ⟨hL3, rfl, tL⟩)) | ((refine WL.ex rfl (WO.callN Tryz.func247 rfl (by kernel_rfl) rfl Takes.nil (fun G hG hh => jstep_any j1 G) ?_); rintro v2 own' ⟨rfl, rfl⟩)) | (first | refine soA ?_ | refine sgA ?_ | refine sxA ?_ | refine sbA ?_ | refine fun (Q : Post) hQ => ?_ | refine fun (nb : Nat) => (?_ : WL _ _ _ _ _ _ _ _ _) | (refine WL.guard rfl rfl rfl (fun h => ?_) (fun h => ?_) <;> (try dsimp only at h))))
      have tL3 : Thing (LockC a2.lk (spendL n s1.held)) hL3 := tL.mono fun hs h => h.2
      have ker3 : KerC b (spentK s1 n) [one b (cells (KM (didK s1 1 x.P s1.level n 1) a2) 108), hP2, hT2, hM2, hN2, hU2, hS2, hK2, hL3, hA2, hI2, hD2, hE2, hR2, hV2, hC2] := by
        rw [hse]; exact ⟨a2, hP2, hT2, hM2, hN2, hU2, hS2, hK2, hL3, hA2, hI2, hD2, hE2, hR2, hV2, hC2, rfl, { k2 with hL := tL3 }⟩
      refine W.cond rfl (fun h => ?_) (fun h => ?_)
      · have h' : ¬ jhowV j1 = 0 := by simpa using h
        repeat' (first | ((refine WL.ex0 (WO.callN Tryz.func244 rfl (by kernel_rfl) rfl (by (exact tsA)) (fun G hG hh => end_any b (spentK s1 n) (jhowV j1) (jlessV j1) G _ ker3 wsp hjb1 hfe1) ?_); rintro v3 own' ⟨rfl, hk4⟩)) | ((refine WL.ex rfl (WO.callN Tryz.func244 rfl (by kernel_rfl) rfl (by (exact tsA)) (fun G hG hh => end_any b (spentK s1 n) (jhowV j1) (jlessV j1) G _ ker3 wsp hjb1 hfe1) ?_); rintro v3 own' ⟨rfl, hk4⟩)) | (first | refine soA ?_ | refine sgA ?_ | refine sxA ?_ | refine sbA ?_ | refine fun (Q : Post) hQ => ?_ | refine fun (nb : Nat) => (?_ : WL _ _ _ _ _ _ _ _ _) | (refine WL.guard rfl rfl rfl (fun h => ?_) (fun h => ?_) <;> (try dsimp only at h))))
        (refine seE ?_)
        exact ⟨own', keep_app own' _, rfl, by unfold goK; rw [if_neg h']; exact hk4⟩
      · have h' : jhowV j1 = 0 := by simpa using h
        repeat' (first | refine soA ?_ | refine sgA ?_ | refine sxA ?_ | refine sbA ?_ | refine fun (Q : Post) hQ => ?_ | refine fun (nb : Nat) => (?_ : WL _ _ _ _ _ _ _ _ _) | (refine WL.guard rfl rfl rfl (fun h => ?_) (fun h => ?_) <;> (try dsimp only at h)))
        refine dra [(0, []), (4, [])] [] ?_
        refine drp 6 0 1 ?_
        refine drp 6 1 3 ?_
        refine drp 6 2 7 ?_
        refine drl 6 3 0 15 ?_
        refine drl 6 4 1 31 ?_
        refine dr1 5 ?_
        refine dre 6 5 63 ?_
        (refine WO.callN Tryz.func101 rfl (by kernel_rfl) rfl (own := [hS2]) (by (exact tsA)) (fun G hG hh => Spec.objW k2.hS (fun hs hr => ryput_any a2.sb s1.jobs (jlessV j1) (by omega) G hs hr)) ?_; rintro v3 own' ⟨hS3, rfl, tS⟩)
        refine ⟨piA, ?_⟩
        refine drz ?_
        have tS3 : Thing (RdyC a2.sb (putK s1.jobs (jlessV j1))) hS3 := tS.mono fun hs h => h.2.perm (putK_perm _ _)
        repeat' (first | refine soA ?_ | refine sgA ?_ | refine sxA ?_ | refine sbA ?_ | refine fun (Q : Post) hQ => ?_ | refine fun (nb : Nat) => (?_ : WL _ _ _ _ _ _ _ _ _) | (refine WL.guard rfl rfl rfl (fun h => ?_) (fun h => ?_) <;> (try dsimp only at h)))
        (refine seE ?_)
        refine ⟨[one b _, hP2, hT2, hM2, hN2, hU2, hS3, hK2, hL3, hA2, hI2, hD2, hE2, hR2, hV2, hC2], (by (exact keA)), rfl, ?_⟩
        unfold goK; rw [if_pos h', hse]
        exact ⟨a2, hP2, hT2, hM2, hN2, hU2, hS3, hK2, hL3, hA2, hI2, hD2, hE2, hR2, hV2, hC2, rfl, { k2 with hL := tL3, hS := tS3 }⟩
end Go.Proofs.YtflgnpidelkkpaaGreat
namespace Go.Proofs.YtflgnpidelkkpaaGreat
set_option maxRecDepth 8000
set_option maxHeartbeats 1000000
set_option linter.unusedVariables false
set_option linter.unusedSimpArgs false
def jobK (s : Kn) (n : Int) : JobV := (s.jobs.find? (fun x => x.task == n)).getD JobZ
theorem jobK_of {s : Kn} {n : Int} (h : ∃ j ∈ s.jobs, j.task = n) : jobK s n ∈ s.jobs ∧ (jobK s n).task = n := by
  obtain ⟨j, hj, e⟩ := h
  unfold jobK
  cases h : s.jobs.find? (fun x => x.task == n) with
  | none => exact absurd (List.find?_eq_none.1 h j hj) (by simp [e])
  | some x => exact ⟨List.mem_of_find?_eq_some h, by have := List.find?_some h; simpa using this⟩
theorem whoK_job {s : Kn} (w : KOk s) (h : (whoK s).2 = true) : ∃ j ∈ s.jobs, j.task = (whoK s).1 := by
  unfold whoK chooseV at h ⊢
  cases hl : s.jobs with
  | nil => rw [hl] at h; cases h
  | cons j t =>
    dsimp only
    split
    · exact ⟨j, .head _, rfl⟩
    · next hn =>
      have hne : s.stack ≠ [] := fun e => hn (.inr (.inr e))
      have hm : s.stack.getLastD 0 ∈ s.stack := by
        rw [List.getLastD_eq_getLast?, List.getLast?_eq_some_getLast hne]
        exact List.getLast_mem hne
      obtain ⟨j', h1, h2⟩ := w.sst _ hm
      exact ⟨j', hl ▸ h1, h2⟩
def stepK (s : Kn) : Kn := if s.asleep = true then sleepingK s else if (whoK s).2 = true then runsK s (whoK s).1 (jobK s (whoK s).1) else nobodyK s
theorem sleepingK_ok {s : Kn} (w : KOk s) : KOk (sleepingK s) := by
  unfold sleepingK
  split
  · exact KOk.did (s := { s with asleep := false }) { w with slpd := fun h => by cases h } _ _ _ _ _
  · exact w.did _ _ _ _ _
theorem nobodyK_ok {s : Kn} (w : KOk s) : KOk (nobodyK s) := by
  unfold nobodyK
  split
  · next h =>
    have hin := bestF_in s.p.sleeps (w64 (readyV s.p s.tasks s.next s.now - s.now)) s.p.sleeps.length (Nat.le_refl _) h.1
    obtain ⟨m, hm, hl⟩ := hin
    refine KOk.did (s := { s with ended := false, asleep := true, state := (bestV s.p.sleeps (w64 (readyV s.p s.tasks s.next s.now - s.now))).1, wake := readyV s.p s.tasks s.next s.now }) { w with slpd := fun _ => ?_ } _ _ _ _ _
    have hm : (bestV s.p.sleeps (w64 (readyV s.p s.tasks s.next s.now - s.now))).1 = (m : Int) := hm
    show 0 ≤ (bestV s.p.sleeps (w64 (readyV s.p s.tasks s.next s.now - s.now))).1 ∧ (bestV s.p.sleeps (w64 (readyV s.p s.tasks s.next s.now - s.now))).1 < (s.p.sleeps.length : Nat)
    omega
  · exact KOk.did (s := { s with ended := false }) { w with } _ _ _ _ _
theorem stepK_ok {s : Kn} (w : KOk s) : KOk (stepK s) := by
  unfold stepK
  split
  · exact sleepingK_ok w
  · split
    · next h => exact runsK_ok w (jobK_of (whoK_job w h)).1
    · exact nobodyK_ok w
theorem didK_tr (s : Kn) (kind len arg task cy : Int) : (didK s kind len arg task cy).trace.length ≤ s.trace.length + 1 := addV_len _ _
theorem goK_tr (s : Kn) (n : Int) (j : JobV) : (goK s n j).trace.length ≤ s.trace.length + 1 := by
  have h := didK_tr s 1 (levOf s.p s.level).P s.level n 1
  unfold goK; split <;> exact h
theorem runsK_tr (s : Kn) (n : Int) (j : JobV) : (runsK s n j).trace.length ≤ s.trace.length + 2 := by
  have h1 := chooseK_tr s j
  have h2 := goK_tr (chooseK s j).1 n (begK j)
  have h3 := goK_tr s n j
  unfold runsK
  split
  · exact Nat.le_add_right _ _
  · split
    · split <;> omega
    · omega
theorem stepK_tr (s : Kn) : (stepK s).trace.length ≤ s.trace.length + 2 := by
  unfold stepK
  split
  · unfold sleepingK; split
    · exact Nat.le_succ_of_le (didK_tr { s with asleep := false } _ _ _ _ _)
    · exact Nat.le_succ_of_le (didK_tr s _ _ _ _ _)
  · split
    · exact runsK_tr _ _ _
    · unfold nobodyK; split
      · exact Nat.le_succ_of_le (didK_tr { s with ended := false, asleep := true, state := _, wake := _ } _ _ _ _ _)
      · exact Nat.le_succ_of_le (didK_tr { s with ended := false } _ _ _ _ _)
attribute [local irreducible] W X WL WA WB WG WO Rn Own one splice Arr Spec WQ WH Qn
set_option maxHeartbeats 4000000 in
theorem step_any (b : Nat) (s : Kn) (F : Hp) (hs : List Hp) (ho : KerC b s hs) (w : KOk s) (hf : (s.trace.length + 2) * 48 ≤ 140737488355328) (hfe : (s.events.length + 1) * 32 ≤ 140737488355328) : Spec Tryz.prog 154 [ptrV b] F hs fun v hs' => v = .tuple #[] ∧ KerC b (stepK s) hs' := by
  have ho2 := ho
  obtain ⟨a, hP, hT, hM, hN, hU, hS, hK, hL, hA, hI, hD, hE, hR, hV, hC, rfl, k⟩ := ho
  refine Spec.enter Tryz.func154 rfl Tryz.ntmps154 rfl fun B => ?_
  repeat' (first | refine soA ?_ | refine sgA ?_ | refine sxA ?_ | refine sbA ?_ | refine fun (Q : Post) hQ => ?_ | refine fun (nb : Nat) => (?_ : WL _ _ _ _ _ _ _ _ _) | (refine WL.guard rfl rfl rfl (fun h => ?_) (fun h => ?_) <;> (try dsimp only at h)))
  refine W.cond rfl (fun h => ?_) (fun h => ?_)
  · have h1 : s.asleep = true := h
    repeat' (first | ((refine WL.ex0 (WO.callN Tryz.func206 rfl (by kernel_rfl) rfl (by (exact tsA)) (fun G hG hh => sleeping_any b s G _ ho2 w h1 (by omega)) ?_); rintro v own' ⟨rfl, hk2⟩)) | ((refine WL.ex rfl (WO.callN Tryz.func206 rfl (by kernel_rfl) rfl (by (exact tsA)) (fun G hG hh => sleeping_any b s G _ ho2 w h1 (by omega)) ?_); rintro v own' ⟨rfl, hk2⟩)) | (first | refine soA ?_ | refine sgA ?_ | refine sxA ?_ | refine sbA ?_ | refine fun (Q : Post) hQ => ?_ | refine fun (nb : Nat) => (?_ : WL _ _ _ _ _ _ _ _ _) | (refine WL.guard rfl rfl rfl (fun h => ?_) (fun h => ?_) <;> (try dsimp only at h))))
    (refine seE ?_)
    exact ⟨own', keep_app own' _, rfl, by unfold stepK; rw [if_pos h1]; exact hk2⟩
  · have h1 : ¬ s.asleep = true := by rw [show s.asleep = false from h]; decide
    repeat' (first | ((refine WL.ex rfl (WO.callN Tryz.func155 rfl (by kernel_rfl) rfl (by (exact tsA)) (fun G hG hh => who_any b s G _ ho2 w) ?_); rintro v own' ⟨rfl, rfl⟩)) | (first | refine soA ?_ | refine sgA ?_ | refine sxA ?_ | refine sbA ?_ | refine fun (Q : Post) hQ => ?_ | refine fun (nb : Nat) => (?_ : WL _ _ _ _ _ _ _ _ _) | (refine WL.guard rfl rfl rfl (fun h => ?_) (fun h => ?_) <;> (try dsimp only at h))))
    refine W.cond rfl (fun h2 => ?_) (fun h2 => ?_)
    · have h3 : (whoK s).2 = true := h2
      have hj := jobK_of (whoK_job w h3)
      repeat' (first | ((refine WL.ex0 (WO.callN Tryz.func207 rfl (by kernel_rfl) rfl (by (exact tsA)) (fun G hG hh => runs_any b s (whoK s).1 (jobK s (whoK s).1) G _ ho2 w hj.1 hj.2 hf hfe) ?_); rintro v own' ⟨rfl, hk2⟩)) | ((refine WL.ex rfl (WO.callN Tryz.func207 rfl (by kernel_rfl) rfl (by (exact tsA)) (fun G hG hh => runs_any b s (whoK s).1 (jobK s (whoK s).1) G _ ho2 w hj.1 hj.2 hf hfe) ?_); rintro v own' ⟨rfl, hk2⟩)) | (first | refine soA ?_ | refine sgA ?_ | refine sxA ?_ | refine sbA ?_ | refine fun (Q : Post) hQ => ?_ | refine fun (nb : Nat) => (?_ : WL _ _ _ _ _ _ _ _ _) | (refine WL.guard rfl rfl rfl (fun h => ?_) (fun h => ?_) <;> (try dsimp only at h))))
      (refine seE ?_)
      exact ⟨own', keep_app own' _, rfl, by unfold stepK; rw [if_neg h1, if_pos h3]; exact hk2⟩
    · have h3 : ¬ (whoK s).2 = true := by rw [show (whoK s).2 = false from h2]; decide
      repeat' (first | ((refine WL.ex0 (WO.callN Tryz.func208 rfl (by kernel_rfl) rfl (by (exact tsA)) (fun G hG hh => nobody_any b s G _ ho2 w (by omega)) ?_); rintro v own' ⟨rfl, hk2⟩)) | ((refine WL.ex rfl (WO.callN Tryz.func208 rfl (by kernel_rfl) rfl (by (exact tsA)) (fun G hG hh => nobody_any b s G _ ho2 w (by omega)) ?_); rintro v own' ⟨rfl, hk2⟩)) | (first | refine soA ?_ | refine sgA ?_ | refine sxA ?_ | refine sbA ?_ | refine fun (Q : Post) hQ => ?_ | refine fun (nb : Nat) => (?_ : WL _ _ _ _ _ _ _ _ _) | (refine WL.guard rfl rfl rfl (fun h => ?_) (fun h => ?_) <;> (try dsimp only at h))))
      (refine seE ?_)
      exact ⟨own', keep_app own' _, rfl, by unfold stepK; rw [if_neg h1, if_neg h3]; exact hk2⟩
end Go.Proofs.YtflgnpidelkkpaaGreat
namespace Go.Proofs.YtflgnpidelkkpaaGreat
set_option maxRecDepth 8000
set_option maxHeartbeats 1000000
set_option linter.unusedVariables false
set_option linter.unusedSimpArgs false
def withinB (n low high : Int) : Bool := decide (low ≤ n) && decide (n ≤ high)
attribute [local irreducible] W X WL WA WB WG WO Rn Own one splice Arr Spec WQ WH Qn
theorem within_any (n low high : Int) (F : Hp) : Spec Tryz.prog 152 [.int .i64 n, .int .i64 low, .int .i64 high] F [] fun v hs => v = .bool (withinB n low high) ∧ hs = [] := by
  refine Spec.enter Tryz.func152 rfl Tryz.ntmps152 rfl fun B => ?_
  repeat' (first | refine soA ?_ | refine sgA ?_ | refine sxA ?_ | refine sbA ?_ | refine fun (Q : Post) hQ => ?_ | refine fun (nb : Nat) => (?_ : WL _ _ _ _ _ _ _ _ _) | (refine WL.guard rfl rfl rfl (fun h => ?_) (fun h => ?_) <;> (try dsimp only at h)))
  ((refine seE ?_); refine ⟨[], Keep.nil, ?_⟩)
  exact ⟨rfl, rfl⟩
theorem kNow_any (b : Nat) (s : Kn) (F : Hp) (hs : List Hp) (ho : KerC b s hs) : Spec Tryz.prog 19 [ptrV b] F hs fun v hs' => v = .int .i64 s.now ∧ hs' = hs := by
  obtain ⟨a, hP, hT, hM, hN, hU, hS, hK, hL, hA, hI, hD, hE, hR, hV, hC, rfl, k⟩ := ho
  refine Spec.enter Tryz.func19 rfl Tryz.ntmps19 rfl fun B => ?_
  repeat' (first | refine soA ?_ | refine sgA ?_ | refine sxA ?_ | refine sbA ?_ | refine fun (Q : Post) hQ => ?_ | refine fun (nb : Nat) => (?_ : WL _ _ _ _ _ _ _ _ _) | (refine WL.guard rfl rfl rfl (fun h => ?_) (fun h => ?_) <;> (try dsimp only at h)))
  (refine seE ?_)
  exact ⟨_, (by (exact keA)), rfl, rfl⟩
theorem kNow_nil (F : Hp) : Spec Tryz.prog 19 [.pointer none] F [] fun v hs' => v = .int .i64 0 ∧ hs' = [] := by
  refine Spec.enter Tryz.func19 rfl Tryz.ntmps19 rfl fun B => ?_
  repeat' (first | refine soA ?_ | refine sgA ?_ | refine sxA ?_ | refine sbA ?_ | refine fun (Q : Post) hQ => ?_ | refine fun (nb : Nat) => (?_ : WL _ _ _ _ _ _ _ _ _) | (refine WL.guard rfl rfl rfl (fun h => ?_) (fun h => ?_) <;> (try dsimp only at h)))
  ((refine seE ?_); refine ⟨[], Keep.nil, ?_⟩)
  exact ⟨rfl, rfl⟩
theorem kLevel_any (b : Nat) (s : Kn) (F : Hp) (hs : List Hp) (ho : KerC b s hs) : Spec Tryz.prog 46 [ptrV b] F hs fun v hs' => v = .int .i64 s.level ∧ hs' = hs := by
  obtain ⟨a, hP, hT, hM, hN, hU, hS, hK, hL, hA, hI, hD, hE, hR, hV, hC, rfl, k⟩ := ho
  refine Spec.enter Tryz.func46 rfl Tryz.ntmps46 rfl fun B => ?_
  repeat' (first | refine soA ?_ | refine sgA ?_ | refine sxA ?_ | refine sbA ?_ | refine fun (Q : Post) hQ => ?_ | refine fun (nb : Nat) => (?_ : WL _ _ _ _ _ _ _ _ _) | (refine WL.guard rfl rfl rfl (fun h => ?_) (fun h => ?_) <;> (try dsimp only at h)))
  (refine seE ?_)
  exact ⟨_, (by (exact keA)), rfl, rfl⟩
theorem kLevel_nil (F : Hp) : Spec Tryz.prog 46 [.pointer none] F [] fun v hs' => v = .int .i64 0 ∧ hs' = [] := by
  refine Spec.enter Tryz.func46 rfl Tryz.ntmps46 rfl fun B => ?_
  repeat' (first | refine soA ?_ | refine sgA ?_ | refine sxA ?_ | refine sbA ?_ | refine fun (Q : Post) hQ => ?_ | refine fun (nb : Nat) => (?_ : WL _ _ _ _ _ _ _ _ _) | (refine WL.guard rfl rfl rfl (fun h => ?_) (fun h => ?_) <;> (try dsimp only at h)))
  ((refine seE ?_); refine ⟨[], Keep.nil, ?_⟩)
  exact ⟨rfl, rfl⟩
theorem kAsleep_any (b : Nat) (s : Kn) (F : Hp) (hs : List Hp) (ho : KerC b s hs) : Spec Tryz.prog 29 [ptrV b] F hs fun v hs' => v = .bool s.asleep ∧ hs' = hs := by
  obtain ⟨a, hP, hT, hM, hN, hU, hS, hK, hL, hA, hI, hD, hE, hR, hV, hC, rfl, k⟩ := ho
  refine Spec.enter Tryz.func29 rfl Tryz.ntmps29 rfl fun B => ?_
  repeat' (first | refine soA ?_ | refine sgA ?_ | refine sxA ?_ | refine sbA ?_ | refine fun (Q : Post) hQ => ?_ | refine fun (nb : Nat) => (?_ : WL _ _ _ _ _ _ _ _ _) | (refine WL.guard rfl rfl rfl (fun h => ?_) (fun h => ?_) <;> (try dsimp only at h)))
  (refine seE ?_)
  exact ⟨_, (by (exact keA)), rfl, rfl⟩
theorem kAsleep_nil (F : Hp) : Spec Tryz.prog 29 [.pointer none] F [] fun v hs' => v = .bool false ∧ hs' = [] := by
  refine Spec.enter Tryz.func29 rfl Tryz.ntmps29 rfl fun B => ?_
  repeat' (first | refine soA ?_ | refine sgA ?_ | refine sxA ?_ | refine sbA ?_ | refine fun (Q : Post) hQ => ?_ | refine fun (nb : Nat) => (?_ : WL _ _ _ _ _ _ _ _ _) | (refine WL.guard rfl rfl rfl (fun h => ?_) (fun h => ?_) <;> (try dsimp only at h)))
  ((refine seE ?_); refine ⟨[], Keep.nil, ?_⟩)
  exact ⟨rfl, rfl⟩
theorem kMeter_any (b : Nat) (s : Kn) (F : Hp) (hs : List Hp) (ho : KerC b s hs) : Spec Tryz.prog 25 [ptrV b] F hs fun v hs' => v = .agg s.meter.enc.toArray ∧ hs' = hs := by
  obtain ⟨a, hP, hT, hM, hN, hU, hS, hK, hL, hA, hI, hD, hE, hR, hV, hC, rfl, k⟩ := ho
  refine Spec.enter Tryz.func25 rfl Tryz.ntmps25 rfl fun B => ?_
  repeat' (first | ((apply WL.rd; (exact rfl); (exact Rn.loadS (vs := s.meter.enc) rfl (CellsAt.part (by (exact atA)) rfl) rfl))) | (first | refine soA ?_ | refine sgA ?_ | refine sxA ?_ | refine sbA ?_ | refine fun (Q : Post) hQ => ?_ | refine fun (nb : Nat) => (?_ : WL _ _ _ _ _ _ _ _ _) | (refine WL.guard rfl rfl rfl (fun h => ?_) (fun h => ?_) <;> (try dsimp only at h))))
  (refine seE ?_)
  exact ⟨_, (by (exact keA)), rfl, rfl⟩
def policyK (s : Kn) (policy naps : Int) : Kn × Int := if (withinB policy 0 3 && withinB naps 0 1) = true then ({ s with policy := policy, naps := naps == 1 }, 0) else (s, 1)
theorem kpolicy_any (b : Nat) (s : Kn) (policy naps : Int) (F : Hp) (hs : List Hp) (ho : KerC b s hs) : Spec Tryz.prog 97 [ptrV b, .int .i64 policy, .int .i64 naps] F hs fun v hs' => v = .int .i64 (policyK s policy naps).2 ∧ KerC b (policyK s policy naps).1 hs' := by
  have ho2 := ho
  obtain ⟨a, hP, hT, hM, hN, hU, hS, hK, hL, hA, hI, hD, hE, hR, hV, hC, rfl, k⟩ := ho
  refine Spec.enter Tryz.func97 rfl Tryz.ntmps97 rfl fun B => ?_
  repeat' (first | ((refine W.region (id := 1) (WL.ofQ ?_))) | ((apply WQ.rd; (exact rfl); (refine Qn.call Tryz.func152 rfl (by kernel_rfl) rfl (by (exact tsA)) (fun G hG hh => within_any policy 0 3 G)))) | ((apply WH.ex; (exact rfl); (exact rfl); (exact rfl); intro hb; (refine Qn.call Tryz.func152 rfl (by kernel_rfl) rfl (by (exact tsA)) (fun G hG hh => within_any naps 0 1 G)))) | (first | refine sqA ?_ | refine soA ?_ | refine sgA ?_ | refine sxA ?_ | refine sbA ?_ | refine fun (Q : Post) hQ => ?_ | refine fun (nb : Nat) => (?_ : WL _ _ _ _ _ _ _ _ _) | (refine WL.guard rfl rfl rfl (fun h => ?_) (fun h => ?_) <;> (try dsimp only at h)) | (refine WQ.guard rfl rfl rfl (fun h => ?_) (fun h => ?_) <;> (try dsimp only at h))))
  refine W.cond rfl (fun h => ?_) (fun h => ?_)
  · have h1 : ¬ (withinB policy 0 3 && withinB naps 0 1) = true := by
      intro h2
      rw [Bool.and_eq_true] at h2
      rw [h2.1, h2.2] at h
      cases h
    repeat' (first | refine soA ?_ | refine sgA ?_ | refine sxA ?_ | refine sbA ?_ | refine fun (Q : Post) hQ => ?_ | refine fun (nb : Nat) => (?_ : WL _ _ _ _ _ _ _ _ _) | (refine WL.guard rfl rfl rfl (fun h => ?_) (fun h => ?_) <;> (try dsimp only at h)))
    (refine seE ?_)
    exact ⟨[one b (cells (KM s a) 108), hP, hT, hM, hN, hU, hS, hK, hL, hA, hI, hD, hE, hR, hV, hC], (by (exact keA)), by unfold policyK; rw [if_neg h1], by unfold policyK; rw [if_neg h1]; exact ho2⟩
  · have h1 : (withinB policy 0 3 && withinB naps 0 1) = true := by
      cases hp : withinB policy 0 3 <;> cases hq : withinB naps 0 1 <;> rw [hp, hq] at h <;> first | rfl | cases h
    repeat' (first | refine soA ?_ | refine sgA ?_ | refine sxA ?_ | refine sbA ?_ | refine fun (Q : Post) hQ => ?_ | refine fun (nb : Nat) => (?_ : WL _ _ _ _ _ _ _ _ _) | (refine WL.guard rfl rfl rfl (fun h => ?_) (fun h => ?_) <;> (try dsimp only at h)))
    (refine seE ?_)
    refine ⟨[one b (cells (KM { s with policy := policy, naps := naps == 1 } a) 108), hP, hT, hM, hN, hU, hS, hK, hL, hA, hI, hD, hE, hR, hV, hC], (by (exact keA)), by unfold policyK; rw [if_pos h1], ?_⟩
    unfold policyK; rw [if_pos h1]
    exact ⟨a, hP, hT, hM, hN, hU, hS, hK, hL, hA, hI, hD, hE, hR, hV, hC, rfl, { k with }⟩
end Go.Proofs.YtflgnpidelkkpaaGreat
