/- part 47 of the proof: contracts of the functions that the law reaches, and plain laws. -/
import Derived.Test.YtflgnpidelkkpaaGreatMq7
import Derived.Test.YtflgnpidelkkpaaGreatMq40
import Derived.Test.YtflgnpidelkkpaaGreatMq43
import Derived.Test.YtflgnpidelkkpaaGreatMq42
namespace Go.Proofs.YtflgnpidelkkpaaGreat
set_option maxRecDepth 8000
set_option maxHeartbeats 1000000
set_option linter.unusedVariables false
set_option linter.unusedSimpArgs false
theorem newK_has (p : PP) (n : Int) : hasK (newK p) n = false := by
  unfold hasK periodV
  have e : (newK p).tasks = List.replicate 6 TZ := rfl
  rw [e]
  split
  · simp
  · split
    · next t ht =>
      have : t = TZ := List.eq_of_mem_replicate (List.mem_of_getElem? ht)
      subst this
      simp [TZ]
    · simp
theorem newK_next (p : PP) (n : Int) : nextK (newK p) n = 0 := by unfold nextK; rw [if_neg (by rw [newK_has]; decide)]
theorem newK_used (p : PP) (n : Int) : usedK (newK p) n = 0 := by unfold usedK; rw [if_neg (by rw [newK_has]; decide)]
theorem newK_dev (p : PP) (n : Int) : deviceK (newK p) n = ⟨0, 0⟩ := by
  unfold deviceK
  have e : (newK p).devs = List.replicate p.devices.length ⟨0, 0⟩ := rfl
  rw [e]
  split
  · rfl
  · rw [List.getD_eq_getElem?_getD, List.getElem?_replicate]
    split <;> rfl
theorem newK_spent (p : PP) (n : Int) : spentV (newK p) n = 0 := by
  unfold spentV
  split
  · rfl
  · split
    · next x o hx ho =>
      have e : (newK p).devs = List.replicate p.devices.length ⟨0, 0⟩ := rfl
      rw [e] at hx
      have hx2 : x = ⟨0, 0⟩ := List.eq_of_mem_replicate (List.mem_of_getElem? hx)
      subst hx2
      have e2 : (newK p).spent.getD n.toNat 0 = 0 := by
        have : (newK p).spent = List.replicate p.devices.length 0 := rfl
        rw [this, List.getD_eq_getElem?_getD, List.getElem?_replicate]
        split <;> rfl
      have e3 : devEnergyV o ⟨0, 0⟩ (newK p).now = 0 := by
        show devEnergyV o ⟨0, 0⟩ 0 = 0
        unfold devEnergyV neverB
        simp
        try decide
      rw [e2, e3]; rfl
    · rfl
attribute [local irreducible] W X WL WA WB WG WO Rn Own one splice Arr Spec WQ WH Qn
set_option maxHeartbeats 16000000 in
theorem kernBegins_any (p : PlatV) (F : Hp) (hp : PlatX F p) : Spec Tryz.prog 9 [.agg p.enc.toArray] F [] fun v hs => v = .bool true ∧ hs = [] := by
  refine Spec.enter Tryz.func9 rfl Tryz.ntmps9 rfl fun B => ?_
  cases ht : tableQ p.pl with
  | false =>
    repeat' (first | ((apply WL.rd; (exact rfl); (exact ckA))) | ((refine WL.ex rfl (WO.callN Tryz.func33 rfl (by kernel_rfl) rfl (by (exact tsA)) (fun G hG hh => answersKn_any G) ?_); rintro v own' ⟨rfl, rfl⟩)) | ((refine WL.ex rfl (WO.callN Tryz.func34 rfl (by kernel_rfl) rfl (own := []) (by (exact tsA)) (fun G hG hh => knewN (hp.at_.up hG) hp.f1 hp.f2 ht) ?_); rintro v own' ⟨rfl, rfl⟩)) | ((refine WL.ex rfl (WO.callN Tryz.func30 rfl (by kernel_rfl) rfl (own := []) (by (exact tsA)) (fun G hG hh => (rtable_any p G (hp.at_.up hG)).mono fun v hs' (k : v = .bool (tableQ p.pl) ∧ hs' = []) => (⟨by rw [k.1, ht], k.2⟩ : v = .bool false ∧ hs' = [])) ?_); rintro v own' ⟨rfl, rfl⟩)) | (first | refine soA ?_ | refine sgA ?_ | refine sxA ?_ | refine sbA ?_ | refine fun (Q : Post) hQ => ?_ | refine fun (nb : Nat) => (?_ : WL _ _ _ _ _ _ _ _ _) | (refine WL.guard rfl rfl rfl (fun h => ?_) (fun h => ?_) <;> (try dsimp only at h))))
    ((refine seE ?_); refine ⟨[], Keep.nil, ?_⟩)
    exact ⟨rfl, rfl⟩
  | true =>
    have I := newK_inv ht
    have w := I.ok
    have hNx : ∀ (b : Nat) (h : Hp) (n : Int) (G : Hp), KerT b (newK p.pl) h → Spec Tryz.prog 37 [ptrV b, .int .i64 n] G [h] fun v hs' => v = .int .i64 0 ∧ hs' = [h] := fun b h n G k => by have := kNextT (F := G) n w k; rwa [newK_next] at this
    have hUs : ∀ (b : Nat) (h : Hp) (n : Int) (G : Hp), KerT b (newK p.pl) h → Spec Tryz.prog 39 [ptrV b, .int .i64 n] G [h] fun v hs' => v = .int .i64 0 ∧ hs' = [h] := fun b h n G k => by have := kUsedT (F := G) n w k; rwa [newK_used] at this
    have hDv : ∀ (b : Nat) (h : Hp) (n : Int) (G : Hp), KerT b (newK p.pl) h → Spec Tryz.prog 41 [ptrV b, .int .i64 n] G [h] fun v hs' => v = .agg (DevV.enc ⟨0, 0⟩).toArray ∧ hs' = [h] := fun b h n G k => by have := kDeviceT (F := G) n k; rwa [newK_dev] at this
    have hSp : ∀ (b : Nat) (h : Hp) (n : Int) (G : Hp), KerT b (newK p.pl) h → Spec Tryz.prog 42 [ptrV b, .int .i64 n] G [h] fun v hs' => v = .int .i64 0 ∧ hs' = [h] := fun b h n G k => by have := kSpentT (F := G) n w I.mom k; rwa [newK_spent] at this
    have h6 : ∀ ts : List TaskV, ts.map TaskV.pl = (newK p.pl).tasks → ts.length = 6 := fun ts e => by
      have := congrArg List.length e
      rwa [List.length_map] at this
    repeat' (first | ((apply WL.rd; (exact rfl); (exact ckA))) | ((refine WL.ex rfl (WO.callN Tryz.func34 rfl (by kernel_rfl) rfl (own := []) (by (exact tsA)) (fun G hG hh => knewT (hp.at_.up hG) hp.f1 hp.f2 ht) ?_); rintro v own' ⟨b, h0, rfl, rfl, k0⟩)) | ((refine WL.ex rfl (WO.callN Tryz.func44 rfl (by kernel_rfl) rfl (own := [h0]) (by (exact tsA)) (fun G hG hh => kTasksT w k0) ?_); rintro v own' ⟨ts, A4, c4, g4, g5, rfl, rfl, hpl, a4, hsec, hdev⟩; have hts := h6 ts hpl)) | (first | refine soA ?_ | refine sgA ?_ | refine sxA ?_ | refine sbA ?_ | refine fun (Q : Post) hQ => ?_ | refine fun (nb : Nat) => (?_ : WL _ _ _ _ _ _ _ _ _) | (refine WL.guard rfl rfl rfl (fun h => ?_) (fun h => ?_) <;> (try dsimp only at h))))
    (refine W.loopK (σ := Nat) ⟨fun k => k ≤ 6, fun k => [(5, some (.int .i64 (k : Nat))), (3, some (ptrV b))], fun _ => [h0], fun k => 6 - k⟩ 0 (Nat.zero_le _) (by repeat' (first | exact trivial | refine ⟨rfl, ?_⟩)) (by (exact keA)) ?_; intro k hk Q hL; dsimp only at hk ⊢)
    repeat' (first | refine soA ?_ | refine sgA ?_ | refine sxA ?_ | refine sbA ?_ | refine fun (Q : Post) hQ => ?_ | refine fun (nb : Nat) => (?_ : WL _ _ _ _ _ _ _ _ _) | (refine WL.guard rfl rfl rfl (fun h => ?_) (fun h => ?_) <;> (try dsimp only at h)))
    refine W.cond rfl (fun h1 => ?_) (fun h1 => ?_)
    · have hlt : k < 6 := by have := of_decide_eq_true h1; omega
      have hz : ∀ (us : List TaskV) (t : TaskV), us.map TaskV.pl = (newK p.pl).tasks → us[k]? = some t → taskZV.pl = t.pl := fun us t e ht => by
        have h1 := mapT_get ht
        rw [e] at h1
        exact (List.eq_of_mem_replicate (List.mem_of_getElem? h1)).symm
      repeat' (first | ((refine WL.ex rfl (WO.callN Tryz.func44 rfl (by kernel_rfl) rfl (own := [h0]) (by (exact tsA)) (fun G hG hh => kTasksT w k0) ?_); rintro v own' ⟨us, A5, c5, g6, g7, rfl, rfl, hpl2, a5, hsec2, hdev2⟩; obtain ⟨t, ht2⟩ : ∃ t, us[k]? = some t := ⟨_, List.getElem?_eq_getElem (by have := h6 us hpl2; omega)⟩; obtain ⟨gb, go, eA, e1⟩ := (a5.rowX (Hp.le.refl g6)).own (F := F) |>.elem 4 TaskV.enc_len (by omega) k t ht2; have hul := h6 us hpl2; have htm := List.mem_of_getElem? ht2; have hzt := hz us t hpl2 ht2; have hs0 : t.sec.xs = [] := (congrArg TT.sec hzt).symm; have hd0 : t.devs.xs = [] := (congrArg TT.devs hzt).symm)) | ((apply WL.rd; (exact rfl); (exact Rn.indexAddrE k eA rfl rfl (by first | rfl | omega) (by first | assumption | omega)))) | ((apply WL.rd; (exact rfl); (apply Rn.loadS; (exact rfl); (exact (CellsAt.weak e1 (by simp))); (exact rfl)))) | ((refine WL.ex rfl (WO.callN (args := [.agg t.enc.toArray, .agg taskZV.enc.toArray]) Tryz.func45 rfl (by kernel_rfl) rfl (own := []) (by (exact tsA)) (fun G hG hh => sameT_yes t taskZV hzt G ((hsec2 t htm).up (hh g7 (by simp)) (by simp)) ((hdev2 t htm).up (hh g7 (by simp)) (by simp)) RowAt.nil RowAt.nil (by rw [hs0]; exact Nat.zero_le _) (by rw [hd0]; exact Nat.zero_le _)) ?_); rintro v own' ⟨rfl, rfl⟩)) | ((refine WL.ex rfl (WO.callN Tryz.func37 rfl (by kernel_rfl) rfl (own := [h0]) (by (exact tsA)) (fun G hG hh => hNx b h0 _ G k0) ?_); rintro v own' ⟨rfl, rfl⟩)) | ((refine WL.ex rfl (WO.callN Tryz.func39 rfl (by kernel_rfl) rfl (own := [h0]) (by (exact tsA)) (fun G hG hh => hUs b h0 _ G k0) ?_); rintro v own' ⟨rfl, rfl⟩)) | ((refine WL.ex rfl (WO.callN Tryz.func41 rfl (by kernel_rfl) rfl (own := [h0]) (by (exact tsA)) (fun G hG hh => hDv b h0 _ G k0) ?_); rintro v own' ⟨rfl, rfl⟩)) | ((refine WL.ex rfl (WO.callN Tryz.func42 rfl (by kernel_rfl) rfl (own := [h0]) (by (exact tsA)) (fun G hG hh => hSp b h0 _ G k0) ?_); rintro v own' ⟨rfl, rfl⟩)) | ((apply WL.rd; (exact rfl); (apply Rn.build; (exact fpA)))) | ((apply WL.rd; (exact rfl); (exact Rn.to (v' := .bool false) (Rn.neA rfl rfl rfl) rfl))) | ((apply WL.rd; (exact rfl); (exact ckA))) | (first | refine soA ?_ | refine sgA ?_ | refine sxA ?_ | refine sbA ?_ | refine fun (Q : Post) hQ => ?_ | refine fun (nb : Nat) => (?_ : WL _ _ _ _ _ _ _ _ _) | (refine WL.guard rfl rfl rfl (fun h => ?_) (fun h => ?_) <;> (try dsimp only at h))))
      exact hL.nx (k + 1) _ _ (by dsimp only; omega) (by dsimp only; omega) (by repeat' (first | exact trivial | refine ⟨rfl, ?_⟩)) (by (exact keA))
    · obtain rfl : k = 6 := by have := of_decide_eq_false h1; omega
      have hev : (newK p.pl).events.length * 32 ≤ 140737488355328 := Nat.zero_le _
      have htr : (newK p.pl).trace.length * 48 ≤ 140737488355328 := Nat.zero_le _
      repeat' (first | ((refine WL.ex rfl (WO.callN Tryz.func33 rfl (by kernel_rfl) rfl (by (exact tsA)) (fun G hG hh => answersKn_any G) ?_); rintro v own' ⟨rfl, rfl⟩)) | ((refine WL.ex rfl (WO.callN Tryz.func19 rfl (by kernel_rfl) rfl (own := [h0]) (by (exact tsA)) (fun G hG hh => kNowT k0) ?_); rintro v own' ⟨rfl, rfl⟩)) | ((refine WL.ex rfl (WO.callN Tryz.func46 rfl (by kernel_rfl) rfl (own := [h0]) (by (exact tsA)) (fun G hG hh => kLevelT k0) ?_); rintro v own' ⟨rfl, rfl⟩)) | ((refine WL.ex rfl (WO.callN Tryz.func29 rfl (by kernel_rfl) rfl (own := [h0]) (by (exact tsA)) (fun G hG hh => kAsleepT k0) ?_); rintro v own' ⟨rfl, rfl⟩)) | ((refine WL.ex rfl (WO.callN Tryz.func25 rfl (by kernel_rfl) rfl (own := [h0]) (by (exact tsA)) (fun G hG hh => kMeterT k0) ?_); rintro v own' ⟨rfl, rfl⟩)) | ((refine WL.ex rfl (WO.callN Tryz.func47 rfl (by kernel_rfl) rfl (own := [h0]) (by (exact tsA)) (fun G hG hh => kJobsT w k0) ?_); rintro v own' ⟨A1, c1, g1, rfl, rfl, a1⟩)) | ((refine WL.ex rfl (WO.callN Tryz.func48 rfl (by kernel_rfl) rfl (own := [h0]) (by (exact tsA)) (fun G hG hh => kStackT w k0) ?_); rintro v own' ⟨A2, c2, g2, rfl, rfl, a2⟩)) | ((refine WL.ex rfl (WO.callN Tryz.func49 rfl (by kernel_rfl) rfl (own := [h0]) (by (exact tsA)) (fun G hG hh => kHeldT w k0) ?_); rintro v own' ⟨A3, c3, g3, rfl, rfl, a3⟩)) | ((refine WL.ex rfl (WO.callN Tryz.func22 rfl (by kernel_rfl) rfl (own := [h0]) (by (exact tsA)) (fun G hG hh => kTraceT htr k0) ?_); rintro v own' ⟨A7, c7, g8, rfl, rfl, a7⟩)) | ((refine WL.ex rfl (WO.callN Tryz.func28 rfl (by kernel_rfl) rfl (own := [h0]) (by (exact tsA)) (fun G hG hh => kEventsT hev k0) ?_); rintro v own' ⟨A8, c8, g9, rfl, rfl, a8⟩)) | ((apply WL.rd; (exact rfl); (apply Rn.build; (exact fpA)))) | (first | refine soA ?_ | refine sgA ?_ | refine sxA ?_ | refine sbA ?_ | refine fun (Q : Post) hQ => ?_ | refine fun (nb : Nat) => (?_ : WL _ _ _ _ _ _ _ _ _) | (refine WL.guard rfl rfl rfl (fun h => ?_) (fun h => ?_) <;> (try dsimp only at h))))
      ((refine seE ?_); refine ⟨[], Keep.nil, ?_⟩)
      exact ⟨rfl, rfl⟩
end Go.Proofs.YtflgnpidelkkpaaGreat
