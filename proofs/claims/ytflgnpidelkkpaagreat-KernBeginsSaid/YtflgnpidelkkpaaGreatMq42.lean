/- part 42 of the proof: contracts of the functions that the law reaches, and plain laws. -/
import Derived.Test.YtflgnpidelkkpaaGreatMq7
import Derived.Test.YtflgnpidelkkpaaGreatMq38
import Derived.Test.YtflgnpidelkkpaaGreatMq41
import Derived.Test.YtflgnpidelkkpaaGreatMq40
import Derived.Test.YtflgnpidelkkpaaGreatMq18
namespace Go.Proofs.YtflgnpidelkkpaaGreat
set_option maxRecDepth 8000
set_option maxHeartbeats 1000000
set_option linter.unusedVariables false
set_option linter.unusedSimpArgs false
def h1Q (p : PP) : Bool := decide (((p.levels.length : Nat) : Int) < 1) || (decide (4 < ((p.levels.length : Nat) : Int)) || (decide (p.idle < 0) || (decide (65536 < p.idle) || (decide (p.crit < 0) || (decide (((p.levels.length : Nat) : Int) ≤ p.crit) || (decide (p.switch < 0) || (decide (256 < p.switch) || (decide (p.switchE < 0) || decide (65536 < p.switchE)))))))))
def h2Q (p : PP) : Bool := decide (3 < ((p.sleeps.length : Nat) : Int)) || (decide (3 < ((p.devices.length : Nat) : Int)) || (decide (p.sems < 0) || (decide (3 < p.sems) || (decide (p.horizon < 1) || decide (16384 < p.horizon)))))
theorem headQ_iff (p : PP) : headQ p = ((!h1Q p && !h2Q p) && (List.range p.levels.length).all (lvlQ p)) := by
  have hw : (p.levels.length : Nat) ≤ 4 → w64 (((p.levels.length : Nat) : Int) - 1) = ((p.levels.length : Nat) : Int) - 1 := fun h => w64_in (by omega)
  unfold headQ levelsQ h1Q h2Q rgB
  generalize (List.range p.levels.length).all (lvlQ p) = z
  rw [Bool.eq_iff_iff]
  simp only [Bool.and_eq_true, decide_eq_true_eq, Bool.not_eq_true', Bool.or_eq_false_iff, decide_eq_false_iff_not]
  constructor
  · rintro ⟨⟨⟨⟨⟨h1, h2, h3⟩, h4⟩, h5⟩, h6, h7⟩, h8, h9⟩
    have := hw (by omega)
    rw [this] at h2
    refine ⟨?_, h3⟩
    omega
  · rintro ⟨h1, h3⟩
    have := hw (by omega)
    rw [this]
    refine ⟨⟨⟨⟨⟨by omega, ⟨by omega, by omega⟩, h3⟩, by omega⟩, by omega⟩, by omega, by omega⟩, by omega, by omega⟩
theorem tableQ_1 {p : PP} (h : h1Q p = true) : tableQ p = false := by unfold tableQ; rw [headQ_iff, h]; rfl
theorem tableQ_2 {p : PP} (h : h2Q p = true) : tableQ p = false := by unfold tableQ; rw [headQ_iff, h]; simp
theorem tableQ_3 {p : PP} (h1 : h1Q p = false) (h2 : h2Q p = false) : tableQ p = ((List.range p.levels.length).all (lvlQ p) && (p.sleeps.all (slpQ p.idle) && p.devices.all dvcQ)) := by
  unfold tableQ; rw [headQ_iff, h1, h2]; rfl
def a1Q (down up downE upE off on : Int) : Bool := decide (down < 0) || (decide (256 < down) || (decide (up < 0) || (decide (256 < up) || (decide (downE < 0) || (decide (65536 < downE) || (decide (upE < 0) || (decide (65536 < upE) || (decide (on < 0) || (decide (65536 < on) || (decide (off < 0) || decide (on < off)))))))))))
theorem a1Q_iff (down up downE upE off on : Int) : (rgB down 0 256 && (rgB up 0 256 && (rgB downE 0 65536 && (rgB upE 0 65536 && (rgB on 0 65536 && rgB off 0 on))))) = !a1Q down up downE upE off on := by
  unfold a1Q rgB
  rw [Bool.eq_iff_iff]
  simp only [Bool.and_eq_true, decide_eq_true_eq, Bool.not_eq_true', Bool.or_eq_false_iff, decide_eq_false_iff_not]
  omega
theorem rgB_max (e x : Int) : rgB e (maxV x 1) 16384 = (decide (x ≤ e) && (decide (1 ≤ e) && decide (e ≤ 16384))) := by
  unfold rgB maxV
  rw [Bool.eq_iff_iff]
  simp only [Bool.and_eq_true, decide_eq_true_eq]
  split <;> omega
attribute [local irreducible] W X WL WA WB WG WO Rn Own one splice Arr Spec WQ WH Qn
set_option maxHeartbeats 4000000 in
theorem rtaway_any (down up downE upE off on even : Int) (F : Hp) : Spec Tryz.prog 111 [.int .i64 down, .int .i64 up, .int .i64 downE, .int .i64 upE, .int .i64 off, .int .i64 on, .int .i64 even] F [] fun v hs => v = .bool (awayQ down up downE upE off on even) ∧ hs = [] := by
  refine Spec.enter Tryz.func111 rfl Tryz.ntmps111 rfl fun B => ?_
  have e0 : awayQ down up downE upE off on even = (!a1Q down up downE upE off on && ((decide (w64 (down + up) ≤ even) && (decide (1 ≤ even) && decide (even ≤ 16384))) && decide (w64 (w64 (downE + upE) + w64 (off * w64 (w64 (even - down) - up))) ≤ w64 (on * even)))) := by
    unfold awayQ; rw [a1Q_iff, rgB_max]
  repeat' (first | refine soA ?_ | refine sgA ?_ | refine sxA ?_ | refine sbA ?_ | refine fun (Q : Post) hQ => ?_ | refine fun (nb : Nat) => (?_ : WL _ _ _ _ _ _ _ _ _) | (refine WL.guard rfl rfl rfl (fun h => ?_) (fun h => ?_) <;> (try dsimp only at h)))
  refine W.cond rfl (fun h => ?_) (fun h => ?_)
  · have e : a1Q down up downE upE off on = true := by unfold a1Q; rw [← h]; simp only [Bool.or_assoc]
    rw [e] at e0
    repeat' (first | refine soA ?_ | refine sgA ?_ | refine sxA ?_ | refine sbA ?_ | refine fun (Q : Post) hQ => ?_ | refine fun (nb : Nat) => (?_ : WL _ _ _ _ _ _ _ _ _) | (refine WL.guard rfl rfl rfl (fun h => ?_) (fun h => ?_) <;> (try dsimp only at h)))
    ((refine seE ?_); refine ⟨[], Keep.nil, ?_⟩)
    exact ⟨by rw [e0]; rfl, rfl⟩
  · have e : a1Q down up downE upE off on = false := by unfold a1Q; rw [← h]; simp only [Bool.or_assoc]
    rw [e] at e0
    repeat' (first | ((apply WL.rd; (exact rfl); (first | exact Rn.addW rfl rfl | exact Rn.subW rfl rfl | exact Rn.mulW rfl rfl))) | ((apply WG.ex; (exact rfl); (exact rfl); (exact rfl); intro hb; (first | exact Rn.addW rfl rfl | exact Rn.subW rfl rfl | exact Rn.mulW rfl rfl))) | (first | refine soA ?_ | refine sgA ?_ | refine sxA ?_ | refine sbA ?_ | refine fun (Q : Post) hQ => ?_ | refine fun (nb : Nat) => (?_ : WL _ _ _ _ _ _ _ _ _) | (refine WL.guard rfl rfl rfl (fun h => ?_) (fun h => ?_) <;> (try dsimp only at h))))
    ((refine seE ?_); refine ⟨[], Keep.nil, ?_⟩)
    exact ⟨by rw [e0]; simp only [Bool.and_assoc]; rfl, rfl⟩
theorem rtslp_any (s : SleepV) (idle : Int) (F : Hp) : Spec Tryz.prog 67 [.agg s.enc.toArray, .int .i64 idle] F [] fun v hs => v = .bool (slpQ idle s) ∧ hs = [] := by
  refine Spec.enter Tryz.func67 rfl Tryz.ntmps67 rfl fun B => ?_
  repeat' (first | ((apply WQ.rd; (exact rfl); (refine Qn.call Tryz.func111 rfl (by kernel_rfl) rfl (by (exact tsA)) (fun G hG hh => rtaway_any _ _ _ _ _ _ _ G)))) | ((refine WL.ex rfl (WO.callN Tryz.func111 rfl (by kernel_rfl) rfl (by (exact tsA)) (fun G hG hh => rtaway_any _ _ _ _ _ _ _ G) ?_); rintro v own' ⟨rfl, rfl⟩)) | (first | refine sqA ?_ | refine soA ?_ | refine sgA ?_ | refine sxA ?_ | refine sbA ?_ | refine suA ?_ | refine fun (Q : Post) hQ => ?_ | refine fun (nb : Nat) => (?_ : WL _ _ _ _ _ _ _ _ _) | (refine WL.guard rfl rfl rfl (fun h => ?_) (fun h => ?_) <;> (try dsimp only at h)) | (refine WQ.guard rfl rfl rfl (fun h => ?_) (fun h => ?_) <;> (try dsimp only at h))))
  ((refine seE ?_); refine ⟨[], Keep.nil, ?_⟩)
  exact ⟨rfl, rfl⟩
theorem rtdvc_any (d : DeviceV) (F : Hp) : Spec Tryz.prog 68 [.agg d.enc.toArray] F [] fun v hs => v = .bool (dvcQ d) ∧ hs = [] := by
  refine Spec.enter Tryz.func68 rfl Tryz.ntmps68 rfl fun B => ?_
  repeat' (first | ((apply WQ.rd; (exact rfl); (refine Qn.call Tryz.func111 rfl (by kernel_rfl) rfl (by (exact tsA)) (fun G hG hh => rtaway_any _ _ _ _ _ _ _ G)))) | ((refine WL.ex rfl (WO.callN Tryz.func111 rfl (by kernel_rfl) rfl (by (exact tsA)) (fun G hG hh => rtaway_any _ _ _ _ _ _ _ G) ?_); rintro v own' ⟨rfl, rfl⟩)) | (first | refine sqA ?_ | refine soA ?_ | refine sgA ?_ | refine sxA ?_ | refine sbA ?_ | refine suA ?_ | refine fun (Q : Post) hQ => ?_ | refine fun (nb : Nat) => (?_ : WL _ _ _ _ _ _ _ _ _) | (refine WL.guard rfl rfl rfl (fun h => ?_) (fun h => ?_) <;> (try dsimp only at h)) | (refine WQ.guard rfl rfl rfl (fun h => ?_) (fun h => ?_) <;> (try dsimp only at h))))
  ((refine seE ?_); refine ⟨[], Keep.nil, ?_⟩)
  exact ⟨rfl, rfl⟩
set_option maxHeartbeats 16000000 in
theorem rtable_any (p : PlatV) (F : Hp) (hp : PlatAt F p) : Spec Tryz.prog 30 [.agg p.enc.toArray] F [] fun v hs => v = .bool (tableQ p.pl) ∧ hs = [] := by
  refine Spec.enter Tryz.func30 rfl Tryz.ntmps30 rfl fun B => ?_
  refine W.seqK fun Q hQ => ?_
  refine W.region ?_
  refine WL.ex rfl (WO.box rfl rfl fun pb => ?_)
  repeat' (first | refine soA ?_ | refine sgA ?_ | refine sxA ?_ | refine sbA ?_ | refine fun (Q : Post) hQ => ?_ | refine fun (nb : Nat) => (?_ : WL _ _ _ _ _ _ _ _ _) | (refine WL.guard rfl rfl rfl (fun h => ?_) (fun h => ?_) <;> (try dsimp only at h)))
  refine W.cond rfl (fun h => ?_) (fun h => ?_)
  · have e : h1Q p.pl = true := by unfold h1Q; rw [← h]; simp only [Bool.or_assoc]; rfl
    have e2 := tableQ_1 e
    repeat' (first | refine soA ?_ | refine sgA ?_ | refine sxA ?_ | refine sbA ?_ | refine fun (Q : Post) hQ => ?_ | refine fun (nb : Nat) => (?_ : WL _ _ _ _ _ _ _ _ _) | (refine WL.guard rfl rfl rfl (fun h => ?_) (fun h => ?_) <;> (try dsimp only at h)))
    ((refine seE ?_); refine ⟨[], Keep.nil, ?_⟩)
    exact ⟨by rw [e2], rfl⟩
  · have e1 : h1Q p.pl = false := by unfold h1Q; rw [← h]; simp only [Bool.or_assoc]; rfl
    repeat' (first | refine soA ?_ | refine sgA ?_ | refine sxA ?_ | refine sbA ?_ | refine fun (Q : Post) hQ => ?_ | refine fun (nb : Nat) => (?_ : WL _ _ _ _ _ _ _ _ _) | (refine WL.guard rfl rfl rfl (fun h => ?_) (fun h => ?_) <;> (try dsimp only at h)))
    refine W.cond rfl (fun h => ?_) (fun h => ?_)
    · have e : h2Q p.pl = true := by unfold h2Q; rw [← h]; simp only [Bool.or_assoc]; rfl
      have e2 := tableQ_2 e
      repeat' (first | refine soA ?_ | refine sgA ?_ | refine sxA ?_ | refine sbA ?_ | refine fun (Q : Post) hQ => ?_ | refine fun (nb : Nat) => (?_ : WL _ _ _ _ _ _ _ _ _) | (refine WL.guard rfl rfl rfl (fun h => ?_) (fun h => ?_) <;> (try dsimp only at h)))
      ((refine seE ?_); refine ⟨[], Keep.nil, ?_⟩)
      exact ⟨by rw [e2], rfl⟩
    · have e2 : h2Q p.pl = false := by unfold h2Q; rw [← h]; simp only [Bool.or_assoc]; rfl
      have e3 := tableQ_3 e1 e2
      have hl4 : p.levels.xs.length ≤ 4 := by
        unfold h1Q at e1
        simp only [Bool.or_eq_false_iff, decide_eq_false_iff_not] at e1
        have h4 := e1.2.1
        have h5 : ¬ 4 < ((p.levels.xs.length : Nat) : Int) := h4
        omega
      have hs3 : p.sleeps.xs.length ≤ 3 := by
        unfold h2Q at e2
        simp only [Bool.or_eq_false_iff, decide_eq_false_iff_not] at e2
        have h5 : ¬ 3 < ((p.sleeps.xs.length : Nat) : Int) := e2.1
        omega
      have hd3 : p.devices.xs.length ≤ 3 := by
        unfold h2Q at e2
        simp only [Bool.or_eq_false_iff, decide_eq_false_iff_not] at e2
        have h5 : ¬ 3 < ((p.devices.xs.length : Nat) : Int) := e2.2.1
        omega
      have ex : tableQ p.pl = ((List.range p.levels.xs.length).all (lvlQ p.pl) && (p.sleeps.xs.all (slpQ p.idle) && p.devices.xs.all dvcQ)) := e3
      clear e1 e2 e3
      repeat' (first | ((refine W.cutK (c := .seq (.region 5 _ _) _) (σ := Nat) ⟨fun _ => (List.range p.levels.xs.length).all (lvlQ p.pl) = true, fun _ => [(1, some (.pointer (some ⟨pb, 0, none⟩)))], fun _ => [one pb (cells p.enc 26)], fun _ => 0⟩ (fun Q' hMt => ?_) ?_)) | (first | refine soA ?_ | refine sgA ?_ | refine sxA ?_ | refine sbA ?_ | refine fun (Q : Post) hQ => ?_ | refine fun (nb : Nat) => (?_ : WL _ _ _ _ _ _ _ _ _) | (refine WL.guard rfl rfl rfl (fun h => ?_) (fun h => ?_) <;> (try dsimp only at h))))
      · skip
        repeat' (first | refine soA ?_ | refine sgA ?_ | refine sxA ?_ | refine sbA ?_ | refine fun (Q : Post) hQ => ?_ | refine fun (nb : Nat) => (?_ : WL _ _ _ _ _ _ _ _ _) | (refine WL.guard rfl rfl rfl (fun h => ?_) (fun h => ?_) <;> (try dsimp only at h)))
        refine W.loopK (σ := Nat) ⟨fun k => k ≤ p.levels.xs.length ∧ (List.range k).all (lvlQ p.pl) = true, fun k => [(3, some (.int .i64 (k : Nat))), (1, some (.pointer (some ⟨pb, 0, none⟩)))], fun _ => [one pb (cells p.enc 26)], fun k => p.levels.xs.length - k⟩ 0 ⟨Nat.zero_le _, rfl⟩ (by repeat' (first | exact trivial | refine ⟨rfl, ?_⟩)) (by (exact keA)) ?_
        intro k hk Q hL
        obtain ⟨hk, ha⟩ := hk
        dsimp only at hk ha ⊢
        repeat' (first | refine soA ?_ | refine sgA ?_ | refine sxA ?_ | refine sbA ?_ | refine fun (Q : Post) hQ => ?_ | refine fun (nb : Nat) => (?_ : WL _ _ _ _ _ _ _ _ _) | (refine WL.guard rfl rfl rfl (fun h => ?_) (fun h => ?_) <;> (try dsimp only at h)))
        refine W.cond rfl (fun h3 => ?_) (fun h3 => ?_)
        · have hlt : k < p.levels.xs.length := by simpa using h3
          obtain ⟨l, hl⟩ : ∃ l, p.levels.xs[k]? = some l := ⟨_, List.getElem?_eq_getElem (by simpa using hlt)⟩
          obtain ⟨g, o, eA, g1⟩ := hp.levels.elem 2 LevelV.enc_len (by omega) k l hl
          have hst := all_rg_succ (lvlQ p.pl) k
          rw [ha, Bool.true_and] at hst
          have hl2 : p.pl.levels[k]? = some l := hl
          have hlv : lvlQ p.pl k = ((rgB l.P 1 256 && rgB l.E 0 65536) && (k == 0 || behQ p.pl.idle p.pl.crit k l (p.pl.levels.getD (k - 1) ⟨0, 0⟩))) := by unfold lvlQ; rw [hl2]
          have bad : lvlQ p.pl k = false → tableQ p.pl = false := fun h => by rw [ex, all_rg_no hlt h]; rfl
          have badr : (rgB l.P 1 256 && rgB l.E 0 65536) = false → tableQ p.pl = false := fun h => bad (by rw [hlv, h]; rfl)
          have hrg : (rgB l.P 1 256 && rgB l.E 0 65536) = true ↔ ((1 ≤ l.P ∧ l.P ≤ 256) ∧ (0 ≤ l.E ∧ l.E ≤ 65536)) := by unfold rgB; simp
          by_cases c1 : l.P < 1
          · have e5 : tableQ p.pl = false := badr (by rw [← Bool.not_eq_true, hrg]; omega)
            repeat' (first | ((apply WL.rd; (exact rfl); (exact Rn.indexAddrE k eA rfl rfl (by first | rfl | omega) (by first | assumption | omega)))) | ((apply WL.rd; (exact rfl); (apply Rn.loadS; (exact rfl); (exact (CellsAt.weak g1 (by simp))); (exact rfl)))) | ((apply WQ.rd; (exact rfl); apply Rn.q; (exact ckA))) | (first | refine sqA ?_ | refine soA ?_ | refine sgA ?_ | refine sxA ?_ | refine sbA ?_ | refine suA ?_ | refine fun (Q : Post) hQ => ?_ | refine fun (nb : Nat) => (?_ : WL _ _ _ _ _ _ _ _ _) | (refine WL.guard rfl rfl rfl (fun h => ?_) (fun h => ?_) <;> (try dsimp only at h)) | (refine WQ.guard rfl rfl rfl (fun h => ?_) (fun h => ?_) <;> (try dsimp only at h))))
            ((refine seE ?_); refine ⟨[], Keep.nil, ?_⟩)
            exact ⟨by rw [e5], rfl⟩
          · by_cases c2 : 256 < l.P
            · have e5 : tableQ p.pl = false := badr (by rw [← Bool.not_eq_true, hrg]; omega)
              repeat' (first | ((apply WL.rd; (exact rfl); (exact Rn.indexAddrE k eA rfl rfl (by first | rfl | omega) (by first | assumption | omega)))) | ((apply WL.rd; (exact rfl); (apply Rn.loadS; (exact rfl); (exact (CellsAt.weak g1 (by simp))); (exact rfl)))) | ((apply WQ.rd; (exact rfl); apply Rn.q; (exact ckA))) | (first | refine sqA ?_ | refine soA ?_ | refine sgA ?_ | refine sxA ?_ | refine sbA ?_ | refine suA ?_ | refine fun (Q : Post) hQ => ?_ | refine fun (nb : Nat) => (?_ : WL _ _ _ _ _ _ _ _ _) | (refine WL.guard rfl rfl rfl (fun h => ?_) (fun h => ?_) <;> (try dsimp only at h)) | (refine WQ.guard rfl rfl rfl (fun h => ?_) (fun h => ?_) <;> (try dsimp only at h))))
              ((refine seE ?_); refine ⟨[], Keep.nil, ?_⟩)
              exact ⟨by rw [e5], rfl⟩
            · by_cases c3 : l.E < 0
              · have e5 : tableQ p.pl = false := badr (by rw [← Bool.not_eq_true, hrg]; omega)
                repeat' (first | ((apply WL.rd; (exact rfl); (exact Rn.indexAddrE k eA rfl rfl (by first | rfl | omega) (by first | assumption | omega)))) | ((apply WL.rd; (exact rfl); (apply Rn.loadS; (exact rfl); (exact (CellsAt.weak g1 (by simp))); (exact rfl)))) | ((apply WQ.rd; (exact rfl); apply Rn.q; (exact ckA))) | (first | refine sqA ?_ | refine soA ?_ | refine sgA ?_ | refine sxA ?_ | refine sbA ?_ | refine suA ?_ | refine fun (Q : Post) hQ => ?_ | refine fun (nb : Nat) => (?_ : WL _ _ _ _ _ _ _ _ _) | (refine WL.guard rfl rfl rfl (fun h => ?_) (fun h => ?_) <;> (try dsimp only at h)) | (refine WQ.guard rfl rfl rfl (fun h => ?_) (fun h => ?_) <;> (try dsimp only at h))))
                ((refine seE ?_); refine ⟨[], Keep.nil, ?_⟩)
                exact ⟨by rw [e5], rfl⟩
              · by_cases c4 : 65536 < l.E
                · have e5 : tableQ p.pl = false := badr (by rw [← Bool.not_eq_true, hrg]; omega)
                  repeat' (first | ((apply WL.rd; (exact rfl); (exact Rn.indexAddrE k eA rfl rfl (by first | rfl | omega) (by first | assumption | omega)))) | ((apply WL.rd; (exact rfl); (apply Rn.loadS; (exact rfl); (exact (CellsAt.weak g1 (by simp))); (exact rfl)))) | ((apply WQ.rd; (exact rfl); apply Rn.q; (exact ckA))) | (first | refine sqA ?_ | refine soA ?_ | refine sgA ?_ | refine sxA ?_ | refine sbA ?_ | refine suA ?_ | refine fun (Q : Post) hQ => ?_ | refine fun (nb : Nat) => (?_ : WL _ _ _ _ _ _ _ _ _) | (refine WL.guard rfl rfl rfl (fun h => ?_) (fun h => ?_) <;> (try dsimp only at h)) | (refine WQ.guard rfl rfl rfl (fun h => ?_) (fun h => ?_) <;> (try dsimp only at h))))
                  ((refine seE ?_); refine ⟨[], Keep.nil, ?_⟩)
                  exact ⟨by rw [e5], rfl⟩
                · have er := hrg.2 (by omega)
                  rw [er, Bool.true_and] at hlv
                  by_cases c0 : k = 0
                  · have hy : lvlQ p.pl k = true := by rw [hlv, c0]; rfl
                    rw [hy] at hst
                    repeat' (first | ((apply WL.rd; (exact rfl); (exact Rn.indexAddrE k eA rfl rfl (by first | rfl | omega) (by first | assumption | omega)))) | ((apply WL.rd; (exact rfl); (apply Rn.loadS; (exact rfl); (exact (CellsAt.weak g1 (by simp))); (exact rfl)))) | ((apply WQ.rd; (exact rfl); apply Rn.q; (exact ckA))) | (first | refine sqA ?_ | refine soA ?_ | refine sgA ?_ | refine sxA ?_ | refine sbA ?_ | refine suA ?_ | refine fun (Q : Post) hQ => ?_ | refine fun (nb : Nat) => (?_ : WL _ _ _ _ _ _ _ _ _) | (refine WL.guard rfl rfl rfl (fun h => ?_) (fun h => ?_) <;> (try dsimp only at h)) | (refine WQ.guard rfl rfl rfl (fun h => ?_) (fun h => ?_) <;> (try dsimp only at h))))
                    exact hL.nx (k + 1) _ _ ⟨hlt, hst⟩ (by dsimp only; omega) (by repeat' (first | exact trivial | refine ⟨rfl, ?_⟩)) (by (exact keA))
                  · obtain ⟨q, hq⟩ : ∃ q, p.levels.xs[k - 1]? = some q := ⟨_, List.getElem?_eq_getElem (by omega)⟩
                    obtain ⟨g', o', eA', g1'⟩ := hp.levels.elem 2 LevelV.enc_len (by omega) (k - 1) q hq
                    have hj : ((k : Int) - 1) = ((k - 1 : Nat) : Int) := by omega
                    have hjl : k - 1 < p.levels.xs.length := by omega
                    have hgq : p.pl.levels.getD (k - 1) ⟨0, 0⟩ = q := by rw [List.getD_eq_getElem?_getD, show p.pl.levels[k - 1]? = some q from hq]; rfl
                    rw [hgq, show (k == 0) = false from beq_eq_false_iff_ne.2 c0, Bool.false_or] at hlv
                    by_cases d1 : l.P ≤ q.P
                    · have e5 : tableQ p.pl = false := bad (by rw [hlv]; unfold behQ; rw [decide_eq_false (by omega)]; rfl)
                      repeat' (first | ((apply WL.rd; (exact rfl); (exact Rn.indexAddrE k eA rfl rfl (by first | rfl | omega) (by first | assumption | omega)))) | ((apply WL.rd; (exact rfl); (apply Rn.loadS; (exact rfl); (exact (CellsAt.weak g1 (by simp))); (exact rfl)))) | ((apply WQ.rd; (exact rfl); apply Rn.q; (exact ckA))) | ((apply WQ.rd; (exact rfl); apply Rn.q; (exact Rn.indexAddrE (k - 1) eA' rfl rfl hj hjl))) | ((apply WQ.rd; (exact rfl); apply Rn.q; (apply Rn.load; (exact rfl); (exact (CellsAt.weak g1' (by simp)) 0 _ rfl)))) | ((apply WQ.rd; (exact rfl); apply Rn.q; (apply Rn.load; (exact rfl); (exact (CellsAt.weak g1' (by simp)) 1 _ rfl)))) | (first | refine sqA ?_ | refine soA ?_ | refine sgA ?_ | refine sxA ?_ | refine sbA ?_ | refine suA ?_ | refine fun (Q : Post) hQ => ?_ | refine fun (nb : Nat) => (?_ : WL _ _ _ _ _ _ _ _ _) | (refine WL.guard rfl rfl rfl (fun h => ?_) (fun h => ?_) <;> (try dsimp only at h)) | (refine WQ.guard rfl rfl rfl (fun h => ?_) (fun h => ?_) <;> (try dsimp only at h))))
                      ((refine seE ?_); refine ⟨[], Keep.nil, ?_⟩)
                      exact ⟨by rw [e5], rfl⟩
                    · by_cases d2 : (k : Int) ≤ p.crit
                      · by_cases d3 : w64 (l.E - w64 (l.P * p.idle)) ≤ w64 (q.E - w64 (q.P * p.idle))
                        · have hy : lvlQ p.pl k = true := by rw [hlv]; unfold behQ; rw [decide_eq_true (by omega), show decide (w64 (l.E - w64 (l.P * p.pl.idle)) ≤ w64 (q.E - w64 (q.P * p.pl.idle))) = true from decide_eq_true d3]; simp
                          rw [hy] at hst
                          repeat' (first | ((apply WL.rd; (exact rfl); (exact Rn.indexAddrE k eA rfl rfl (by first | rfl | omega) (by first | assumption | omega)))) | ((apply WL.rd; (exact rfl); (apply Rn.loadS; (exact rfl); (exact (CellsAt.weak g1 (by simp))); (exact rfl)))) | ((apply WQ.rd; (exact rfl); apply Rn.q; (exact ckA))) | ((apply WQ.rd; (exact rfl); apply Rn.q; (exact Rn.indexAddrE (k - 1) eA' rfl rfl hj hjl))) | ((apply WQ.rd; (exact rfl); apply Rn.q; (apply Rn.load; (exact rfl); (exact (CellsAt.weak g1' (by simp)) 0 _ rfl)))) | ((apply WQ.rd; (exact rfl); apply Rn.q; (apply Rn.load; (exact rfl); (exact (CellsAt.weak g1' (by simp)) 1 _ rfl)))) | ((apply WQ.rd; (exact rfl); apply Rn.q; (first | exact Rn.mulW rfl rfl | exact Rn.sub rfl rfl (by omega) | exact Rn.subW rfl rfl))) | ((apply WQ.rd; (exact rfl); apply Rn.q; (exact Rn.cmp (b := false) rfl rfl (congrArg some (decide_eq_false (Int.not_lt.2 d3)))))) | (first | refine sqA ?_ | refine soA ?_ | refine sgA ?_ | refine sxA ?_ | refine sbA ?_ | refine suA ?_ | refine fun (Q : Post) hQ => ?_ | refine fun (nb : Nat) => (?_ : WL _ _ _ _ _ _ _ _ _) | (refine WL.guard rfl rfl rfl (fun h => ?_) (fun h => ?_) <;> (try dsimp only at h)) | (refine WQ.guard rfl rfl rfl (fun h => ?_) (fun h => ?_) <;> (try dsimp only at h))))
                          exact hL.nx (k + 1) _ _ ⟨hlt, hst⟩ (by dsimp only; omega) (by repeat' (first | exact trivial | refine ⟨rfl, ?_⟩)) (by (exact keA))
                        · have e5 : tableQ p.pl = false := bad (by rw [hlv]; unfold behQ; rw [show decide ((k : Int) ≤ p.pl.crit) = true from decide_eq_true d2, show decide (w64 (l.E - w64 (l.P * p.pl.idle)) ≤ w64 (q.E - w64 (q.P * p.pl.idle))) = false from decide_eq_false d3]; simp)
                          repeat' (first | ((apply WL.rd; (exact rfl); (exact Rn.indexAddrE k eA rfl rfl (by first | rfl | omega) (by first | assumption | omega)))) | ((apply WL.rd; (exact rfl); (apply Rn.loadS; (exact rfl); (exact (CellsAt.weak g1 (by simp))); (exact rfl)))) | ((apply WQ.rd; (exact rfl); apply Rn.q; (exact ckA))) | ((apply WQ.rd; (exact rfl); apply Rn.q; (exact Rn.indexAddrE (k - 1) eA' rfl rfl hj hjl))) | ((apply WQ.rd; (exact rfl); apply Rn.q; (apply Rn.load; (exact rfl); (exact (CellsAt.weak g1' (by simp)) 0 _ rfl)))) | ((apply WQ.rd; (exact rfl); apply Rn.q; (apply Rn.load; (exact rfl); (exact (CellsAt.weak g1' (by simp)) 1 _ rfl)))) | ((apply WQ.rd; (exact rfl); apply Rn.q; (first | exact Rn.mulW rfl rfl | exact Rn.sub rfl rfl (by omega) | exact Rn.subW rfl rfl))) | ((apply WQ.rd; (exact rfl); apply Rn.q; (exact Rn.cmp (b := true) rfl rfl (congrArg some (decide_eq_true (Int.not_le.1 d3)))))) | (first | refine sqA ?_ | refine soA ?_ | refine sgA ?_ | refine sxA ?_ | refine sbA ?_ | refine suA ?_ | refine fun (Q : Post) hQ => ?_ | refine fun (nb : Nat) => (?_ : WL _ _ _ _ _ _ _ _ _) | (refine WL.guard rfl rfl rfl (fun h => ?_) (fun h => ?_) <;> (try dsimp only at h)) | (refine WQ.guard rfl rfl rfl (fun h => ?_) (fun h => ?_) <;> (try dsimp only at h))))
                          ((refine seE ?_); refine ⟨[], Keep.nil, ?_⟩)
                          exact ⟨by rw [e5], rfl⟩
                      · have hy : lvlQ p.pl k = true := by rw [hlv]; unfold behQ; rw [decide_eq_true (by omega), show decide ((k : Int) ≤ p.pl.crit) = false from decide_eq_false d2]; simp
                        rw [hy] at hst
                        repeat' (first | ((apply WL.rd; (exact rfl); (exact Rn.indexAddrE k eA rfl rfl (by first | rfl | omega) (by first | assumption | omega)))) | ((apply WL.rd; (exact rfl); (apply Rn.loadS; (exact rfl); (exact (CellsAt.weak g1 (by simp))); (exact rfl)))) | ((apply WQ.rd; (exact rfl); apply Rn.q; (exact ckA))) | ((apply WQ.rd; (exact rfl); apply Rn.q; (exact Rn.indexAddrE (k - 1) eA' rfl rfl hj hjl))) | ((apply WQ.rd; (exact rfl); apply Rn.q; (apply Rn.load; (exact rfl); (exact (CellsAt.weak g1' (by simp)) 0 _ rfl)))) | ((apply WQ.rd; (exact rfl); apply Rn.q; (apply Rn.load; (exact rfl); (exact (CellsAt.weak g1' (by simp)) 1 _ rfl)))) | (first | refine sqA ?_ | refine soA ?_ | refine sgA ?_ | refine sxA ?_ | refine sbA ?_ | refine suA ?_ | refine fun (Q : Post) hQ => ?_ | refine fun (nb : Nat) => (?_ : WL _ _ _ _ _ _ _ _ _) | (refine WL.guard rfl rfl rfl (fun h => ?_) (fun h => ?_) <;> (try dsimp only at h)) | (refine WQ.guard rfl rfl rfl (fun h => ?_) (fun h => ?_) <;> (try dsimp only at h))))
                        exact hL.nx (k + 1) _ _ ⟨hlt, hst⟩ (by dsimp only; omega) (by repeat' (first | exact trivial | refine ⟨rfl, ?_⟩)) (by (exact keA))
        · obtain rfl : k = p.levels.xs.length := by simp at h3; omega
          repeat' (first | refine soA ?_ | refine sgA ?_ | refine sxA ?_ | refine sbA ?_ | refine fun (Q : Post) hQ => ?_ | refine fun (nb : Nat) => (?_ : WL _ _ _ _ _ _ _ _ _) | (refine WL.guard rfl rfl rfl (fun h => ?_) (fun h => ?_) <;> (try dsimp only at h)))
          exact hMt.nx 0 _ _ ha (by repeat' (first | exact trivial | refine ⟨rfl, ?_⟩)) (by (exact keA))
      · intro _ hlv
        dsimp only at hlv ⊢
        rw [hlv, Bool.true_and] at ex
        repeat' (first | ((refine W.cutK (c := .seq (.region 13 _ _) _) (σ := Nat) ⟨fun _ => p.sleeps.xs.all (slpQ p.idle) = true, fun _ => [(1, some (.pointer (some ⟨pb, 0, none⟩)))], fun _ => [one pb (cells p.enc 26)], fun _ => 0⟩ (fun Q' hMt => ?_) ?_)) | (first | refine soA ?_ | refine sgA ?_ | refine sxA ?_ | refine sbA ?_ | refine fun (Q : Post) hQ => ?_ | refine fun (nb : Nat) => (?_ : WL _ _ _ _ _ _ _ _ _) | (refine WL.guard rfl rfl rfl (fun h => ?_) (fun h => ?_) <;> (try dsimp only at h))))
        · skip
          repeat' (first | refine soA ?_ | refine sgA ?_ | refine sxA ?_ | refine sbA ?_ | refine fun (Q : Post) hQ => ?_ | refine fun (nb : Nat) => (?_ : WL _ _ _ _ _ _ _ _ _) | (refine WL.guard rfl rfl rfl (fun h => ?_) (fun h => ?_) <;> (try dsimp only at h)))
          refine W.loopK (σ := Nat) ⟨fun k => k ≤ p.sleeps.xs.length ∧ (p.sleeps.xs.take k).all (slpQ p.idle) = true, fun k => [(5, some (.int .i64 (k : Nat))), (1, some (.pointer (some ⟨pb, 0, none⟩)))], fun _ => [one pb (cells p.enc 26)], fun k => p.sleeps.xs.length - k⟩ 0 ⟨Nat.zero_le _, rfl⟩ (by repeat' (first | exact trivial | refine ⟨rfl, ?_⟩)) (by (exact keA)) ?_
          intro k hk Q hL
          obtain ⟨hk, ha⟩ := hk
          dsimp only at hk ha ⊢
          repeat' (first | refine soA ?_ | refine sgA ?_ | refine sxA ?_ | refine sbA ?_ | refine fun (Q : Post) hQ => ?_ | refine fun (nb : Nat) => (?_ : WL _ _ _ _ _ _ _ _ _) | (refine WL.guard rfl rfl rfl (fun h => ?_) (fun h => ?_) <;> (try dsimp only at h)))
          refine W.cond rfl (fun h3 => ?_) (fun h3 => ?_)
          · have hlt : k < p.sleeps.xs.length := by simpa using h3
            obtain ⟨d, hd⟩ : ∃ d, p.sleeps.xs[k]? = some d := ⟨_, List.getElem?_eq_getElem (by simpa using hlt)⟩
            obtain ⟨g, o, eA, g1⟩ := hp.sleeps.elem 6 SleepV.enc_len (by omega) k d hd
            have hst := all_tk_succ hd (slpQ p.idle)
            rw [ha, Bool.true_and] at hst
            cases hv : slpQ p.idle d with
            | true =>
              rw [hv] at hst
              repeat' (first | ((apply WQ.rd; (exact rfl); apply Rn.q; (exact Rn.indexAddrE k eA rfl rfl (by first | rfl | omega) (by first | assumption | omega)))) | ((apply WQ.rd; (exact rfl); apply Rn.q; (apply Rn.loadS; (exact rfl); (exact (CellsAt.weak g1 (by simp))); (exact rfl)))) | ((apply WQ.rd; (exact rfl); (refine Qn.call Tryz.func67 rfl (by kernel_rfl) rfl (by (exact tsA)) (fun G hG hh => hv ▸ rtslp_any d p.idle G)))) | (first | refine sqA ?_ | refine soA ?_ | refine sgA ?_ | refine sxA ?_ | refine sbA ?_ | refine suA ?_ | refine fun (Q : Post) hQ => ?_ | refine fun (nb : Nat) => (?_ : WL _ _ _ _ _ _ _ _ _) | (refine WL.guard rfl rfl rfl (fun h => ?_) (fun h => ?_) <;> (try dsimp only at h)) | (refine WQ.guard rfl rfl rfl (fun h => ?_) (fun h => ?_) <;> (try dsimp only at h))))
              exact hL.nx (k + 1) _ _ ⟨hlt, hst⟩ (by dsimp only; omega) (by repeat' (first | exact trivial | refine ⟨rfl, ?_⟩)) (by (exact keA))
            | false =>
              have e5 : tableQ p.pl = false := by
                rw [ex, show p.sleeps.xs.all (slpQ p.idle) = false from by rw [List.all_eq_false]; exact ⟨d, List.mem_of_getElem? hd, by rw [hv]; decide⟩]; rfl
              repeat' (first | ((apply WQ.rd; (exact rfl); apply Rn.q; (exact Rn.indexAddrE k eA rfl rfl (by first | rfl | omega) (by first | assumption | omega)))) | ((apply WQ.rd; (exact rfl); apply Rn.q; (apply Rn.loadS; (exact rfl); (exact (CellsAt.weak g1 (by simp))); (exact rfl)))) | ((apply WQ.rd; (exact rfl); (refine Qn.call Tryz.func67 rfl (by kernel_rfl) rfl (by (exact tsA)) (fun G hG hh => hv ▸ rtslp_any d p.idle G)))) | (first | refine sqA ?_ | refine soA ?_ | refine sgA ?_ | refine sxA ?_ | refine sbA ?_ | refine suA ?_ | refine fun (Q : Post) hQ => ?_ | refine fun (nb : Nat) => (?_ : WL _ _ _ _ _ _ _ _ _) | (refine WL.guard rfl rfl rfl (fun h => ?_) (fun h => ?_) <;> (try dsimp only at h)) | (refine WQ.guard rfl rfl rfl (fun h => ?_) (fun h => ?_) <;> (try dsimp only at h))))
              ((refine seE ?_); refine ⟨[], Keep.nil, ?_⟩)
              exact ⟨by rw [e5], rfl⟩
          · obtain rfl : k = p.sleeps.xs.length := by simp at h3; omega
            rw [List.take_length] at ha
            repeat' (first | refine soA ?_ | refine sgA ?_ | refine sxA ?_ | refine sbA ?_ | refine fun (Q : Post) hQ => ?_ | refine fun (nb : Nat) => (?_ : WL _ _ _ _ _ _ _ _ _) | (refine WL.guard rfl rfl rfl (fun h => ?_) (fun h => ?_) <;> (try dsimp only at h)))
            exact hMt.nx 0 _ _ ha (by repeat' (first | exact trivial | refine ⟨rfl, ?_⟩)) (by (exact keA))
        · intro _ hsl
          dsimp only at hsl ⊢
          rw [hsl, Bool.true_and] at ex
          repeat' (first | refine soA ?_ | refine sgA ?_ | refine sxA ?_ | refine sbA ?_ | refine fun (Q : Post) hQ => ?_ | refine fun (nb : Nat) => (?_ : WL _ _ _ _ _ _ _ _ _) | (refine WL.guard rfl rfl rfl (fun h => ?_) (fun h => ?_) <;> (try dsimp only at h)))
          refine W.loopK (σ := Nat) ⟨fun k => k ≤ p.devices.xs.length ∧ (p.devices.xs.take k).all dvcQ = true, fun k => [(6, some (.int .i64 (k : Nat))), (1, some (.pointer (some ⟨pb, 0, none⟩)))], fun _ => [one pb (cells p.enc 26)], fun k => p.devices.xs.length - k⟩ 0 ⟨Nat.zero_le _, rfl⟩ (by repeat' (first | exact trivial | refine ⟨rfl, ?_⟩)) (by (exact keA)) ?_
          intro k hk Q hL
          obtain ⟨hk, ha⟩ := hk
          dsimp only at hk ha ⊢
          repeat' (first | refine soA ?_ | refine sgA ?_ | refine sxA ?_ | refine sbA ?_ | refine fun (Q : Post) hQ => ?_ | refine fun (nb : Nat) => (?_ : WL _ _ _ _ _ _ _ _ _) | (refine WL.guard rfl rfl rfl (fun h => ?_) (fun h => ?_) <;> (try dsimp only at h)))
          refine W.cond rfl (fun h3 => ?_) (fun h3 => ?_)
          · have hlt : k < p.devices.xs.length := by simpa using h3
            obtain ⟨d, hd⟩ : ∃ d, p.devices.xs[k]? = some d := ⟨_, List.getElem?_eq_getElem (by simpa using hlt)⟩
            obtain ⟨g, o, eA, g1⟩ := hp.devices.elem 7 DeviceV.enc_len (by omega) k d hd
            have hst := all_tk_succ hd dvcQ
            rw [ha, Bool.true_and] at hst
            cases hv : dvcQ d with
            | true =>
              rw [hv] at hst
              repeat' (first | ((apply WL.rd; (exact rfl); (exact Rn.indexAddrE k eA rfl rfl (by first | rfl | omega) (by first | assumption | omega)))) | ((apply WL.rd; (exact rfl); (apply Rn.loadS; (exact rfl); (exact (CellsAt.weak g1 (by simp))); (exact rfl)))) | ((refine WL.ex rfl (WO.callN Tryz.func68 rfl (by kernel_rfl) rfl Takes.nil (fun G hG hh => hv ▸ rtdvc_any d G) ?_); rintro v own' ⟨rfl, rfl⟩)) | (first | refine soA ?_ | refine sgA ?_ | refine sxA ?_ | refine sbA ?_ | refine fun (Q : Post) hQ => ?_ | refine fun (nb : Nat) => (?_ : WL _ _ _ _ _ _ _ _ _) | (refine WL.guard rfl rfl rfl (fun h => ?_) (fun h => ?_) <;> (try dsimp only at h))))
              exact hL.nx (k + 1) _ _ ⟨hlt, hst⟩ (by dsimp only; omega) (by repeat' (first | exact trivial | refine ⟨rfl, ?_⟩)) (by (exact keA))
            | false =>
              have e5 : tableQ p.pl = false := by
                rw [ex, List.all_eq_false]; exact ⟨d, List.mem_of_getElem? hd, by rw [hv]; decide⟩
              repeat' (first | ((apply WL.rd; (exact rfl); (exact Rn.indexAddrE k eA rfl rfl (by first | rfl | omega) (by first | assumption | omega)))) | ((apply WL.rd; (exact rfl); (apply Rn.loadS; (exact rfl); (exact (CellsAt.weak g1 (by simp))); (exact rfl)))) | ((refine WL.ex rfl (WO.callN Tryz.func68 rfl (by kernel_rfl) rfl Takes.nil (fun G hG hh => hv ▸ rtdvc_any d G) ?_); rintro v own' ⟨rfl, rfl⟩)) | (first | refine soA ?_ | refine sgA ?_ | refine sxA ?_ | refine sbA ?_ | refine fun (Q : Post) hQ => ?_ | refine fun (nb : Nat) => (?_ : WL _ _ _ _ _ _ _ _ _) | (refine WL.guard rfl rfl rfl (fun h => ?_) (fun h => ?_) <;> (try dsimp only at h))))
              ((refine seE ?_); refine ⟨[], Keep.nil, ?_⟩)
              exact ⟨by rw [e5], rfl⟩
          · obtain rfl : k = p.devices.xs.length := by simp at h3; omega
            rw [List.take_length] at ha
            rw [ha] at ex
            repeat' (first | refine soA ?_ | refine sgA ?_ | refine sxA ?_ | refine sbA ?_ | refine fun (Q : Post) hQ => ?_ | refine fun (nb : Nat) => (?_ : WL _ _ _ _ _ _ _ _ _) | (refine WL.guard rfl rfl rfl (fun h => ?_) (fun h => ?_) <;> (try dsimp only at h)))
            ((refine seE ?_); refine ⟨[], Keep.nil, ?_⟩)
            exact ⟨by rw [ex], rfl⟩
end Go.Proofs.YtflgnpidelkkpaaGreat
namespace Go.Proofs.YtflgnpidelkkpaaGreat
set_option maxRecDepth 8000
set_option maxHeartbeats 1000000
set_option linter.unusedVariables false
set_option linter.unusedSimpArgs false
structure StepsX (F : Hp) (A : Option Addr) (xs : List StepV) : Prop where
  row : RowAt F [] A (xs.flatMap StepV.enc)
  each : ∀ x ∈ xs, StepX F x
  len : xs.length ≤ 1500000000000
structure PlatX (F : Hp) (p : PlatV) : Prop where
  at_ : PlatAt F p
  f1 : p.sleeps.xs.length * 48 ≤ 140737488355328
  f2 : p.devices.xs.length * 56 ≤ 140737488355328
theorem PlatX.up {F G : Hp} {p : PlatV} (h : PlatX F p) (hG : F.le G) : PlatX G p := ⟨h.at_.up hG, h.f1, h.f2⟩
theorem platX_arg {p : PlatV} {W : World} (h : p.Arg W) : PlatX (heapOf W) p := ⟨⟨h.ok.levels.row.at, h.ok.sleeps.row.at, h.ok.devices.row.at⟩, by have := h.ok.sleeps.fit; omega, by have := h.ok.devices.fit; omega⟩
theorem stepX_arg {x : StepV} {W : World} (h : x.Arg W) : StepX (heapOf W) x := ⟨h.ok.task.sec.row.at, h.ok.task.devs.row.at, by have := h.ok.task.sec.fit; omega, by have := h.ok.task.devs.fit; omega⟩
theorem stepsX_arg {l : Sl StepV} {W : World} (h : l.Ok StepV.enc StepV.Arg 96 W ∧ l.c * 96 ≤ 140737488351232) : StepsX (heapOf W) l.A l.xs := ⟨h.1.row.at, fun x hx => stepX_arg (h.1.each x hx), by have := h.1.fit; omega⟩
theorem doK_inv1 {s : Kn} {c : Nat} (h : KInv s c) (x : StepV) (hc : c ≤ 1500000000000) : KInv (doK s x).1 (c + 1) := doK_inv h x (by omega)
structure LpS where
  k : Nat
  s : Kn
  h : Hp
structure LpO (p : PP) (b n : Nat) (x : LpS) : Prop where
  k : x.k ≤ n
  inv : KInv x.s x.k
  p : x.s.p = p
  hist : HInv (histK x.s)
  ker : KerT b x.s x.h
theorem LpO.new {p : PP} {b n : Nat} {h : Hp} (ht : tableQ p = true) (k : KerT b (newK p) h) : LpO p b n ⟨0, newK p, h⟩ := ⟨Nat.zero_le _, newK_inv ht, rfl, newK_hist ht, k⟩
theorem LpO.next {p : PP} {b n k : Nat} {s : Kn} {h h1 : Hp} (o : LpO p b n ⟨k, s, h⟩) (hlt : k < n) (hn : n ≤ 1500000000000) (x : StepV) (t1 : KerT b (doK s x).1 h1) : LpO p b n ⟨k + 1, (doK s x).1, h1⟩ := by
  have I : KInv s k := o.inv
  have hh := (doK_hist I x).inv o.hist
  exact ⟨hlt, doK_inv1 I x (by omega), hh.2.p.trans o.p, hh.1, t1⟩
end Go.Proofs.YtflgnpidelkkpaaGreat
