/- part 38 of the proof: contracts of the functions that the law reaches, and plain laws. -/
import Derived.Test.YtflgnpidelkkpaaGreatMq7
import Derived.Test.YtflgnpidelkkpaaGreatMq10
import Derived.Test.YtflgnpidelkkpaaGreatMq33
namespace Go.Proofs.YtflgnpidelkkpaaGreat
set_option maxRecDepth 8000
set_option maxHeartbeats 1000000
set_option linter.unusedVariables false
set_option linter.unusedSimpArgs false
def rgB (n lo hi : Int) : Bool := decide (lo ≤ n) && decide (n ≤ hi)
def awayQ (down up downE upE off on even : Int) : Bool :=
  (rgB down 0 256 && (rgB up 0 256 && (rgB downE 0 65536 && (rgB upE 0 65536 && (rgB on 0 65536 && rgB off 0 on))))) && (rgB even (maxV (w64 (down + up)) 1) 16384 && decide (w64 (w64 (downE + upE) + w64 (off * w64 (w64 (even - down) - up))) ≤ w64 (on * even)))
def slpQ (idle : Int) (s : SleepV) : Bool := awayQ s.enter s.exit s.enterE s.exitE s.power idle s.even
def dvcQ (d : DeviceV) : Bool := awayQ d.down d.up d.downE d.upE d.off d.on d.even
def behQ (idle crit : Int) (k : Nat) (l q : LevelV) : Bool := decide (q.P < l.P) && (!decide ((k : Int) ≤ crit) || decide (w64 (l.E - w64 (l.P * idle)) ≤ w64 (q.E - w64 (q.P * idle))))
def lvlQ (p : PP) (k : Nat) : Bool := match p.levels[k]? with
  | none => true
  | some l => (rgB l.P 1 256 && rgB l.E 0 65536) && (k == 0 || behQ p.idle p.crit k l (p.levels.getD (k - 1) ⟨0, 0⟩))
def levelsQ (p : PP) : Bool := (rgB (p.levels.length : Nat) 1 4 && rgB p.crit 0 (w64 ((p.levels.length : Nat) - 1))) && (List.range p.levels.length).all (lvlQ p)
def headQ (p : PP) : Bool :=
  ((((rgB p.idle 0 65536 && levelsQ p) && rgB p.switch 0 256) && rgB p.switchE 0 65536) && (decide (((p.sleeps.length : Nat) : Int) ≤ 3) && decide (((p.devices.length : Nat) : Int) ≤ 3))) && (rgB p.sems 0 3 && rgB p.horizon 1 16384)
def tableQ (p : PP) : Bool := headQ p && (p.sleeps.all (slpQ p.idle) && p.devices.all dvcQ)
theorem all_tk_succ {α : Type} {l : List α} {k : Nat} {d : α} (h : l[k]? = some d) (f : α → Bool) : (l.take (k + 1)).all f = ((l.take k).all f && f d) := by rw [List.take_add_one, h, List.all_append]; simp
theorem all_rg_succ (f : Nat → Bool) (k : Nat) : (List.range (k + 1)).all f = ((List.range k).all f && f k) := by rw [List.range_succ, List.all_append]; simp
theorem all_rg_no {f : Nat → Bool} {k n : Nat} (hk : k < n) (h : f k = false) : (List.range n).all f = false := by
  rw [List.all_eq_false]; exact ⟨k, List.mem_range.2 hk, by rw [h]; decide⟩
attribute [local irreducible] W X WL WA WB WG WO Rn Own one splice Arr Spec WQ WH Qn
theorem twin_any (n lo hi : Int) (F : Hp) : Spec Tryz.prog 118 [.int .i64 n, .int .i64 lo, .int .i64 hi] F [] fun v hs => v = .bool (rgB n lo hi) ∧ hs = [] := by
  refine Spec.enter Tryz.func118 rfl Tryz.ntmps118 rfl fun B => ?_
  repeat' (first | refine soA ?_ | refine sgA ?_ | refine sxA ?_ | refine sbA ?_ | refine fun (Q : Post) hQ => ?_ | refine fun (nb : Nat) => (?_ : WL _ _ _ _ _ _ _ _ _) | (refine WL.guard rfl rfl rfl (fun h => ?_) (fun h => ?_) <;> (try dsimp only at h)))
  ((refine seE ?_); refine ⟨[], Keep.nil, ?_⟩)
  exact ⟨rfl, rfl⟩
theorem tpow_any (n : Int) (F : Hp) : Spec Tryz.prog 115 [.int .i64 n] F [] fun v hs => v = .bool (rgB n 0 65536) ∧ hs = [] := by
  refine Spec.enter Tryz.func115 rfl Tryz.ntmps115 rfl fun B => ?_
  repeat' (first | ((refine WL.ex rfl (WO.callN Tryz.func118 rfl (by kernel_rfl) rfl (by (exact tsA)) (fun G hG hh => twin_any n 0 65536 G) ?_); rintro v own' ⟨rfl, rfl⟩)) | (first | refine soA ?_ | refine sgA ?_ | refine sxA ?_ | refine sbA ?_ | refine fun (Q : Post) hQ => ?_ | refine fun (nb : Nat) => (?_ : WL _ _ _ _ _ _ _ _ _) | (refine WL.guard rfl rfl rfl (fun h => ?_) (fun h => ?_) <;> (try dsimp only at h))))
  ((refine seE ?_); refine ⟨[], Keep.nil, ?_⟩)
  exact ⟨rfl, rfl⟩
theorem tlat_any (n : Int) (F : Hp) : Spec Tryz.prog 117 [.int .i64 n] F [] fun v hs => v = .bool (rgB n 0 256) ∧ hs = [] := by
  refine Spec.enter Tryz.func117 rfl Tryz.ntmps117 rfl fun B => ?_
  repeat' (first | ((refine WL.ex rfl (WO.callN Tryz.func118 rfl (by kernel_rfl) rfl (by (exact tsA)) (fun G hG hh => twin_any n 0 256 G) ?_); rintro v own' ⟨rfl, rfl⟩)) | (first | refine soA ?_ | refine sgA ?_ | refine sxA ?_ | refine sbA ?_ | refine fun (Q : Post) hQ => ?_ | refine fun (nb : Nat) => (?_ : WL _ _ _ _ _ _ _ _ _) | (refine WL.guard rfl rfl rfl (fun h => ?_) (fun h => ?_) <;> (try dsimp only at h))))
  ((refine seE ?_); refine ⟨[], Keep.nil, ?_⟩)
  exact ⟨rfl, rfl⟩
set_option maxHeartbeats 4000000 in
theorem taway_any (down up downE upE off on even : Int) (F : Hp) : Spec Tryz.prog 119 [.int .i64 down, .int .i64 up, .int .i64 downE, .int .i64 upE, .int .i64 off, .int .i64 on, .int .i64 even] F [] fun v hs => v = .bool (awayQ down up downE upE off on even) ∧ hs = [] := by
  refine Spec.enter Tryz.func119 rfl Tryz.ntmps119 rfl fun B => ?_
  repeat' (first | ((refine W.region (id := 1) (WL.ofQ ?_))) | ((apply WQ.rd; (exact rfl); (refine Qn.call Tryz.func117 rfl (by kernel_rfl) rfl (by (exact tsA)) (fun G hG hh => tlat_any _ G)))) | ((apply WH.ex; (exact rfl); (exact rfl); (exact rfl); intro hb; (refine Qn.call Tryz.func117 rfl (by kernel_rfl) rfl (by (exact tsA)) (fun G hG hh => tlat_any _ G)))) | ((apply WH.ex; (exact rfl); (exact rfl); (exact rfl); intro hb; (refine Qn.call Tryz.func115 rfl (by kernel_rfl) rfl (by (exact tsA)) (fun G hG hh => tpow_any _ G)))) | ((apply WH.ex; (exact rfl); (exact rfl); (exact rfl); intro hb; (refine Qn.call Tryz.func118 rfl (by kernel_rfl) rfl (by (exact tsA)) (fun G hG hh => twin_any _ _ _ G)))) | (first | refine sqA ?_ | refine soA ?_ | refine sgA ?_ | refine sxA ?_ | refine sbA ?_ | refine fun (Q : Post) hQ => ?_ | refine fun (nb : Nat) => (?_ : WL _ _ _ _ _ _ _ _ _) | (refine WL.guard rfl rfl rfl (fun h => ?_) (fun h => ?_) <;> (try dsimp only at h)) | (refine WQ.guard rfl rfl rfl (fun h => ?_) (fun h => ?_) <;> (try dsimp only at h))))
  refine W.cond rfl (fun h => ?_) (fun h => ?_)
  · have e : (rgB down 0 256 && (rgB up 0 256 && (rgB downE 0 65536 && (rgB upE 0 65536 && (rgB on 0 65536 && rgB off 0 on))))) = false := by
      rw [← Bool.not_eq_true', ← h]; simp only [Bool.not_and, Bool.or_assoc]
    repeat' (first | refine soA ?_ | refine sgA ?_ | refine sxA ?_ | refine sbA ?_ | refine fun (Q : Post) hQ => ?_ | refine fun (nb : Nat) => (?_ : WL _ _ _ _ _ _ _ _ _) | (refine WL.guard rfl rfl rfl (fun h => ?_) (fun h => ?_) <;> (try dsimp only at h)))
    ((refine seE ?_); refine ⟨[], Keep.nil, ?_⟩)
    exact ⟨by unfold awayQ; rw [e]; rfl, rfl⟩
  · have e : (rgB down 0 256 && (rgB up 0 256 && (rgB downE 0 65536 && (rgB upE 0 65536 && (rgB on 0 65536 && rgB off 0 on))))) = true := by
      rw [← Bool.not_eq_false', ← h]; simp only [Bool.not_and, Bool.or_assoc]
    repeat' (first | ((refine W.region (id := 3) (WL.ofQ ?_))) | ((apply WQ.rd; (exact rfl); (refine Qn.call Tryz.func118 rfl (by kernel_rfl) rfl (by (exact tsA)) (fun G hG hh => twin_any _ _ _ G)))) | (first | refine sqA ?_ | refine soA ?_ | refine sgA ?_ | refine sxA ?_ | refine sbA ?_ | refine fun (Q : Post) hQ => ?_ | refine fun (nb : Nat) => (?_ : WL _ _ _ _ _ _ _ _ _) | (refine WL.guard rfl rfl rfl (fun h => ?_) (fun h => ?_) <;> (try dsimp only at h)) | (refine WQ.guard rfl rfl rfl (fun h => ?_) (fun h => ?_) <;> (try dsimp only at h))))
    ((refine seE ?_); refine ⟨[], Keep.nil, ?_⟩)
    exact ⟨by unfold awayQ; rw [e]; rfl, rfl⟩
set_option maxHeartbeats 8000000 in
theorem tlevels_any (p : PlatV) (F : Hp) (hp : PlatAt F p) : Spec Tryz.prog 116 [.agg p.enc.toArray] F [] fun v hs => v = .bool (levelsQ p.pl) ∧ hs = [] := by
  refine Spec.enter Tryz.func116 rfl Tryz.ntmps116 rfl fun B => ?_
  refine W.seqK fun Q hQ => ?_
  refine W.region ?_
  refine WL.ex rfl (WO.box rfl rfl fun pb => ?_)
  repeat' (first | ((refine W.region (id := 1) (WL.ofQ ?_))) | ((apply WQ.rd; (exact rfl); (refine Qn.call Tryz.func118 rfl (by kernel_rfl) rfl (by (exact tsA)) (fun G hG hh => twin_any _ _ _ G)))) | ((apply WH.ex; (exact rfl); (exact rfl); (exact rfl); intro hb; apply Rn.q; (exact Rn.subW rfl rfl))) | ((apply WH.ex; (exact rfl); (exact rfl); (exact rfl); intro hb; (refine Qn.call Tryz.func118 rfl (by kernel_rfl) rfl (by (exact tsA)) (fun G hG hh => twin_any _ _ _ G)))) | (first | refine sqA ?_ | refine soA ?_ | refine sgA ?_ | refine sxA ?_ | refine sbA ?_ | refine fun (Q : Post) hQ => ?_ | refine fun (nb : Nat) => (?_ : WL _ _ _ _ _ _ _ _ _) | (refine WL.guard rfl rfl rfl (fun h => ?_) (fun h => ?_) <;> (try dsimp only at h)) | (refine WQ.guard rfl rfl rfl (fun h => ?_) (fun h => ?_) <;> (try dsimp only at h))))
  refine W.cond rfl (fun h => ?_) (fun h => ?_)
  · have e : (rgB (p.levels.xs.length : Nat) 1 4 && rgB p.crit 0 (w64 ((p.levels.xs.length : Nat) - 1))) = false := by
      rw [← Bool.not_eq_true', ← h]; simp only [Bool.not_and]
    have e2 : levelsQ p.pl = false := by unfold levelsQ; rw [show (rgB (p.pl.levels.length : Nat) 1 4 && rgB p.pl.crit 0 (w64 ((p.pl.levels.length : Nat) - 1))) = false from e]; rfl
    repeat' (first | refine soA ?_ | refine sgA ?_ | refine sxA ?_ | refine sbA ?_ | refine fun (Q : Post) hQ => ?_ | refine fun (nb : Nat) => (?_ : WL _ _ _ _ _ _ _ _ _) | (refine WL.guard rfl rfl rfl (fun h => ?_) (fun h => ?_) <;> (try dsimp only at h)))
    ((refine seE ?_); refine ⟨[], Keep.nil, ?_⟩)
    exact ⟨by rw [e2], rfl⟩
  · have e : (rgB (p.levels.xs.length : Nat) 1 4 && rgB p.crit 0 (w64 ((p.levels.xs.length : Nat) - 1))) = true := by
      rw [← Bool.not_eq_false', ← h]; simp only [Bool.not_and]
    have e2 : levelsQ p.pl = (List.range p.levels.xs.length).all (lvlQ p.pl) := by unfold levelsQ; rw [show (rgB (p.pl.levels.length : Nat) 1 4 && rgB p.pl.crit 0 (w64 ((p.pl.levels.length : Nat) - 1))) = true from e]; rfl
    have hl4 : p.levels.xs.length ≤ 4 := by
      rw [Bool.and_eq_true] at e
      have h4 := e.1
      unfold rgB at h4
      simp only [Bool.and_eq_true, decide_eq_true_eq] at h4
      omega
    repeat' (first | refine soA ?_ | refine sgA ?_ | refine sxA ?_ | refine sbA ?_ | refine fun (Q : Post) hQ => ?_ | refine fun (nb : Nat) => (?_ : WL _ _ _ _ _ _ _ _ _) | (refine WL.guard rfl rfl rfl (fun h => ?_) (fun h => ?_) <;> (try dsimp only at h)))
    refine W.loopK (σ := Nat) ⟨fun k => k ≤ p.levels.xs.length ∧ (List.range k).all (lvlQ p.pl) = true, fun k => [(24, some (.int .i64 (k : Nat))), (23, some (.int .i64 (p.levels.xs.length : Nat))), (22, some (.slice p.levels.A p.levels.xs.length p.levels.c)), (1, some (.pointer (some ⟨pb, 0, none⟩)))], fun _ => [one pb (cells p.enc 26)], fun k => p.levels.xs.length - k⟩ 0 ⟨Nat.zero_le _, rfl⟩ (by repeat' (first | exact trivial | refine ⟨rfl, ?_⟩)) (by (exact keA)) ?_
    intro k hk Q hL
    obtain ⟨hk, ha⟩ := hk
    dsimp only at hk ha ⊢
    repeat' (first | refine soA ?_ | refine sgA ?_ | refine sxA ?_ | refine sbA ?_ | refine fun (Q : Post) hQ => ?_ | refine fun (nb : Nat) => (?_ : WL _ _ _ _ _ _ _ _ _) | (refine WL.guard rfl rfl rfl (fun h => ?_) (fun h => ?_) <;> (try dsimp only at h)))
    refine W.cond rfl (fun h3 => ?_) (fun h3 => ?_)
    · have hlt : k < p.levels.xs.length := by simpa using h3
      obtain ⟨l, hl⟩ : ∃ l, p.levels.xs[k]? = some l := ⟨_, List.getElem?_eq_getElem (by simpa using hlt)⟩
      obtain ⟨g, o, eA, g1⟩ := hp.levels.elem 2 LevelV.enc_len (by omega) k l hl
      have hst := all_rg_succ (lvlQ p.pl) k
      rw [ha, Bool.true_and] at hst
      have hl2 : p.pl.levels[k]? = some l := hl
      have hlv : lvlQ p.pl k = ((rgB l.P 1 256 && rgB l.E 0 65536) && (k == 0 || behQ p.pl.idle p.pl.crit k l (p.pl.levels.getD (k - 1) ⟨0, 0⟩))) := by unfold lvlQ; rw [hl2]
      have bad : lvlQ p.pl k = false → levelsQ p.pl = false := fun h => by rw [e2]; exact all_rg_no hlt h
      repeat' (first | ((apply WL.rd; (exact rfl); (exact Rn.indexAddrE k eA rfl rfl (by first | rfl | omega) (by first | assumption | omega)))) | ((apply WL.rd; (exact rfl); (apply Rn.loadS; (exact rfl); (exact (CellsAt.weak g1 (by simp))); (exact rfl)))) | ((refine W.region (id := 6) (WL.ofQ ?_))) | ((apply WQ.rd; (exact rfl); (refine Qn.call Tryz.func118 rfl (by kernel_rfl) rfl (by (exact tsA)) (fun G hG hh => twin_any _ _ _ G)))) | ((apply WH.ex; (exact rfl); (exact rfl); (exact rfl); intro hb; (refine Qn.call Tryz.func115 rfl (by kernel_rfl) rfl (by (exact tsA)) (fun G hG hh => tpow_any _ G)))) | (first | refine sqA ?_ | refine soA ?_ | refine sgA ?_ | refine sxA ?_ | refine sbA ?_ | refine fun (Q : Post) hQ => ?_ | refine fun (nb : Nat) => (?_ : WL _ _ _ _ _ _ _ _ _) | (refine WL.guard rfl rfl rfl (fun h => ?_) (fun h => ?_) <;> (try dsimp only at h)) | (refine WQ.guard rfl rfl rfl (fun h => ?_) (fun h => ?_) <;> (try dsimp only at h))))
      refine W.cond rfl (fun h4 => ?_) (fun h4 => ?_)
      · have e4 : (rgB l.P 1 256 && rgB l.E 0 65536) = false := by rw [← Bool.not_eq_true', ← h4]; simp only [Bool.not_and]
        have e5 := bad (by rw [hlv, e4]; rfl)
        repeat' (first | refine soA ?_ | refine sgA ?_ | refine sxA ?_ | refine sbA ?_ | refine fun (Q : Post) hQ => ?_ | refine fun (nb : Nat) => (?_ : WL _ _ _ _ _ _ _ _ _) | (refine WL.guard rfl rfl rfl (fun h => ?_) (fun h => ?_) <;> (try dsimp only at h)))
        ((refine seE ?_); refine ⟨[], Keep.nil, ?_⟩)
        exact ⟨by rw [e5], rfl⟩
      · have e4 : (rgB l.P 1 256 && rgB l.E 0 65536) = true := by rw [← Bool.not_eq_false', ← h4]; simp only [Bool.not_and]
        rw [e4, Bool.true_and] at hlv
        by_cases c0 : k = 0
        · have hy : lvlQ p.pl k = true := by rw [hlv, c0]; rfl
          rw [hy] at hst
          repeat' (first | ((apply WL.rd; (exact rfl); (exact ckA))) | (first | refine soA ?_ | refine sgA ?_ | refine sxA ?_ | refine sbA ?_ | refine fun (Q : Post) hQ => ?_ | refine fun (nb : Nat) => (?_ : WL _ _ _ _ _ _ _ _ _) | (refine WL.guard rfl rfl rfl (fun h => ?_) (fun h => ?_) <;> (try dsimp only at h))))
          exact hL.nx (k + 1) _ _ ⟨hlt, hst⟩ (by dsimp only; omega) (by repeat' (first | exact trivial | refine ⟨rfl, ?_⟩)) (by (exact keA))
        · obtain ⟨q, hq⟩ : ∃ q, p.levels.xs[k - 1]? = some q := ⟨_, List.getElem?_eq_getElem (by omega)⟩
          obtain ⟨g', o', eA', g1'⟩ := hp.levels.elem 2 LevelV.enc_len (by omega) (k - 1) q hq
          have hj : ((k : Int) - 1) = ((k - 1 : Nat) : Int) := by omega
          have hjl : k - 1 < p.levels.xs.length := by omega
          have hgq : p.pl.levels.getD (k - 1) ⟨0, 0⟩ = q := by rw [List.getD_eq_getElem?_getD, show p.pl.levels[k - 1]? = some q from hq]; rfl
          rw [hgq, show (k == 0) = false from beq_eq_false_iff_ne.2 c0, Bool.false_or] at hlv
          by_cases c1 : l.P ≤ q.P
          · have e5 := bad (by rw [hlv]; unfold behQ; rw [decide_eq_false (by omega)]; rfl)
            repeat' (first | ((apply WL.rd; (exact rfl); (exact ckA))) | ((apply WL.rd; (exact rfl); (exact Rn.indexAddrE (k - 1) eA' rfl rfl hj hjl))) | ((apply WL.rd; (exact rfl); (apply Rn.loadS; (exact rfl); (exact (CellsAt.weak g1' (by simp))); (exact rfl)))) | (first | refine soA ?_ | refine sgA ?_ | refine sxA ?_ | refine sbA ?_ | refine fun (Q : Post) hQ => ?_ | refine fun (nb : Nat) => (?_ : WL _ _ _ _ _ _ _ _ _) | (refine WL.guard rfl rfl rfl (fun h => ?_) (fun h => ?_) <;> (try dsimp only at h))))
            ((refine seE ?_); refine ⟨[], Keep.nil, ?_⟩)
            exact ⟨by rw [e5], rfl⟩
          · by_cases c2 : (k : Int) ≤ p.crit
            · by_cases c3 : w64 (l.E - w64 (l.P * p.idle)) ≤ w64 (q.E - w64 (q.P * p.idle))
              · have hy : lvlQ p.pl k = true := by rw [hlv]; unfold behQ; rw [decide_eq_true (by omega), show decide (w64 (l.E - w64 (l.P * p.pl.idle)) ≤ w64 (q.E - w64 (q.P * p.pl.idle))) = true from decide_eq_true c3]; simp
                rw [hy] at hst
                repeat' (first | ((apply WL.rd; (exact rfl); (first | exact Rn.mulW rfl rfl | exact Rn.sub rfl rfl (by omega) | exact Rn.subW rfl rfl))) | ((apply WL.rd; (exact rfl); (exact Rn.cmp (b := false) rfl rfl (congrArg some (decide_eq_false (Int.not_lt.2 c3)))))) | ((apply WL.rd; (exact rfl); (exact ckA))) | ((apply WL.rd; (exact rfl); (exact Rn.indexAddrE (k - 1) eA' rfl rfl hj hjl))) | ((apply WL.rd; (exact rfl); (apply Rn.loadS; (exact rfl); (exact (CellsAt.weak g1' (by simp))); (exact rfl)))) | (first | refine soA ?_ | refine sgA ?_ | refine sxA ?_ | refine sbA ?_ | refine fun (Q : Post) hQ => ?_ | refine fun (nb : Nat) => (?_ : WL _ _ _ _ _ _ _ _ _) | (refine WL.guard rfl rfl rfl (fun h => ?_) (fun h => ?_) <;> (try dsimp only at h))))
                exact hL.nx (k + 1) _ _ ⟨hlt, hst⟩ (by dsimp only; omega) (by repeat' (first | exact trivial | refine ⟨rfl, ?_⟩)) (by (exact keA))
              · have e5 := bad (by rw [hlv]; unfold behQ; rw [show decide ((k : Int) ≤ p.pl.crit) = true from decide_eq_true c2, show decide (w64 (l.E - w64 (l.P * p.pl.idle)) ≤ w64 (q.E - w64 (q.P * p.pl.idle))) = false from decide_eq_false c3]; simp)
                repeat' (first | ((apply WL.rd; (exact rfl); (first | exact Rn.mulW rfl rfl | exact Rn.sub rfl rfl (by omega) | exact Rn.subW rfl rfl))) | ((apply WL.rd; (exact rfl); (exact Rn.cmp (b := true) rfl rfl (congrArg some (decide_eq_true (Int.not_le.1 c3)))))) | ((apply WL.rd; (exact rfl); (exact ckA))) | ((apply WL.rd; (exact rfl); (exact Rn.indexAddrE (k - 1) eA' rfl rfl hj hjl))) | ((apply WL.rd; (exact rfl); (apply Rn.loadS; (exact rfl); (exact (CellsAt.weak g1' (by simp))); (exact rfl)))) | (first | refine soA ?_ | refine sgA ?_ | refine sxA ?_ | refine sbA ?_ | refine fun (Q : Post) hQ => ?_ | refine fun (nb : Nat) => (?_ : WL _ _ _ _ _ _ _ _ _) | (refine WL.guard rfl rfl rfl (fun h => ?_) (fun h => ?_) <;> (try dsimp only at h))))
                ((refine seE ?_); refine ⟨[], Keep.nil, ?_⟩)
                exact ⟨by rw [e5], rfl⟩
            · have hy : lvlQ p.pl k = true := by rw [hlv]; unfold behQ; rw [decide_eq_true (by omega), show decide ((k : Int) ≤ p.pl.crit) = false from decide_eq_false c2]; simp
              rw [hy] at hst
              repeat' (first | ((apply WL.rd; (exact rfl); (exact ckA))) | ((apply WL.rd; (exact rfl); (exact Rn.indexAddrE (k - 1) eA' rfl rfl hj hjl))) | ((apply WL.rd; (exact rfl); (apply Rn.loadS; (exact rfl); (exact (CellsAt.weak g1' (by simp))); (exact rfl)))) | (first | refine soA ?_ | refine sgA ?_ | refine sxA ?_ | refine sbA ?_ | refine fun (Q : Post) hQ => ?_ | refine fun (nb : Nat) => (?_ : WL _ _ _ _ _ _ _ _ _) | (refine WL.guard rfl rfl rfl (fun h => ?_) (fun h => ?_) <;> (try dsimp only at h))))
              exact hL.nx (k + 1) _ _ ⟨hlt, hst⟩ (by dsimp only; omega) (by repeat' (first | exact trivial | refine ⟨rfl, ?_⟩)) (by (exact keA))
    · obtain rfl : k = p.levels.xs.length := by simp at h3; omega
      have e5 : levelsQ p.pl = true := by rw [e2]; exact ha
      repeat' (first | refine soA ?_ | refine sgA ?_ | refine sxA ?_ | refine sbA ?_ | refine fun (Q : Post) hQ => ?_ | refine fun (nb : Nat) => (?_ : WL _ _ _ _ _ _ _ _ _) | (refine WL.guard rfl rfl rfl (fun h => ?_) (fun h => ?_) <;> (try dsimp only at h)))
      ((refine seE ?_); refine ⟨[], Keep.nil, ?_⟩)
      exact ⟨by rw [e5], rfl⟩
end Go.Proofs.YtflgnpidelkkpaaGreat
namespace Go.Proofs.YtflgnpidelkkpaaGreat
set_option maxRecDepth 8000
set_option maxHeartbeats 1000000
set_option linter.unusedVariables false
set_option linter.unusedSimpArgs false
attribute [local irreducible] W X WL WA WB WG WO Rn Own one splice Arr Spec WQ WH Qn
set_option maxHeartbeats 8000000 in
theorem tblCheck_any (p : PlatV) (F : Hp) (hp : PlatAt F p) (f1 : p.sleeps.xs.length * 48 ≤ 140737488355328) (f2 : p.devices.xs.length * 56 ≤ 140737488355328) : Spec Tryz.prog 71 [.agg p.enc.toArray] F [] fun v hs => v = .int .i64 (if tableQ p.pl = true then 0 else 2) ∧ hs = [] := by
  refine Spec.enter Tryz.func71 rfl Tryz.ntmps71 rfl fun B => ?_
  refine W.seqK fun Q hQ => ?_
  refine W.region ?_
  refine WL.ex rfl (WO.box rfl rfl fun pb => ?_)
  have eh : headQ p.pl = ((((((((rgB p.idle 0 65536 && levelsQ p.pl) && rgB p.switch 0 256) && rgB p.switchE 0 65536) && decide (((p.sleeps.xs.length : Nat) : Int) ≤ 3)) && decide (((p.devices.xs.length : Nat) : Int) ≤ 3)) && rgB p.sems 0 3) && rgB p.horizon 1 16384)) := by
    unfold headQ; simp only [Bool.and_assoc]; rfl
  repeat' (first | ((refine W.region (id := 1) (WL.ofQ ?_))) | ((apply WQ.rd; (exact rfl); (refine Qn.call Tryz.func115 rfl (by kernel_rfl) rfl (by (exact tsA)) (fun G hG hh => tpow_any _ G)))) | ((apply WH.ex; (exact rfl); (exact rfl); (exact rfl); intro hb; (refine Qn.call Tryz.func116 rfl (by kernel_rfl) rfl (by (exact tsA)) (fun G hG hh => tlevels_any p G (hp.up hG))))) | ((apply WH.ex; (exact rfl); (exact rfl); (exact rfl); intro hb; (refine Qn.call Tryz.func117 rfl (by kernel_rfl) rfl (by (exact tsA)) (fun G hG hh => tlat_any _ G)))) | ((apply WH.ex; (exact rfl); (exact rfl); (exact rfl); intro hb; (refine Qn.call Tryz.func115 rfl (by kernel_rfl) rfl (by (exact tsA)) (fun G hG hh => tpow_any _ G)))) | ((refine W.region (id := 3) (WL.ofQ ?_))) | ((apply WH.ex; (exact rfl); (exact rfl); (exact rfl); intro hb; (refine Qn.call Tryz.func118 rfl (by kernel_rfl) rfl (by (exact tsA)) (fun G hG hh => twin_any _ _ _ G)))) | ((refine W.cutK (c := .seq (.region 4 _ _) _) (σ := Nat) ⟨fun _ => True, fun _ => [(3, some (.bool (headQ p.pl && p.sleeps.xs.all (slpQ p.idle)))), (1, some (.pointer (some ⟨pb, 0, none⟩)))], fun _ => [one pb (cells p.enc 26)], fun _ => 0⟩ (fun Q' hMt => ?_) ?_)) | (first | refine sqA ?_ | refine soA ?_ | refine sgA ?_ | refine sxA ?_ | refine sbA ?_ | refine fun (Q : Post) hQ => ?_ | refine fun (nb : Nat) => (?_ : WL _ _ _ _ _ _ _ _ _) | (refine WL.guard rfl rfl rfl (fun h => ?_) (fun h => ?_) <;> (try dsimp only at h)) | (refine WQ.guard rfl rfl rfl (fun h => ?_) (fun h => ?_) <;> (try dsimp only at h))))
  · rw [← eh]
    generalize hh0 : headQ p.pl = e0 at eh ⊢
    repeat' (first | refine soA ?_ | refine sgA ?_ | refine sxA ?_ | refine sbA ?_ | refine fun (Q : Post) hQ => ?_ | refine fun (nb : Nat) => (?_ : WL _ _ _ _ _ _ _ _ _) | (refine WL.guard rfl rfl rfl (fun h => ?_) (fun h => ?_) <;> (try dsimp only at h)))
    refine W.loopK (σ := Nat) ⟨fun k => k ≤ p.sleeps.xs.length, fun k => [(52, some (.int .i64 (k : Nat))), (51, some (.int .i64 (p.sleeps.xs.length : Nat))), (50, some (.slice p.sleeps.A p.sleeps.xs.length p.sleeps.c)), (3, some (.bool (e0 && (p.sleeps.xs.take k).all (slpQ p.idle)))), (1, some (.pointer (some ⟨pb, 0, none⟩)))], fun _ => [one pb (cells p.enc 26)], fun k => p.sleeps.xs.length - k⟩ 0 (Nat.zero_le _) (by repeat' (first | exact trivial | refine ⟨rfl, ?_⟩ | refine ⟨by simp; rfl, ?_⟩)) (by (exact keA)) ?_
    intro k hk Q hL
    dsimp only at hk ⊢
    repeat' (first | refine soA ?_ | refine sgA ?_ | refine sxA ?_ | refine sbA ?_ | refine fun (Q : Post) hQ => ?_ | refine fun (nb : Nat) => (?_ : WL _ _ _ _ _ _ _ _ _) | (refine WL.guard rfl rfl rfl (fun h => ?_) (fun h => ?_) <;> (try dsimp only at h)))
    refine W.cond rfl (fun h3 => ?_) (fun h3 => ?_)
    · have hlt : k < p.sleeps.xs.length := by simpa using h3
      obtain ⟨d, hd⟩ : ∃ d, p.sleeps.xs[k]? = some d := ⟨_, List.getElem?_eq_getElem (by simpa using hlt)⟩
      obtain ⟨g, o, eA, g1⟩ := hp.sleeps.elem 6 SleepV.enc_len (by omega) k d hd
      have hst : (e0 && (p.sleeps.xs.take (k + 1)).all (slpQ p.idle)) = ((e0 && (p.sleeps.xs.take k).all (slpQ p.idle)) && awayQ d.enter d.exit d.enterE d.exitE d.power p.idle d.even) := by rw [all_tk_succ hd, Bool.and_assoc]; rfl
      repeat' (first | ((apply WL.rd; (exact rfl); (exact Rn.indexAddrE k eA rfl rfl (by first | rfl | omega) (by first | assumption | omega)))) | ((apply WL.rd; (exact rfl); (apply Rn.loadS; (exact rfl); (exact (CellsAt.weak g1 (by simp))); (exact rfl)))) | ((refine W.region (id := 7) (WL.ofQ ?_))) | ((apply WH.ex; (exact rfl); (exact rfl); (exact rfl); intro hb; (refine Qn.call Tryz.func119 rfl (by kernel_rfl) rfl (by (exact tsA)) (fun G hG hh => taway_any _ _ _ _ _ _ _ G)))) | (first | refine sqA ?_ | refine soA ?_ | refine sgA ?_ | refine sxA ?_ | refine sbA ?_ | refine fun (Q : Post) hQ => ?_ | refine fun (nb : Nat) => (?_ : WL _ _ _ _ _ _ _ _ _) | (refine WL.guard rfl rfl rfl (fun h => ?_) (fun h => ?_) <;> (try dsimp only at h)) | (refine WQ.guard rfl rfl rfl (fun h => ?_) (fun h => ?_) <;> (try dsimp only at h))))
      exact hL.nx (k + 1) _ _ hlt (by dsimp only; omega) (by repeat' (first | exact trivial | refine ⟨by rw [hst]; rfl, ?_⟩ | refine ⟨rfl, ?_⟩)) (by (exact keA))
    · obtain rfl : k = p.sleeps.xs.length := by simp at h3; omega
      rw [List.take_length]
      repeat' (first | refine soA ?_ | refine sgA ?_ | refine sxA ?_ | refine sbA ?_ | refine fun (Q : Post) hQ => ?_ | refine fun (nb : Nat) => (?_ : WL _ _ _ _ _ _ _ _ _) | (refine WL.guard rfl rfl rfl (fun h => ?_) (fun h => ?_) <;> (try dsimp only at h)))
      exact hMt.nx 0 _ _ trivial (by repeat' (first | exact trivial | refine ⟨rfl, ?_⟩ | refine ⟨by rw [hh0]; rfl, ?_⟩)) (by (exact keA))
  · intro _ _
    dsimp only
    generalize hA : (headQ p.pl && p.sleeps.xs.all (slpQ p.idle)) = e0
    have et : tableQ p.pl = (e0 && p.devices.xs.all dvcQ) := by unfold tableQ; rw [← hA, Bool.and_assoc]; rfl
    repeat' (first | ((refine W.cutK (c := .seq (.region 9 _ _) _) (σ := Nat) ⟨fun _ => True, fun _ => [(3, some (.bool (tableQ p.pl))), (1, some (.pointer (some ⟨pb, 0, none⟩)))], fun _ => [one pb (cells p.enc 26)], fun _ => 0⟩ (fun Q' hMt => ?_) ?_)) | (first | refine soA ?_ | refine sgA ?_ | refine sxA ?_ | refine sbA ?_ | refine fun (Q : Post) hQ => ?_ | refine fun (nb : Nat) => (?_ : WL _ _ _ _ _ _ _ _ _) | (refine WL.guard rfl rfl rfl (fun h => ?_) (fun h => ?_) <;> (try dsimp only at h))))
    · skip
      repeat' (first | refine soA ?_ | refine sgA ?_ | refine sxA ?_ | refine sbA ?_ | refine fun (Q : Post) hQ => ?_ | refine fun (nb : Nat) => (?_ : WL _ _ _ _ _ _ _ _ _) | (refine WL.guard rfl rfl rfl (fun h => ?_) (fun h => ?_) <;> (try dsimp only at h)))
      refine W.loopK (σ := Nat) ⟨fun k => k ≤ p.devices.xs.length, fun k => [(78, some (.int .i64 (k : Nat))), (77, some (.int .i64 (p.devices.xs.length : Nat))), (76, some (.slice p.devices.A p.devices.xs.length p.devices.c)), (3, some (.bool (e0 && (p.devices.xs.take k).all dvcQ))), (1, some (.pointer (some ⟨pb, 0, none⟩)))], fun _ => [one pb (cells p.enc 26)], fun k => p.devices.xs.length - k⟩ 0 (Nat.zero_le _) (by repeat' (first | exact trivial | refine ⟨rfl, ?_⟩ | refine ⟨by simp; rfl, ?_⟩)) (by (exact keA)) ?_
      intro k hk Q hL
      dsimp only at hk ⊢
      repeat' (first | refine soA ?_ | refine sgA ?_ | refine sxA ?_ | refine sbA ?_ | refine fun (Q : Post) hQ => ?_ | refine fun (nb : Nat) => (?_ : WL _ _ _ _ _ _ _ _ _) | (refine WL.guard rfl rfl rfl (fun h => ?_) (fun h => ?_) <;> (try dsimp only at h)))
      refine W.cond rfl (fun h3 => ?_) (fun h3 => ?_)
      · have hlt : k < p.devices.xs.length := by simpa using h3
        obtain ⟨d, hd⟩ : ∃ d, p.devices.xs[k]? = some d := ⟨_, List.getElem?_eq_getElem (by simpa using hlt)⟩
        obtain ⟨g, o, eA, g1⟩ := hp.devices.elem 7 DeviceV.enc_len (by omega) k d hd
        have hst : (e0 && (p.devices.xs.take (k + 1)).all dvcQ) = ((e0 && (p.devices.xs.take k).all dvcQ) && awayQ d.down d.up d.downE d.upE d.off d.on d.even) := by rw [all_tk_succ hd, Bool.and_assoc]; rfl
        repeat' (first | ((apply WL.rd; (exact rfl); (exact Rn.indexAddrE k eA rfl rfl (by first | rfl | omega) (by first | assumption | omega)))) | ((apply WL.rd; (exact rfl); (apply Rn.loadS; (exact rfl); (exact (CellsAt.weak g1 (by simp))); (exact rfl)))) | ((refine W.region (id := 12) (WL.ofQ ?_))) | ((apply WH.ex; (exact rfl); (exact rfl); (exact rfl); intro hb; (refine Qn.call Tryz.func119 rfl (by kernel_rfl) rfl (by (exact tsA)) (fun G hG hh => taway_any _ _ _ _ _ _ _ G)))) | (first | refine sqA ?_ | refine soA ?_ | refine sgA ?_ | refine sxA ?_ | refine sbA ?_ | refine fun (Q : Post) hQ => ?_ | refine fun (nb : Nat) => (?_ : WL _ _ _ _ _ _ _ _ _) | (refine WL.guard rfl rfl rfl (fun h => ?_) (fun h => ?_) <;> (try dsimp only at h)) | (refine WQ.guard rfl rfl rfl (fun h => ?_) (fun h => ?_) <;> (try dsimp only at h))))
        exact hL.nx (k + 1) _ _ hlt (by dsimp only; omega) (by repeat' (first | exact trivial | refine ⟨by rw [hst]; rfl, ?_⟩ | refine ⟨rfl, ?_⟩)) (by (exact keA))
      · obtain rfl : k = p.devices.xs.length := by simp at h3; omega
        rw [List.take_length]
        repeat' (first | refine soA ?_ | refine sgA ?_ | refine sxA ?_ | refine sbA ?_ | refine fun (Q : Post) hQ => ?_ | refine fun (nb : Nat) => (?_ : WL _ _ _ _ _ _ _ _ _) | (refine WL.guard rfl rfl rfl (fun h => ?_) (fun h => ?_) <;> (try dsimp only at h)))
        exact hMt.nx 0 _ _ trivial (by repeat' (first | exact trivial | refine ⟨rfl, ?_⟩ | refine ⟨by rw [et]; rfl, ?_⟩)) (by (exact keA))
    · intro _ _
      dsimp only
      clear et hA
      generalize tableQ p.pl = e1
      cases e1 with
      | true =>
        repeat' (first | refine soA ?_ | refine sgA ?_ | refine sxA ?_ | refine sbA ?_ | refine fun (Q : Post) hQ => ?_ | refine fun (nb : Nat) => (?_ : WL _ _ _ _ _ _ _ _ _) | (refine WL.guard rfl rfl rfl (fun h => ?_) (fun h => ?_) <;> (try dsimp only at h)))
        ((refine seE ?_); refine ⟨[], Keep.nil, ?_⟩)
        exact ⟨rfl, rfl⟩
      | false =>
        repeat' (first | refine soA ?_ | refine sgA ?_ | refine sxA ?_ | refine sbA ?_ | refine fun (Q : Post) hQ => ?_ | refine fun (nb : Nat) => (?_ : WL _ _ _ _ _ _ _ _ _) | (refine WL.guard rfl rfl rfl (fun h => ?_) (fun h => ?_) <;> (try dsimp only at h)))
        ((refine seE ?_); refine ⟨[], Keep.nil, ?_⟩)
        exact ⟨rfl, rfl⟩
end Go.Proofs.YtflgnpidelkkpaaGreat
namespace Go.Proofs.YtflgnpidelkkpaaGreat
set_option maxRecDepth 8000
set_option maxHeartbeats 1000000
set_option linter.unusedVariables false
set_option linter.unusedSimpArgs false
theorem awayQ_spec {down up downE upE off on even : Int} (h : awayQ down up downE upE off on even = true) : (0 ≤ down ∧ down ≤ 256) ∧ (0 ≤ up ∧ up ≤ 256) ∧ (0 ≤ downE ∧ downE ≤ 65536) ∧ (0 ≤ upE ∧ upE ≤ 65536) ∧ (0 ≤ on ∧ on ≤ 65536) ∧ (0 ≤ off ∧ off ≤ on) ∧ down + up ≤ even ∧ 1 ≤ even ∧ even ≤ 16384 := by
  unfold awayQ rgB at h
  simp only [Bool.and_eq_true, decide_eq_true_eq] at h
  obtain ⟨⟨h1, h2, h3, h4, h5, h6⟩, h7, h8⟩ := h
  have hw : w64 (down + up) = down + up := w64_in (by omega)
  rw [hw] at h7
  have h9 : down + up ≤ maxV (down + up) 1 ∧ 1 ≤ maxV (down + up) 1 := by unfold maxV; split <;> omega
  refine ⟨h1, h2, h3, h4, h5, h6, ?_, ?_, h7.2⟩ <;> omega
structure TblR (p : PP) : Prop where
  lev : 1 ≤ p.levels.length ∧ p.levels.length ≤ 4
  crit : 0 ≤ p.crit ∧ p.crit < (p.levels.length : Nat)
  slow : ∀ l ∈ p.levels, 1 ≤ l.P ∧ l.P ≤ 256
  sl3 : p.sleeps.length ≤ 3
  dv3 : p.devices.length ≤ 3
  sw : 0 ≤ p.switch ∧ p.switch ≤ 256
  sems : 0 ≤ p.sems ∧ p.sems ≤ 3
  hor : 1 ≤ p.horizon ∧ p.horizon ≤ 16384
  slp : ∀ s ∈ p.sleeps, slpQ p.idle s = true
  dvc : ∀ d ∈ p.devices, dvcQ d = true
theorem tableQ_spec {p : PP} (h : tableQ p = true) : TblR p := by
  unfold tableQ headQ levelsQ at h
  simp only [Bool.and_eq_true] at h
  obtain ⟨⟨⟨⟨⟨⟨h1, ⟨⟨h2, h3⟩, h4⟩⟩, h5⟩, h6⟩, h7, h8⟩, h9, h10⟩, h11, h12⟩ := h
  unfold rgB at h1 h2 h3 h5 h6 h9 h10
  simp only [Bool.and_eq_true, decide_eq_true_eq] at h1 h2 h3 h5 h6 h7 h8 h9 h10
  have hw : w64 (((p.levels.length : Nat) : Int) - 1) = ((p.levels.length : Nat) : Int) - 1 := w64_in (by omega)
  rw [hw] at h3
  refine ⟨by omega, by omega, fun l hl => ?_, by omega, by omega, h5, h9, h10, List.all_eq_true.1 h11, List.all_eq_true.1 h12⟩
  obtain ⟨i, hi, rfl⟩ := List.mem_iff_getElem.1 hl
  have := List.all_eq_true.1 h4 i (List.mem_range.2 hi)
  unfold lvlQ at this
  rw [List.getElem?_eq_getElem hi] at this
  simp only [Bool.and_eq_true] at this
  have h13 := this.1.1
  unfold rgB at h13
  simpa using h13
theorem newK_inv {p : PP} (h : tableQ p = true) : KInv (newK p) 0 := by
  have t := tableQ_spec h
  have hz : ∀ x ∈ List.replicate 6 TZ, x = TZ := fun x hx => List.eq_of_mem_replicate hx
  refine ⟨?_, ?_, Int.le_refl _, Int.le_refl _, Nat.le_refl _⟩
  · exact { crit := t.crit, lev := t.lev.2, slp := t.sl3, dvl := t.dv3, slow := t.slow, nt := rfl, nn := rfl, nu := rfl, nd := List.length_replicate, ne := List.length_replicate
            lvl := ⟨Int.le_refl _, by have := t.lev; show (0 : Int) < (p.levels.length : Nat); omega⟩, slpd := fun h => by cases h
            per := fun x hx => by rw [hz x hx]; exact Int.le_refl _
            secl := fun x hx => by rw [hz x hx]; exact ⟨Nat.zero_le _, Nat.zero_le _⟩
            devr := fun x hx => by rw [hz x hx]; intro d hd; cases hd
            jin := fun j hj => by cases hj
            jord := List.Pairwise.nil
            jnd := List.nodup_nil
            sst := fun x hx => by cases hx
            stq := Nat.zero_le _
            hin := fun x hx => by cases hx
            hbd := fun x hx => by cases hx
            hsem := fun x hx => by cases hx
            hnd := List.nodup_nil
            lin := fun x hx => by cases hx
            tin := fun x hx => by cases hx
            lnd := List.nodup_nil
            tnd := List.nodup_nil
            secb := fun x hx => by rw [hz x hx]; intro d hd; cases hd
            smx := t.sems.2 }
  · have hzd : ∀ x ∈ List.replicate p.devices.length (⟨0, 0⟩ : DevV), x = ⟨0, 0⟩ := fun x hx => List.eq_of_mem_replicate hx
    exact { now0 := Int.le_refl _, nowH := by have := t.hor; show (0 : Int) < p.horizon + 256; omega, hor := t.hor, sw := t.sw
            slp := fun x hx => by have := awayQ_spec (t.slp x hx); omega
            dsum := fun x hx => by have := awayQ_spec (t.dvc x hx); omega
            dev := fun i o x ho hx => by
              have := awayQ_spec (t.dvc o (List.mem_of_getElem? ho))
              have hx2 : x = ⟨0, 0⟩ := hzd x (List.mem_of_getElem? hx)
              subst hx2
              exact ⟨by omega, by omega, by omega, by omega, by omega, by omega, by omega, by decide, by decide, by show (0 : Int) ≤ 0 ∧ (0 : Int) ≤ 1099511627776; decide, .inl ⟨rfl, rfl⟩⟩
            dst := fun x hx => by rw [hzd x hx]; exact Int.le_refl _
            lat := fun x hx => by cases hx
            tim := fun x hx => by cases hx
            wak := ⟨Int.le_refl _, by show (0 : Int) ≤ 65536; decide⟩ }
end Go.Proofs.YtflgnpidelkkpaaGreat
