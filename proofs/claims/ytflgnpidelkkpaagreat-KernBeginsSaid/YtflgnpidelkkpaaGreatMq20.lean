/- part 20 of the proof: contracts of the functions that the law reaches, and plain laws. -/
import Derived.Test.YtflgnpidelkkpaaGreatMq7
import Derived.Test.YtflgnpidelkkpaaGreatMq13
import Derived.Test.YtflgnpidelkkpaaGreatMq10
import Derived.Test.YtflgnpidelkkpaaGreatMq6
namespace Go.Proofs.YtflgnpidelkkpaaGreat
set_option maxRecDepth 8000
set_option maxHeartbeats 1000000
set_option linter.unusedVariables false
set_option linter.unusedSimpArgs false
attribute [local irreducible] W X WL WA WB WG WO Rn Own one splice Arr Spec WQ WH Qn
set_option maxHeartbeats 2000000 in
theorem best_any (p : PlatV) (stay : Int) (F : Hp) (hp : PlatAt F p) (hl : p.sleeps.xs.length ≤ 3) : Spec Tryz.prog 249 [.agg p.enc.toArray, .int .i64 stay] F [] fun v hs => v = .tuple #[.int .i64 (bestV p.sleeps.xs stay).1, .bool (bestV p.sleeps.xs stay).2] ∧ hs = [] := by
  refine Spec.enter Tryz.func249 rfl Tryz.ntmps249 rfl fun B => ?_
  repeat' (first | refine soA ?_ | refine sgA ?_ | refine sxA ?_ | refine sbA ?_ | refine fun (Q : Post) hQ => ?_ | refine fun (nb : Nat) => (?_ : WL _ _ _ _ _ _ _ _ _) | (refine WL.guard rfl rfl rfl (fun h => ?_) (fun h => ?_) <;> (try dsimp only at h)))
  (refine W.loopK (σ := Nat) ⟨fun k => k ≤ p.sleeps.xs.length, fun k => [(13, some (.int .i64 (k : Nat))), (12, some (.int .i64 (p.sleeps.xs.length : Nat))), (11, some (.slice p.sleeps.A p.sleeps.xs.length p.sleeps.c)), (1, some (.int .i64 stay)), (2, some (.pointer (some ⟨nb, 0, none⟩))), (6, some (.int .i64 ((List.range k).foldl (bestF p.sleeps.xs stay) (0, false)).1)), (7, some (.bool ((List.range k).foldl (bestF p.sleeps.xs stay) (0, false)).2))], fun _ => [one nb (cells p.enc 26)], fun k => p.sleeps.xs.length - k⟩ 0 (Nat.zero_le _) (by repeat' (first | exact trivial | refine ⟨rfl, ?_⟩)) (by (exact keA)) ?_; intro k hk Q hL; dsimp only at hk ⊢)
  repeat' (first | refine soA ?_ | refine sgA ?_ | refine sxA ?_ | refine sbA ?_ | refine fun (Q : Post) hQ => ?_ | refine fun (nb : Nat) => (?_ : WL _ _ _ _ _ _ _ _ _) | (refine WL.guard rfl rfl rfl (fun h => ?_) (fun h => ?_) <;> (try dsimp only at h)))
  refine W.cond rfl (fun h => ?_) (fun h => ?_)
  · have hlt : k < p.sleeps.xs.length := by simpa using h
    obtain ⟨s, hs⟩ : ∃ s, p.sleeps.xs[k]? = some s := ⟨_, List.getElem?_eq_getElem hlt⟩
    obtain ⟨g, o, eA, g1⟩ := hp.sleeps.elem 6 (fun _ => rfl) (by omega) k s hs
    have hst := foldl_range_succ (bestF p.sleeps.xs stay) (0, false) k
    have hin := bestF_in p.sleeps.xs stay k (by omega)
    generalize (List.range k).foldl (bestF p.sleeps.xs stay) (0, false) = b at *
    obtain ⟨b1, b2⟩ := b
    have hbf : bestF p.sleeps.xs stay (b1, b2) k = if betterB p.sleeps.xs stay (b1, b2) s = true then ((k : Int), true) else (b1, b2) := by unfold bestF; rw [hs]
    rw [hbf] at hst
    dsimp only at hin
    by_cases e1 : s.even ≤ stay
    · cases b2 with
      | false =>
        have hb : betterB p.sleeps.xs stay (b1, false) s = true := by unfold betterB; rw [decide_eq_true e1]; rfl
        rw [if_pos hb] at hst
        repeat' (first | ((apply WL.rd; (exact rfl); (exact Rn.indexAddrE k eA rfl rfl (by first | rfl | omega) (by first | assumption | omega)))) | ((apply WL.rd; (exact rfl); (apply Rn.loadS; (exact rfl); (exact (CellsAt.weak g1 (by simp))); (exact rfl)))) | ((apply WQ.rd; (exact rfl); apply Rn.q; (exact Rn.indexAddrE k eA rfl rfl (by first | rfl | omega) (by first | assumption | omega)))) | ((apply WQ.rd; (exact rfl); apply Rn.q; (exact Rn.cmp (b := true) rfl rfl (congrArg some (decide_eq_true e1))))) | ((apply WQ.rd; (exact rfl); apply Rn.q; (exact Rn.cmp (b := false) rfl rfl (congrArg some (decide_eq_false e1))))) | ((apply WQ.rd; (exact rfl); apply Rn.q; (apply Rn.load; (exact rfl); (exact (CellsAt.weak g1 (by simp)) 5 _ rfl)))) | ((apply WQ.rd; (exact rfl); apply Rn.q; (apply Rn.loadS; (exact rfl); (exact (CellsAt.weak g1 (by simp))); (exact rfl)))) | (first | refine sqA ?_ | refine soA ?_ | refine sgA ?_ | refine sxA ?_ | refine sbA ?_ | refine suA ?_ | refine fun (Q : Post) hQ => ?_ | refine fun (nb : Nat) => (?_ : WL _ _ _ _ _ _ _ _ _) | (refine WL.guard rfl rfl rfl (fun h => ?_) (fun h => ?_) <;> (try dsimp only at h)) | (refine WQ.guard rfl rfl rfl (fun h => ?_) (fun h => ?_) <;> (try dsimp only at h))))
        exact hL.nx (k + 1) _ _ (by dsimp only; omega) (by dsimp only; omega) (by repeat' (first | exact trivial | refine ⟨by rw [hst]; rfl, ?_⟩ | refine ⟨rfl, ?_⟩)) (by (exact keA))
      | true =>
        obtain ⟨m, rfl, hm⟩ := hin rfl
        obtain ⟨q, hq⟩ : ∃ q, p.sleeps.xs[m]? = some q := ⟨_, List.getElem?_eq_getElem (by omega)⟩
        obtain ⟨g2, o2, eA2, g3⟩ := hp.sleeps.elem 6 (fun _ => rfl) (by omega) m q hq
        have hb : betterB p.sleeps.xs stay ((m : Int), true) s = decide (costV s stay < costV q stay) := by unfold betterB; rw [decide_eq_true e1]; simp [hq]
        rw [hb] at hst
        by_cases e3 : costV s stay < costV q stay
        · rw [if_pos (decide_eq_true e3)] at hst
          repeat' (first | ((apply WL.rd; (exact rfl); (exact Rn.indexAddrE k eA rfl rfl (by first | rfl | omega) (by first | assumption | omega)))) | ((apply WL.rd; (exact rfl); (apply Rn.loadS; (exact rfl); (exact (CellsAt.weak g1 (by simp))); (exact rfl)))) | ((apply WQ.rd; (exact rfl); apply Rn.q; (exact Rn.indexAddrE k eA rfl rfl (by first | rfl | omega) (by first | assumption | omega)))) | ((apply WQ.rd; (exact rfl); apply Rn.q; (exact Rn.cmp (b := true) rfl rfl (congrArg some (decide_eq_true e1))))) | ((apply WQ.rd; (exact rfl); apply Rn.q; (exact Rn.cmp (b := false) rfl rfl (congrArg some (decide_eq_false e1))))) | ((apply WQ.rd; (exact rfl); apply Rn.q; (apply Rn.load; (exact rfl); (exact (CellsAt.weak g1 (by simp)) 5 _ rfl)))) | ((apply WQ.rd; (exact rfl); apply Rn.q; (apply Rn.loadS; (exact rfl); (exact (CellsAt.weak g1 (by simp))); (exact rfl)))) | ((apply WQ.rd; (exact rfl); apply Rn.q; (exact Rn.indexAddrE m eA2 rfl rfl (by first | rfl | omega) (by first | assumption | omega)))) | ((apply WQ.rd; (exact rfl); apply Rn.q; (apply Rn.loadS; (exact rfl); (exact (CellsAt.weak g3 (by simp))); (exact rfl)))) | ((apply WQ.rd; (exact rfl); (refine Qn.call Tryz.func277 rfl (by kernel_rfl) rfl (by (exact tsA)) (fun G hG hh => cost_any s stay G)))) | ((apply WQ.rd; (exact rfl); (refine Qn.call Tryz.func277 rfl (by kernel_rfl) rfl (by (exact tsA)) (fun G hG hh => cost_any q stay G)))) | ((apply WQ.rd; (exact rfl); apply Rn.q; (exact Rn.cmp (b := true) rfl rfl (congrArg some (decide_eq_true e3))))) | ((apply WQ.rd; (exact rfl); apply Rn.q; (exact Rn.cmp (b := false) rfl rfl (congrArg some (decide_eq_false e3))))) | (first | refine sqA ?_ | refine soA ?_ | refine sgA ?_ | refine sxA ?_ | refine sbA ?_ | refine suA ?_ | refine fun (Q : Post) hQ => ?_ | refine fun (nb : Nat) => (?_ : WL _ _ _ _ _ _ _ _ _) | (refine WL.guard rfl rfl rfl (fun h => ?_) (fun h => ?_) <;> (try dsimp only at h)) | (refine WQ.guard rfl rfl rfl (fun h => ?_) (fun h => ?_) <;> (try dsimp only at h))))
          exact hL.nx (k + 1) _ _ (by dsimp only; omega) (by dsimp only; omega) (by repeat' (first | exact trivial | refine ⟨by rw [hst]; rfl, ?_⟩ | refine ⟨rfl, ?_⟩)) (by (exact keA))
        · rw [if_neg (by simpa using e3)] at hst
          repeat' (first | ((apply WL.rd; (exact rfl); (exact Rn.indexAddrE k eA rfl rfl (by first | rfl | omega) (by first | assumption | omega)))) | ((apply WL.rd; (exact rfl); (apply Rn.loadS; (exact rfl); (exact (CellsAt.weak g1 (by simp))); (exact rfl)))) | ((apply WQ.rd; (exact rfl); apply Rn.q; (exact Rn.indexAddrE k eA rfl rfl (by first | rfl | omega) (by first | assumption | omega)))) | ((apply WQ.rd; (exact rfl); apply Rn.q; (exact Rn.cmp (b := true) rfl rfl (congrArg some (decide_eq_true e1))))) | ((apply WQ.rd; (exact rfl); apply Rn.q; (exact Rn.cmp (b := false) rfl rfl (congrArg some (decide_eq_false e1))))) | ((apply WQ.rd; (exact rfl); apply Rn.q; (apply Rn.load; (exact rfl); (exact (CellsAt.weak g1 (by simp)) 5 _ rfl)))) | ((apply WQ.rd; (exact rfl); apply Rn.q; (apply Rn.loadS; (exact rfl); (exact (CellsAt.weak g1 (by simp))); (exact rfl)))) | ((apply WQ.rd; (exact rfl); apply Rn.q; (exact Rn.indexAddrE m eA2 rfl rfl (by first | rfl | omega) (by first | assumption | omega)))) | ((apply WQ.rd; (exact rfl); apply Rn.q; (apply Rn.loadS; (exact rfl); (exact (CellsAt.weak g3 (by simp))); (exact rfl)))) | ((apply WQ.rd; (exact rfl); (refine Qn.call Tryz.func277 rfl (by kernel_rfl) rfl (by (exact tsA)) (fun G hG hh => cost_any s stay G)))) | ((apply WQ.rd; (exact rfl); (refine Qn.call Tryz.func277 rfl (by kernel_rfl) rfl (by (exact tsA)) (fun G hG hh => cost_any q stay G)))) | ((apply WQ.rd; (exact rfl); apply Rn.q; (exact Rn.cmp (b := true) rfl rfl (congrArg some (decide_eq_true e3))))) | ((apply WQ.rd; (exact rfl); apply Rn.q; (exact Rn.cmp (b := false) rfl rfl (congrArg some (decide_eq_false e3))))) | (first | refine sqA ?_ | refine soA ?_ | refine sgA ?_ | refine sxA ?_ | refine sbA ?_ | refine suA ?_ | refine fun (Q : Post) hQ => ?_ | refine fun (nb : Nat) => (?_ : WL _ _ _ _ _ _ _ _ _) | (refine WL.guard rfl rfl rfl (fun h => ?_) (fun h => ?_) <;> (try dsimp only at h)) | (refine WQ.guard rfl rfl rfl (fun h => ?_) (fun h => ?_) <;> (try dsimp only at h))))
          exact hL.nx (k + 1) _ _ (by dsimp only; omega) (by dsimp only; omega) (by repeat' (first | exact trivial | refine ⟨by rw [hst]; rfl, ?_⟩ | refine ⟨rfl, ?_⟩)) (by (exact keA))
    · have hb : betterB p.sleeps.xs stay (b1, b2) s = false := by unfold betterB; rw [decide_eq_false e1]; rfl
      rw [if_neg (by rw [hb]; decide)] at hst
      repeat' (first | ((apply WL.rd; (exact rfl); (exact Rn.indexAddrE k eA rfl rfl (by first | rfl | omega) (by first | assumption | omega)))) | ((apply WL.rd; (exact rfl); (apply Rn.loadS; (exact rfl); (exact (CellsAt.weak g1 (by simp))); (exact rfl)))) | ((apply WQ.rd; (exact rfl); apply Rn.q; (exact Rn.indexAddrE k eA rfl rfl (by first | rfl | omega) (by first | assumption | omega)))) | ((apply WQ.rd; (exact rfl); apply Rn.q; (exact Rn.cmp (b := true) rfl rfl (congrArg some (decide_eq_true e1))))) | ((apply WQ.rd; (exact rfl); apply Rn.q; (exact Rn.cmp (b := false) rfl rfl (congrArg some (decide_eq_false e1))))) | ((apply WQ.rd; (exact rfl); apply Rn.q; (apply Rn.load; (exact rfl); (exact (CellsAt.weak g1 (by simp)) 5 _ rfl)))) | ((apply WQ.rd; (exact rfl); apply Rn.q; (apply Rn.loadS; (exact rfl); (exact (CellsAt.weak g1 (by simp))); (exact rfl)))) | (first | refine sqA ?_ | refine soA ?_ | refine sgA ?_ | refine sxA ?_ | refine sbA ?_ | refine suA ?_ | refine fun (Q : Post) hQ => ?_ | refine fun (nb : Nat) => (?_ : WL _ _ _ _ _ _ _ _ _) | (refine WL.guard rfl rfl rfl (fun h => ?_) (fun h => ?_) <;> (try dsimp only at h)) | (refine WQ.guard rfl rfl rfl (fun h => ?_) (fun h => ?_) <;> (try dsimp only at h))))
      exact hL.nx (k + 1) _ _ (by dsimp only; omega) (by dsimp only; omega) (by repeat' (first | exact trivial | refine ⟨by rw [hst]; rfl, ?_⟩ | refine ⟨rfl, ?_⟩)) (by (exact keA))
  · obtain rfl : k = p.sleeps.xs.length := by simp at h; omega
    repeat' (first | refine soA ?_ | refine sgA ?_ | refine sxA ?_ | refine sbA ?_ | refine fun (Q : Post) hQ => ?_ | refine fun (nb : Nat) => (?_ : WL _ _ _ _ _ _ _ _ _) | (refine WL.guard rfl rfl rfl (fun h => ?_) (fun h => ?_) <;> (try dsimp only at h)))
    ((refine seE ?_); refine ⟨[], Keep.nil, ?_⟩)
    exact ⟨rfl, rfl⟩
end Go.Proofs.YtflgnpidelkkpaaGreat
namespace Go.Proofs.YtflgnpidelkkpaaGreat
set_option maxRecDepth 8000
set_option maxHeartbeats 1000000
set_option linter.unusedVariables false
set_option linter.unusedSimpArgs false
attribute [local irreducible] W X WL WA WB WG WO Rn Own one splice Arr Spec WQ WH Qn
theorem limit_any (p : PlatV) (policy static : Int) (F : Hp) : Spec Tryz.prog 286 [.agg p.enc.toArray, .int .i64 policy, .int .i64 static] F [] fun v hs => v = .int .i64 (limitV p.pl policy static) ∧ hs = [] := by
  refine Spec.enter Tryz.func286 rfl Tryz.ntmps286 rfl fun B => ?_
  by_cases h1 : policy = 1 ∨ policy = 3
  · have hv : limitV p.pl policy static = minV (maxV static 0) p.crit := if_pos h1
    by_cases h3 : policy = 1
    all_goals
      repeat' (first | ((apply WL.rd; (exact rfl); (exact ckA))) | (first | refine soA ?_ | refine sgA ?_ | refine sxA ?_ | refine sbA ?_ | refine fun (Q : Post) hQ => ?_ | refine fun (nb : Nat) => (?_ : WL _ _ _ _ _ _ _ _ _) | (refine WL.guard rfl rfl rfl (fun h => ?_) (fun h => ?_) <;> (try dsimp only at h))))
      ((refine seE ?_); refine ⟨[], Keep.nil, ?_⟩)
      exact ⟨by rw [hv]; rfl, rfl⟩
  · by_cases h2 : policy = 2
    · have hv : limitV p.pl policy static = p.crit := by rw [limitV, if_neg h1, if_pos h2]; rfl
      repeat' (first | ((apply WL.rd; (exact rfl); (exact ckA))) | (first | refine soA ?_ | refine sgA ?_ | refine sxA ?_ | refine sbA ?_ | refine fun (Q : Post) hQ => ?_ | refine fun (nb : Nat) => (?_ : WL _ _ _ _ _ _ _ _ _) | (refine WL.guard rfl rfl rfl (fun h => ?_) (fun h => ?_) <;> (try dsimp only at h))))
      ((refine seE ?_); refine ⟨[], Keep.nil, ?_⟩)
      exact ⟨by rw [hv], rfl⟩
    · have hv : limitV p.pl policy static = 0 := by rw [limitV, if_neg h1, if_neg h2]
      repeat' (first | ((apply WL.rd; (exact rfl); (exact ckA))) | (first | refine soA ?_ | refine sgA ?_ | refine sxA ?_ | refine sbA ?_ | refine fun (Q : Post) hQ => ?_ | refine fun (nb : Nat) => (?_ : WL _ _ _ _ _ _ _ _ _) | (refine WL.guard rfl rfl rfl (fun h => ?_) (fun h => ?_) <;> (try dsimp only at h))))
      ((refine seE ?_); refine ⟨[], Keep.nil, ?_⟩)
      exact ⟨by rw [hv], rfl⟩
theorem fast_down (p : PP) (left slack level : Int) : ∀ n : Nat, (List.range (n + 1)).foldl (fastF p left slack level) 0 = if wholeV (needV p left level (n + 1 : Nat)) ≤ slack then ((n + 1 : Nat) : Int) else (List.range n).foldl (fastF p left slack level) 0 := fun n => by rw [foldl_range_succ]; rfl
theorem limitV_in (p : PP) (policy static : Int) (hc : 0 ≤ p.crit) : 0 ≤ limitV p policy static ∧ limitV p policy static ≤ p.crit := by
  unfold limitV minV maxV; repeat' split <;> omega
set_option maxHeartbeats 1000000 in
theorem gchoose_any (p : PlatV) (policy static left slack level : Int) (F : Hp) (hp : PlatAt F p) (hc : 0 ≤ p.crit ∧ p.crit < (p.levels.xs.length : Nat)) (hl : p.levels.xs.length ≤ 4) : Spec Tryz.prog 274 [.agg p.enc.toArray, .int .i64 policy, .int .i64 static, .int .i64 left, .int .i64 slack, .int .i64 level] F [] fun v hs => v = .int .i64 (fastV p.pl policy static left slack level) ∧ hs = [] := by
  refine Spec.enter Tryz.func274 rfl Tryz.ntmps274 rfl fun B => ?_
  have hlim := limitV_in p.pl policy static hc.1
  have hcc : p.pl.crit = p.crit := rfl
  obtain ⟨N, hN⟩ : ∃ N : Nat, limitV p.pl policy static = N := ⟨(limitV p.pl policy static).toNat, by omega⟩
  have hfv : fastV p.pl policy static left slack level = (List.range N).foldl (fastF p.pl left slack level) 0 := by rw [fastV, hN]; rfl
  have h0 : 0 < p.levels.xs.length := by omega
  obtain ⟨l0, hl0⟩ : ∃ l, p.levels.xs[0]? = some l := ⟨_, List.getElem?_eq_getElem h0⟩
  obtain ⟨g0, o0, eA0, g01⟩ := hp.levels.elem 2 (fun _ => rfl) (by omega) 0 l0 hl0
  have hv0 : levP p.pl 0 = l0.P := levP_at (n := 0) hl0
  repeat' (first | ((refine WL.ex rfl (WO.callN Tryz.func286 rfl (by kernel_rfl) rfl (by (exact tsA)) (fun G hG hh => limit_any p policy static G) ?_); rintro v own' ⟨rfl, rfl⟩; rw [hN])) | (first | refine soA ?_ | refine sgA ?_ | refine sxA ?_ | refine sbA ?_ | refine fun (Q : Post) hQ => ?_ | refine fun (nb : Nat) => (?_ : WL _ _ _ _ _ _ _ _ _) | (refine WL.guard rfl rfl rfl (fun h => ?_) (fun h => ?_) <;> (try dsimp only at h))))
  refine W.loopK (σ := Nat) ⟨fun k => k ≤ N ∧ (List.range N).foldl (fastF p.pl left slack level) 0 = (List.range k).foldl (fastF p.pl left slack level) 0, fun k => [(13, some (.int .i64 (k : Nat))), (3, some (.int .i64 left)), (4, some (.int .i64 slack)), (5, some (.int .i64 level)), (6, some (.pointer (some ⟨nb, 0, none⟩)))], fun _ => [one nb (cells p.enc 26)], fun k => k⟩ N ⟨Nat.le_refl _, rfl⟩ (by repeat' (first | exact trivial | refine ⟨rfl, ?_⟩)) (by (exact keA)) ?_
  intro k hk Q hL
  dsimp only at hk ⊢
  obtain ⟨hk1, hk2⟩ := hk
  cases k with
  | zero =>
    repeat' (first | ((apply WL.rd; (exact rfl); (exact Rn.cmp (b := false) rfl rfl (congrArg some (decide_eq_false (by omega)))))) | (first | refine soA ?_ | refine sgA ?_ | refine sxA ?_ | refine sbA ?_ | refine fun (Q : Post) hQ => ?_ | refine fun (nb : Nat) => (?_ : WL _ _ _ _ _ _ _ _ _) | (refine WL.guard rfl rfl rfl (fun h => ?_) (fun h => ?_) <;> (try dsimp only at h))))
    ((refine seE ?_); refine ⟨[], Keep.nil, ?_⟩)
    exact ⟨by rw [hfv, hk2]; rfl, rfl⟩
  | succ k =>
    have hltn : k + 1 < p.levels.xs.length := by omega
    obtain ⟨l, hl_1⟩ : ∃ l, p.levels.xs[k + 1]? = some l := ⟨_, List.getElem?_eq_getElem hltn⟩
    obtain ⟨g1, o1, eA1, g2⟩ := hp.levels.elem 2 (fun _ => rfl) (by omega) (k + 1) l hl_1
    have hlv : levP p.pl ((k + 1 : Nat) : Int) = l.P := levP_at hl_1
    rw [fast_down] at hk2
    by_cases e : ((k + 1 : Nat) : Int) = level
    all_goals by_cases e2 : wholeV (needV p.pl left level ((k + 1 : Nat) : Int)) ≤ slack
    all_goals
      first
        | rw [if_pos e2] at hk2
        | rw [if_neg e2] at hk2
    all_goals unfold needV at e2
    all_goals
      first
        | rw [if_pos e] at e2
        | rw [if_neg e] at e2
    all_goals rw [hlv, hv0] at e2
    all_goals
      repeat' (first | ((apply WL.rd; (exact rfl); (exact Rn.cmp (b := true) rfl rfl (congrArg some (decide_eq_true e2))))) | ((apply WL.rd; (exact rfl); (exact Rn.cmp (b := false) rfl rfl (congrArg some (decide_eq_false e2))))) | ((apply WL.rd; (exact rfl); (exact ckA))) | ((apply WQ.rd; (exact rfl); apply Rn.q; (exact Rn.indexAddrE (k + 1) eA1 rfl rfl (by first | rfl | omega) (by first | assumption | omega)))) | ((apply WQ.rd; (exact rfl); apply Rn.q; (exact Rn.indexAddrE 0 eA0 rfl rfl (by first | rfl | omega) (by first | assumption | omega)))) | ((apply WQ.rd; (exact rfl); apply Rn.q; (apply Rn.load; (exact rfl); (exact (CellsAt.weak g2 (by simp)) 0 _ rfl)))) | ((apply WQ.rd; (exact rfl); apply Rn.q; (apply Rn.load; (exact rfl); (exact (CellsAt.weak g01 (by simp)) 0 _ rfl)))) | ((refine WL.ex rfl (WO.callN Tryz.func287 rfl (by kernel_rfl) rfl (by (exact tsA)) (fun G hG hh => whole_any _ G) ?_); rintro v own' ⟨rfl, rfl⟩)) | ((apply WL.rd; (exact rfl); (exact (Rn.sub rfl rfl (by omega)).to (congrArg (Value.int .i64) (show ((k + 1 : Nat) : Int) - 1 = (k : Int) by omega))))) | (first | refine sqA ?_ | refine soA ?_ | refine sgA ?_ | refine sxA ?_ | refine sbA ?_ | refine suA ?_ | refine fun (Q : Post) hQ => ?_ | refine fun (nb : Nat) => (?_ : WL _ _ _ _ _ _ _ _ _) | (refine WL.guard rfl rfl rfl (fun h => ?_) (fun h => ?_) <;> (try dsimp only at h)) | (refine WQ.guard rfl rfl rfl (fun h => ?_) (fun h => ?_) <;> (try dsimp only at h))))
    all_goals first
      | (((refine seE ?_); refine ⟨[], Keep.nil, ?_⟩); exact ⟨by rw [hfv, hk2], rfl⟩)
      | exact hL.nx k _ _ ⟨by omega, hk2⟩ (Nat.lt_succ_self k) (by repeat' (first | exact trivial | refine ⟨rfl, ?_⟩)) (by (exact keA))
end Go.Proofs.YtflgnpidelkkpaaGreat
namespace Go.Proofs.YtflgnpidelkkpaaGreat
set_option maxRecDepth 8000
set_option maxHeartbeats 1000000
set_option linter.unusedVariables false
set_option linter.unusedSimpArgs false
structure DevV where
  start : Int
  until_ : Int
def DevV.enc (x : DevV) : List Value := [.int .i64 x.start, .int .i64 x.until_]
theorem DevV.enc_len (x : DevV) : x.enc.length = 2 := rfl
structure DevR (d : DeviceV) (x : DevV) (now : Int) : Prop where
  down : 0 ≤ d.down ∧ d.down ≤ 256
  up : 0 ≤ d.up ∧ d.up ≤ 256
  downE : 0 ≤ d.downE ∧ d.downE ≤ 65536
  upE : 0 ≤ d.upE ∧ d.upE ≤ 65536
  on : 0 ≤ d.on ∧ d.on ≤ 65536
  off : 0 ≤ d.off ∧ d.off ≤ 65536
  even : 0 ≤ d.even ∧ d.even ≤ 16384
  start : 0 ≤ x.start ∧ x.start ≤ 1099511627776
  until_ : 0 ≤ x.until_ ∧ x.until_ ≤ 1099511627776
  now : 0 ≤ now ∧ now ≤ 1099511627776
  long : (x.start = 0 ∧ x.until_ = 0) ∨ x.start ≤ x.until_ - d.down - d.up
def neverB (x : DevV) : Bool := x.start == 0 && x.until_ == 0
def devStateV (d : DeviceV) (x : DevV) (now : Int) : Int := if neverB x = true ∨ now < x.start ∨ x.until_ ≤ now then 1 else if now < x.start + d.down then 3 else if now < x.until_ - d.up then 2 else 4
def devAwayB (d : DeviceV) (x : DevV) (now till : Int) : Bool := devStateV d x now == 1 && !decide (till - now < d.even)
def devCallV (d : DeviceV) (x : DevV) (now : Int) : DevV := if x.until_ = 1099511627776 then ⟨x.start, maxV (maxV (x.start + d.even) (now + d.up)) (x.start + d.down + d.up)⟩ else x
def spanV (a b now : Int) : Int := maxV (minV b now - a) 0
def devEnergyV (d : DeviceV) (x : DevV) (now : Int) : Int :=
  if neverB x = true then d.on * now
  else (if x.start ≤ now then d.downE else 0) + (if x.until_ - d.up ≤ now then d.upE else 0) + d.off * spanV (x.start + d.down) (x.until_ - d.up) now + d.on * maxV (now - x.until_) 0
theorem mulBd {a b A B : Int} (h1 : 0 ≤ a ∧ a ≤ A) (h2 : 0 ≤ b ∧ b ≤ B) : 0 ≤ a * b ∧ a * b ≤ A * B :=
  ⟨Int.mul_nonneg h1.1 h2.1, Int.le_trans (Int.mul_le_mul_of_nonneg_right h1.2 h2.1) (Int.mul_le_mul_of_nonneg_left h2.2 (Int.le_trans h1.1 h1.2))⟩
theorem Rn.max3 {P : Program} {F : Hp} {hs : List Hp} {ty : TypeId} {env : Env} {x y z : Operand} {ts : Array TypeId} {k : IntKind} {i j l : Int} (hx : ev env x = some (.int k i)) (hy : ev env y = some (.int k j)) (hz : ev env z = some (.int k l)) :
    Rn P F hs (.call ⟨.builtin .max, #[x, y, z], ts⟩) ty env (.int k (maxV (maxV i j) l)) := fun o h1 h2 n B a w he ho => by
  unfold execOp; simp [h1, resolve, invoke, builtin, he.ev hx, he.ev hy, he.ev hz, Builtin.max_, Builtin.max2, maxV]; rfl
attribute [local irreducible] W X WL WA WB WG WO Rn Own one splice Arr Spec WQ WH Qn
theorem never_any (x : DevV) (F : Hp) : Spec Tryz.prog 137 [.agg x.enc.toArray] F [] fun v hs => v = .bool (neverB x) ∧ hs = [] := by
  refine Spec.enter Tryz.func137 rfl Tryz.ntmps137 rfl fun B => ?_
  repeat' (first | refine soA ?_ | refine sgA ?_ | refine sxA ?_ | refine sbA ?_ | refine fun (Q : Post) hQ => ?_ | refine fun (nb : Nat) => (?_ : WL _ _ _ _ _ _ _ _ _) | (refine WL.guard rfl rfl rfl (fun h => ?_) (fun h => ?_) <;> (try dsimp only at h)))
  ((refine seE ?_); refine ⟨[], Keep.nil, ?_⟩)
  exact ⟨by simp [neverB, eqL, eqV, DevV.enc], rfl⟩
theorem state_any (d : DeviceV) (x : DevV) (now : Int) (F : Hp) (h : DevR d x now) : Spec Tryz.prog 204 [.agg d.enc.toArray, .agg x.enc.toArray, .int .i64 now] F [] fun v hs => v = .int .i64 (devStateV d x now) ∧ hs = [] := by
  obtain ⟨a1, a2, a3, a4, a5, a6, a7, a8, a9, a10, a11⟩ := h
  refine Spec.enter Tryz.func204 rfl Tryz.ntmps204 rfl fun B => ?_
  repeat' (first | ((refine WL.ex rfl (WO.callN Tryz.func137 rfl (by kernel_rfl) rfl (by (exact tsA)) (fun G hG hh => never_any x G) ?_); rintro v own' ⟨rfl, rfl⟩)) | (first | refine soA ?_ | refine sgA ?_ | refine sxA ?_ | refine sbA ?_ | refine fun (Q : Post) hQ => ?_ | refine fun (nb : Nat) => (?_ : WL _ _ _ _ _ _ _ _ _) | (refine WL.guard rfl rfl rfl (fun h => ?_) (fun h => ?_) <;> (try dsimp only at h))))
  refine W.cond rfl (fun h => ?_) (fun h => ?_)
  · have h' : neverB x = true ∨ now < x.start ∨ x.until_ ≤ now := by simpa [or_assoc] using h
    repeat' (first | refine soA ?_ | refine sgA ?_ | refine sxA ?_ | refine sbA ?_ | refine fun (Q : Post) hQ => ?_ | refine fun (nb : Nat) => (?_ : WL _ _ _ _ _ _ _ _ _) | (refine WL.guard rfl rfl rfl (fun h => ?_) (fun h => ?_) <;> (try dsimp only at h)))
    ((refine seE ?_); refine ⟨[], Keep.nil, ?_⟩)
    exact ⟨by rw [devStateV, if_pos h'], rfl⟩
  · have h' : ¬ (neverB x = true ∨ now < x.start ∨ x.until_ ≤ now) := by simpa [or_assoc, and_assoc] using h
    repeat' (first | refine soA ?_ | refine sgA ?_ | refine sxA ?_ | refine sbA ?_ | refine fun (Q : Post) hQ => ?_ | refine fun (nb : Nat) => (?_ : WL _ _ _ _ _ _ _ _ _) | (refine WL.guard rfl rfl rfl (fun h => ?_) (fun h => ?_) <;> (try dsimp only at h)))
    refine W.cond rfl (fun h2 => ?_) (fun h2 => ?_)
    · have h2' : now < x.start + d.down := by simpa using h2
      repeat' (first | refine soA ?_ | refine sgA ?_ | refine sxA ?_ | refine sbA ?_ | refine fun (Q : Post) hQ => ?_ | refine fun (nb : Nat) => (?_ : WL _ _ _ _ _ _ _ _ _) | (refine WL.guard rfl rfl rfl (fun h => ?_) (fun h => ?_) <;> (try dsimp only at h)))
      ((refine seE ?_); refine ⟨[], Keep.nil, ?_⟩)
      exact ⟨by rw [devStateV, if_neg h', if_pos h2'], rfl⟩
    · have h2' : ¬ now < x.start + d.down := by simpa using h2
      repeat' (first | refine soA ?_ | refine sgA ?_ | refine sxA ?_ | refine sbA ?_ | refine fun (Q : Post) hQ => ?_ | refine fun (nb : Nat) => (?_ : WL _ _ _ _ _ _ _ _ _) | (refine WL.guard rfl rfl rfl (fun h => ?_) (fun h => ?_) <;> (try dsimp only at h)))
      refine W.cond rfl (fun h3 => ?_) (fun h3 => ?_)
      · have h3' : now < x.until_ - d.up := by simpa using h3
        repeat' (first | refine soA ?_ | refine sgA ?_ | refine sxA ?_ | refine sbA ?_ | refine fun (Q : Post) hQ => ?_ | refine fun (nb : Nat) => (?_ : WL _ _ _ _ _ _ _ _ _) | (refine WL.guard rfl rfl rfl (fun h => ?_) (fun h => ?_) <;> (try dsimp only at h)))
        ((refine seE ?_); refine ⟨[], Keep.nil, ?_⟩)
        exact ⟨by rw [devStateV, if_neg h', if_neg h2', if_pos h3'], rfl⟩
      · have h3' : ¬ now < x.until_ - d.up := by simpa using h3
        repeat' (first | refine soA ?_ | refine sgA ?_ | refine sxA ?_ | refine sbA ?_ | refine fun (Q : Post) hQ => ?_ | refine fun (nb : Nat) => (?_ : WL _ _ _ _ _ _ _ _ _) | (refine WL.guard rfl rfl rfl (fun h => ?_) (fun h => ?_) <;> (try dsimp only at h)))
        ((refine seE ?_); refine ⟨[], Keep.nil, ?_⟩)
        exact ⟨by rw [devStateV, if_neg h', if_neg h2', if_neg h3'], rfl⟩
theorem away_any (d : DeviceV) (x : DevV) (now till : Int) (F : Hp) (h : DevR d x now) (ht : 0 ≤ till ∧ till ≤ 1099511627776) : Spec Tryz.prog 165 [.agg d.enc.toArray, .agg x.enc.toArray, .int .i64 now, .int .i64 till] F [] fun v hs => v = .tuple #[.agg (if devAwayB d x now till = true then (⟨now, till⟩ : DevV) else x).enc.toArray, .bool (devAwayB d x now till)] ∧ hs = [] := by
  have hr := h
  obtain ⟨a1, a2, a3, a4, a5, a6, a7, a8, a9, a10, a11⟩ := h
  refine Spec.enter Tryz.func165 rfl Tryz.ntmps165 rfl fun B => ?_
  repeat' (first | ((refine WL.ex rfl (WO.callN Tryz.func204 rfl (by kernel_rfl) rfl (by (exact tsA)) (fun G hG hh => state_any d x now G hr) ?_); rintro v own' ⟨rfl, rfl⟩)) | (first | refine soA ?_ | refine sgA ?_ | refine sxA ?_ | refine sbA ?_ | refine fun (Q : Post) hQ => ?_ | refine fun (nb : Nat) => (?_ : WL _ _ _ _ _ _ _ _ _) | (refine WL.guard rfl rfl rfl (fun h => ?_) (fun h => ?_) <;> (try dsimp only at h))))
  refine W.cond rfl (fun h => ?_) (fun h => ?_)
  · have h' : devAwayB d x now till = false := by
      unfold devAwayB
      revert h
      generalize decide (till - now < d.even) = u
      intro h
      by_cases e : devStateV d x now = 1
      · have : (devStateV d x now != 1) = false := by rw [e]; rfl
        rw [this] at h
        simp at h; simp [h]
      · simp [e]
    repeat' (first | refine soA ?_ | refine sgA ?_ | refine sxA ?_ | refine sbA ?_ | refine fun (Q : Post) hQ => ?_ | refine fun (nb : Nat) => (?_ : WL _ _ _ _ _ _ _ _ _) | (refine WL.guard rfl rfl rfl (fun h => ?_) (fun h => ?_) <;> (try dsimp only at h)))
    ((refine seE ?_); refine ⟨[], Keep.nil, ?_⟩)
    exact ⟨by rw [h']; rfl, rfl⟩
  · have h' : devAwayB d x now till = true := by
      unfold devAwayB
      revert h
      generalize decide (till - now < d.even) = u
      intro h
      simp at h; simp [h]
    repeat' (first | refine soA ?_ | refine sgA ?_ | refine sxA ?_ | refine sbA ?_ | refine fun (Q : Post) hQ => ?_ | refine fun (nb : Nat) => (?_ : WL _ _ _ _ _ _ _ _ _) | (refine WL.guard rfl rfl rfl (fun h => ?_) (fun h => ?_) <;> (try dsimp only at h)))
    ((refine seE ?_); refine ⟨[], Keep.nil, ?_⟩)
    exact ⟨by rw [h']; rfl, rfl⟩
theorem call_any (d : DeviceV) (x : DevV) (now : Int) (F : Hp) (h : DevR d x now) : Spec Tryz.prog 203 [.agg d.enc.toArray, .agg x.enc.toArray, .int .i64 now] F [] fun v hs => v = .agg (devCallV d x now).enc.toArray ∧ hs = [] := by
  obtain ⟨a1, a2, a3, a4, a5, a6, a7, a8, a9, a10, a11⟩ := h
  refine Spec.enter Tryz.func203 rfl Tryz.ntmps203 rfl fun B => ?_
  repeat' (first | ((apply WL.rd; (exact rfl); (exact Rn.max3 rfl rfl rfl))) | (first | refine soA ?_ | refine sgA ?_ | refine sxA ?_ | refine sbA ?_ | refine fun (Q : Post) hQ => ?_ | refine fun (nb : Nat) => (?_ : WL _ _ _ _ _ _ _ _ _) | (refine WL.guard rfl rfl rfl (fun h => ?_) (fun h => ?_) <;> (try dsimp only at h))))
  refine W.cond rfl (fun h => ?_) (fun h => ?_)
  · have h' : x.until_ = 1099511627776 := by simpa using h
    repeat' (first | ((apply WL.rd; (exact rfl); (exact Rn.max3 rfl rfl rfl))) | (first | refine soA ?_ | refine sgA ?_ | refine sxA ?_ | refine sbA ?_ | refine fun (Q : Post) hQ => ?_ | refine fun (nb : Nat) => (?_ : WL _ _ _ _ _ _ _ _ _) | (refine WL.guard rfl rfl rfl (fun h => ?_) (fun h => ?_) <;> (try dsimp only at h))))
    ((refine seE ?_); refine ⟨[], Keep.nil, ?_⟩)
    exact ⟨by rw [devCallV, if_pos h']; rfl, rfl⟩
  · have h' : ¬ x.until_ = 1099511627776 := by simpa using h
    repeat' (first | refine soA ?_ | refine sgA ?_ | refine sxA ?_ | refine sbA ?_ | refine fun (Q : Post) hQ => ?_ | refine fun (nb : Nat) => (?_ : WL _ _ _ _ _ _ _ _ _) | (refine WL.guard rfl rfl rfl (fun h => ?_) (fun h => ?_) <;> (try dsimp only at h)))
    ((refine seE ?_); refine ⟨[], Keep.nil, ?_⟩)
    exact ⟨by rw [devCallV, if_neg h'], rfl⟩
theorem span_any (a b now : Int) (F : Hp) (h1 : -1125899906842624 ≤ a ∧ a ≤ 1125899906842624) (h2 : -1125899906842624 ≤ b ∧ b ≤ 1125899906842624) (h3 : -1125899906842624 ≤ now ∧ now ≤ 1125899906842624) : Spec Tryz.prog 138 [.int .i64 a, .int .i64 b, .int .i64 now] F [] fun v hs => v = .int .i64 (spanV a b now) ∧ hs = [] := by
  refine Spec.enter Tryz.func138 rfl Tryz.ntmps138 rfl fun B => ?_
  have := minV_le b now
  unfold minV at this
  repeat' (first | refine soA ?_ | refine sgA ?_ | refine sxA ?_ | refine sbA ?_ | refine fun (Q : Post) hQ => ?_ | refine fun (nb : Nat) => (?_ : WL _ _ _ _ _ _ _ _ _) | (refine WL.guard rfl rfl rfl (fun h => ?_) (fun h => ?_) <;> (try dsimp only at h)))
  ((refine seE ?_); refine ⟨[], Keep.nil, ?_⟩)
  exact ⟨rfl, rfl⟩
set_option maxHeartbeats 2000000 in
theorem energy_any (d : DeviceV) (x : DevV) (now : Int) (F : Hp) (h : DevR d x now) : Spec Tryz.prog 82 [.agg d.enc.toArray, .agg x.enc.toArray, .int .i64 now] F [] fun v hs => v = .int .i64 (devEnergyV d x now) ∧ hs = [] := by
  obtain ⟨a1, a2, a3, a4, a5, a6, a7, a8, a9, a10, a11⟩ := h
  refine Spec.enter Tryz.func82 rfl Tryz.ntmps82 rfl fun B => ?_
  have hm0 := mulBd a5 a10
  have hmx : (if now < 0 then 0 else now) = now := if_neg (by omega)
  have hs1 : 0 ≤ spanV (x.start + d.down) (x.until_ - d.up) now ∧ spanV (x.start + d.down) (x.until_ - d.up) now ≤ 1099511627776 := by
    unfold spanV maxV minV; repeat' split <;> omega
  have hs2 : 0 ≤ maxV (now - x.until_) 0 ∧ maxV (now - x.until_) 0 ≤ 1099511627776 := by unfold maxV; split <;> omega
  have hm1 := mulBd a6 hs1
  have hm2 := mulBd a5 hs2
  have hs3 : (if now - x.until_ < 0 then 0 else now - x.until_) = maxV (now - x.until_) 0 := rfl
  cases hn : neverB x with
  | true =>
    repeat' (first | ((refine WL.ex rfl (WO.callN Tryz.func137 rfl (by kernel_rfl) rfl (by (exact tsA)) (fun G hG hh => never_any x G) ?_); rintro v own' ⟨rfl, rfl⟩; rw [hn])) | ((apply WL.rd; (exact rfl); (exact (Rn.max rfl rfl).to (congrArg _ hmx)))) | (first | refine soA ?_ | refine sgA ?_ | refine sxA ?_ | refine sbA ?_ | refine fun (Q : Post) hQ => ?_ | refine fun (nb : Nat) => (?_ : WL _ _ _ _ _ _ _ _ _) | (refine WL.guard rfl rfl rfl (fun h => ?_) (fun h => ?_) <;> (try dsimp only at h))))
    ((refine seE ?_); refine ⟨[], Keep.nil, ?_⟩)
    exact ⟨by rw [devEnergyV, if_pos hn], rfl⟩
  | false =>
    have hv : devEnergyV d x now = (if x.start ≤ now then d.downE else 0) + (if x.until_ - d.up ≤ now then d.upE else 0) + d.off * spanV (x.start + d.down) (x.until_ - d.up) now + d.on * maxV (now - x.until_) 0 := by rw [devEnergyV, if_neg (by rw [hn]; decide)]
    by_cases c1 : x.start ≤ now
    all_goals by_cases c2 : x.until_ - d.up ≤ now
    all_goals
      repeat' (first | ((refine WL.ex rfl (WO.callN Tryz.func137 rfl (by kernel_rfl) rfl (by (exact tsA)) (fun G hG hh => never_any x G) ?_); rintro v own' ⟨rfl, rfl⟩; rw [hn])) | ((apply WL.rd; (exact rfl); (exact ckA))) | (first | refine soA ?_ | refine sgA ?_ | refine sxA ?_ | refine sbA ?_ | refine fun (Q : Post) hQ => ?_ | refine fun (nb : Nat) => (?_ : WL _ _ _ _ _ _ _ _ _) | (refine WL.guard rfl rfl rfl (fun h => ?_) (fun h => ?_) <;> (try dsimp only at h))))
      repeat' (first | ((apply WQ.rd; (exact rfl); (refine Qn.call Tryz.func138 rfl (by kernel_rfl) rfl (by (exact tsA)) (fun G hG hh => span_any (x.start + d.down) (x.until_ - d.up) now G (by omega) (by omega) (by omega))))) | ((apply WQ.rd; (exact rfl); apply Rn.q; (exact (Rn.max rfl rfl).to (congrArg _ hs3)))) | (first | refine sqA ?_ | refine soA ?_ | refine sgA ?_ | refine sxA ?_ | refine sbA ?_ | refine suA ?_ | refine fun (Q : Post) hQ => ?_ | refine fun (nb : Nat) => (?_ : WL _ _ _ _ _ _ _ _ _) | (refine WL.guard rfl rfl rfl (fun h => ?_) (fun h => ?_) <;> (try dsimp only at h)) | (refine WQ.guard rfl rfl rfl (fun h => ?_) (fun h => ?_) <;> (try dsimp only at h))))
      ((refine seE ?_); refine ⟨[], Keep.nil, ?_⟩)
      exact ⟨congrArg _ (by rw [hv]; simp only [c1, c2, ↓reduceIte]; try omega), rfl⟩
end Go.Proofs.YtflgnpidelkkpaaGreat
namespace Go.Proofs.YtflgnpidelkkpaaGreat
set_option maxRecDepth 8000
set_option linter.unusedVariables false
set_option linter.unusedSimpArgs false
theorem arr_zero {e : TypeId} {sz g : Nat} : Arr e sz 0 [] (some ⟨g, 0, none⟩) 0 (one g (cells [] e)) :=
  ⟨by simp, .inr ⟨g, [], rfl, rfl, by simp, Nat.le_refl 0, by simp [maxLen]⟩⟩
theorem WO.append0 {P : Program} {n : Nat} {B : World} {F : Hp} {hs : List Hp} {env : Env} {ty : TypeId} {K : Value → List Hp → Prop} {t e sz by' g : Nat} {z : Value} {zl news : List Value} {s x : Operand} {A2 : Option Addr} {m c2 : Nat} {r : List Hp} [hu : UT P t (.slice e)] [hz : SZ P e sz by'] [hzr : ZR P e z zl]
    (hs1 : ev env s = some (.slice (some ⟨g, 0, none⟩) 0 0)) (hx : ev env x = some (.slice A2 m c2)) (ht : Take hs (one g (cells [] e)) r) (hzl : zl.length = sz) (hpos : 0 < sz) (hl : news.length = m * sz) (hr : RowAt F hs A2 news) (h1c : news.all (·.oneCell') = true)
    (hfit : m * by' ≤ 140737488355328) (hmax : m ≤ 9223372036854775807) (k : ∀ A' c' h', Arr e sz m news A' c' h' → K (.slice A' m c') (h' :: r)) : WO P n B F (.call ⟨.builtin .append, #[s, x], #[t, t]⟩) ty env hs K :=
  WO.append hs1 hx ht arr_zero hzl hpos hl hr h1c (by rw [Nat.zero_add]; exact hfit) (by rw [Nat.zero_add]; exact hmax) (fun A' c' h' ha => by
    have e : 0 + m = m := Nat.zero_add m
    rw [e] at ha ⊢
    exact k A' c' h' ha)
theorem Arr.rowX {e : TypeId} {sz m c : Nat} {vs : List Value} {A : Option Addr} {h G : Hp} (a : Arr e sz m vs A c h) (g : h.le G) : RowAt G [] A vs := fun j v ej => by
  obtain ⟨b, sp, h1, h2, h3⟩ := a.row j v ej
  exact ⟨b, 0, h1, CellAt.mk (At.ofF (g _ _ h2)) (by rw [Nat.zero_add]; exact h3)⟩
end Go.Proofs.YtflgnpidelkkpaaGreat
