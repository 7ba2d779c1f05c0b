/- part 11 of the proof: contracts of the functions that the law reaches, and plain laws. -/
import Derived.Test.YtflgnpidelkkpaaGreatMq7
import Derived.Test.YtflgnpidelkkpaaGreatMq10
namespace Go.Proofs.YtflgnpidelkkpaaGreat
set_option maxRecDepth 8000
set_option maxHeartbeats 1000000
set_option linter.unusedVariables false
set_option linter.unusedSimpArgs false
def quantaT (p : PP) (t : TT) (level : Int) : Int := if level < 0 ∨ (p.levels.length : Int) ≤ level then 0 else w64 (w64 (t.cycles * levP p level) + w64 (2 * p.switch))
def partV (p : PP) (t : TT) (level : Int) : Int := utilV (quantaT p t level) t.period
def longS (ts : List TT) (period : Int) (t : TT) (m : Int) (s : Nat) : Int := if period < t.period ∧ usesP t s = true ∧ ceilP ts s ≤ period then maxV m (t.sec.getD s 0) else m
def longT (ts : List TT) (period : Int) (m : Int) (t : TT) : Int := (List.range t.sec.length).foldl (longS ts period t) m
def longV (ts : List TT) (period : Int) : Int := ts.foldl (longT ts period) 0
def blockV (p : PP) (ts : List TT) (period : Int) : Int := w64 (w64 (longV ts period * levP p p.crit) + maxV (levP p p.crit) p.switch)
def reserveV (p : PP) (ts : List TT) : Int := ts.foldl (fun m t => maxV m (utilV (blockV p ts t.period) t.period)) 0
def loadV (p : PP) (ts : List TT) (level : Int) : Int := ts.foldl (fun s t => w64 (s + partV p t level)) (reserveV p ts)
def slowF (p : PP) (ts : List TT) (best : Int) (i : Nat) : Int := if loadV p ts (i + 1 : Nat) ≤ 4294967296 then ((i + 1 : Nat) : Int) else best
def slowestV (p : PP) (ts : List TT) : Int := (List.range p.crit.toNat).foldl (slowF p ts) 0
def spareS (p : PP) (n : Int) (s : Int) (x : TT × Int) : Int := w64 (s + utilV (w64 (w64 (x.2 * levP p n) + w64 (2 * p.switch))) x.1.period)
def spareL (p : PP) (ts : List TT) (used : List Int) (n : Int) : Int := (ts.zip used).foldl (spareS p n) (reserveV p ts)
def spareF (p : PP) (ts : List TT) (used : List Int) (best : Int) (i : Nat) : Int := if spareL p ts used (i + 1 : Nat) ≤ 4294967296 then ((i + 1 : Nat) : Int) else best
def spareV (p : PP) (ts : List TT) (used : List Int) : Int := (List.range p.crit.toNat).foldl (spareF p ts used) 0
attribute [local irreducible] W X WL WA WB WG WO Rn Own one splice Arr Spec WQ WH Qn
theorem quanta_any (p : PlatV) (t : TaskV) (level : Int) (F : Hp) (hp : PlatAt F p) : Spec Tryz.prog 266 [.agg p.enc.toArray, .agg t.enc.toArray, .int .i64 level] F [] fun v hs => v = .int .i64 (quantaT p.pl t.pl level) ∧ hs = [] := by
  refine Spec.enter Tryz.func266 rfl Tryz.ntmps266 rfl fun B => ?_
  repeat' (first | refine soA ?_ | refine sgA ?_ | refine sxA ?_ | refine sbA ?_ | refine fun (Q : Post) hQ => ?_ | refine fun (nb : Nat) => (?_ : WL _ _ _ _ _ _ _ _ _) | (refine WL.guard rfl rfl rfl (fun h => ?_) (fun h => ?_) <;> (try dsimp only at h)))
  refine W.cond rfl (fun h => ?_) (fun h => ?_)
  · have h' : level < 0 ∨ (p.levels.xs.length : Int) ≤ level := by simpa using h
    repeat' (first | refine soA ?_ | refine sgA ?_ | refine sxA ?_ | refine sbA ?_ | refine fun (Q : Post) hQ => ?_ | refine fun (nb : Nat) => (?_ : WL _ _ _ _ _ _ _ _ _) | (refine WL.guard rfl rfl rfl (fun h => ?_) (fun h => ?_) <;> (try dsimp only at h)))
    ((refine seE ?_); refine ⟨[], Keep.nil, ?_⟩)
    exact ⟨by rw [quantaT, if_pos (show level < 0 ∨ (p.pl.levels.length : Int) ≤ level from h')], rfl⟩
  · have h' : ¬ (level < 0 ∨ (p.levels.xs.length : Int) ≤ level) := by simpa using h
    obtain ⟨n, rfl⟩ : ∃ n : Nat, level = n := ⟨level.toNat, by omega⟩
    have hlt : n < p.levels.xs.length := by omega
    obtain ⟨l, hl⟩ : ∃ l, p.levels.xs[n]? = some l := ⟨_, List.getElem?_eq_getElem (by simpa using hlt)⟩
    obtain ⟨g, o, eA, g1⟩ := hp.levels.elem 2 (fun _ => rfl) (by omega) n l hl
    have hv : quantaT p.pl t.pl (n : Int) = w64 (w64 (t.cycles * l.P) + w64 (2 * p.switch)) := by rw [quantaT, if_neg (show ¬ ((n : Int) < 0 ∨ (p.pl.levels.length : Int) ≤ (n : Int)) from h'), levP_at hl]; rfl
    repeat' (first | ((apply WQ.rd; (exact rfl); apply Rn.q; (exact Rn.indexAddrE n eA rfl rfl (by first | rfl | omega) (by first | assumption | omega)))) | ((apply WQ.rd; (exact rfl); apply Rn.q; (apply Rn.load; (exact rfl); (exact (CellsAt.weak g1 (by simp)) 0 _ rfl)))) | (first | refine sqA ?_ | refine soA ?_ | refine sgA ?_ | refine sxA ?_ | refine sbA ?_ | refine suA ?_ | refine fun (Q : Post) hQ => ?_ | refine fun (nb : Nat) => (?_ : WL _ _ _ _ _ _ _ _ _) | (refine WL.guard rfl rfl rfl (fun h => ?_) (fun h => ?_) <;> (try dsimp only at h)) | (refine WQ.guard rfl rfl rfl (fun h => ?_) (fun h => ?_) <;> (try dsimp only at h))))
    ((refine seE ?_); refine ⟨[], Keep.nil, ?_⟩)
    exact ⟨by rw [hv], rfl⟩
theorem part_any (p : PlatV) (t : TaskV) (level : Int) (F : Hp) (hp : PlatAt F p) : Spec Tryz.prog 241 [.agg p.enc.toArray, .agg t.enc.toArray, .int .i64 level] F [] fun v hs => v = .int .i64 (partV p.pl t.pl level) ∧ hs = [] := by
  refine Spec.enter Tryz.func241 rfl Tryz.ntmps241 rfl fun B => ?_
  repeat' (first | ((apply WQ.rd; (exact rfl); (refine Qn.call Tryz.func266 rfl (by kernel_rfl) rfl (by (exact tsA)) (fun G hG hh => quanta_any p t level G (hp.up hG))))) | ((apply WQ.rd; (exact rfl); (refine Qn.call Tryz.func264 rfl (by kernel_rfl) rfl (by (exact tsA)) (fun G hG hh => util_any _ _ G)))) | (first | refine sqA ?_ | refine soA ?_ | refine sgA ?_ | refine sxA ?_ | refine sbA ?_ | refine suA ?_ | refine fun (Q : Post) hQ => ?_ | refine fun (nb : Nat) => (?_ : WL _ _ _ _ _ _ _ _ _) | (refine WL.guard rfl rfl rfl (fun h => ?_) (fun h => ?_) <;> (try dsimp only at h)) | (refine WQ.guard rfl rfl rfl (fun h => ?_) (fun h => ?_) <;> (try dsimp only at h))))
  ((refine seE ?_); refine ⟨[], Keep.nil, ?_⟩)
  exact ⟨rfl, rfl⟩
theorem rpart_any (p : PlatV) (t : TaskV) (level : Int) (F : Hp) (hp : PlatAt F p) : Spec Tryz.prog 70 [.agg p.enc.toArray, .agg t.enc.toArray, .int .i64 level] F [] fun v hs => v = .int .i64 (partV p.pl t.pl level) ∧ hs = [] := by
  refine Spec.enter Tryz.func70 rfl Tryz.ntmps70 rfl fun B => ?_
  repeat' (first | refine soA ?_ | refine sgA ?_ | refine sxA ?_ | refine sbA ?_ | refine fun (Q : Post) hQ => ?_ | refine fun (nb : Nat) => (?_ : WL _ _ _ _ _ _ _ _ _) | (refine WL.guard rfl rfl rfl (fun h => ?_) (fun h => ?_) <;> (try dsimp only at h)))
  refine W.cond rfl (fun h => ?_) (fun h => ?_)
  · have h' : level < 0 ∨ (p.levels.xs.length : Int) ≤ level := by simpa using h
    have hv : partV p.pl t.pl level = utilV 0 t.period := by rw [partV, quantaT, if_pos (show level < 0 ∨ (p.pl.levels.length : Int) ≤ level from h')]; rfl
    repeat' (first | ((refine W.region (WL.ofQ ?_))) | ((apply WQ.rd; (exact rfl); (refine Qn.call Tryz.func113 rfl (by kernel_rfl) rfl (by (exact tsA)) (fun G hG hh => rutil_any _ _ G)))) | (first | refine sqA ?_ | refine soA ?_ | refine sgA ?_ | refine sxA ?_ | refine sbA ?_ | refine suA ?_ | refine fun (Q : Post) hQ => ?_ | refine fun (nb : Nat) => (?_ : WL _ _ _ _ _ _ _ _ _) | (refine WL.guard rfl rfl rfl (fun h => ?_) (fun h => ?_) <;> (try dsimp only at h)) | (refine WQ.guard rfl rfl rfl (fun h => ?_) (fun h => ?_) <;> (try dsimp only at h))))
    ((refine seE ?_); refine ⟨[], Keep.nil, ?_⟩)
    exact ⟨by rw [hv], rfl⟩
  · have h' : ¬ (level < 0 ∨ (p.levels.xs.length : Int) ≤ level) := by simpa using h
    obtain ⟨n, rfl⟩ : ∃ n : Nat, level = n := ⟨level.toNat, by omega⟩
    have hlt : n < p.levels.xs.length := by omega
    obtain ⟨l, hl⟩ : ∃ l, p.levels.xs[n]? = some l := ⟨_, List.getElem?_eq_getElem (by simpa using hlt)⟩
    obtain ⟨g, o, eA, g1⟩ := hp.levels.elem 2 (fun _ => rfl) (by omega) n l hl
    have hv : partV p.pl t.pl (n : Int) = utilV (w64 (w64 (t.cycles * l.P) + w64 (2 * p.switch))) t.period := by rw [partV, quantaT, if_neg (show ¬ ((n : Int) < 0 ∨ (p.pl.levels.length : Int) ≤ (n : Int)) from h'), levP_at hl]; rfl
    repeat' (first | ((refine W.region (WL.ofQ ?_))) | ((apply WQ.rd; (exact rfl); apply Rn.q; (exact Rn.indexAddrE n eA rfl rfl (by first | rfl | omega) (by first | assumption | omega)))) | ((apply WQ.rd; (exact rfl); apply Rn.q; (apply Rn.load; (exact rfl); (exact (CellsAt.weak g1 (by simp)) 0 _ rfl)))) | ((apply WQ.rd; (exact rfl); (refine Qn.call Tryz.func113 rfl (by kernel_rfl) rfl (by (exact tsA)) (fun G hG hh => rutil_any _ _ G)))) | (first | refine sqA ?_ | refine soA ?_ | refine sgA ?_ | refine sxA ?_ | refine sbA ?_ | refine suA ?_ | refine fun (Q : Post) hQ => ?_ | refine fun (nb : Nat) => (?_ : WL _ _ _ _ _ _ _ _ _) | (refine WL.guard rfl rfl rfl (fun h => ?_) (fun h => ?_) <;> (try dsimp only at h)) | (refine WQ.guard rfl rfl rfl (fun h => ?_) (fun h => ?_) <;> (try dsimp only at h))))
    ((refine seE ?_); refine ⟨[], Keep.nil, ?_⟩)
    exact ⟨by rw [hv], rfl⟩
theorem longest_any (p : PlatV) (A1 : Option Addr) (c1 : Nat) (ts : List TaskV) (period : Int) (F : Hp) (hp : PlatAt F p) (h1 : TasksX F A1 ts) : Spec Tryz.prog 281 [.agg p.enc.toArray, .slice A1 ts.length c1, .int .i64 period] F [] fun v hs => v = .int .i64 (longV (ts.map TaskV.pl) period) ∧ hs = [] := by
  refine Spec.enter Tryz.func281 rfl Tryz.ntmps281 rfl fun B => ?_
  have hfit := h1.at_.fit
  repeat' (first | refine soA ?_ | refine sgA ?_ | refine sxA ?_ | refine sbA ?_ | refine fun (Q : Post) hQ => ?_ | refine fun (nb : Nat) => (?_ : WL _ _ _ _ _ _ _ _ _) | (refine WL.guard rfl rfl rfl (fun h => ?_) (fun h => ?_) <;> (try dsimp only at h)))
  (refine W.loopK (σ := Nat) ⟨fun k => k ≤ ts.length, fun k => [(13, some (.int .i64 (k : Nat))), (12, some (.int .i64 (ts.length : Nat))), (11, some (.slice A1 ts.length c1)), (1, some (.slice A1 ts.length c1)), (2, some (.int .i64 period)), (7, some (.int .i64 (((ts.map TaskV.pl).take k).foldl (longT (ts.map TaskV.pl) period) 0)))], fun _ => [], fun k => ts.length - k⟩ 0 (Nat.zero_le _) (by repeat' (first | exact trivial | refine ⟨rfl, ?_⟩)) (by (exact keA)) ?_; intro k hk Q hL; dsimp only at hk ⊢)
  repeat' (first | refine soA ?_ | refine sgA ?_ | refine sxA ?_ | refine sbA ?_ | refine fun (Q : Post) hQ => ?_ | refine fun (nb : Nat) => (?_ : WL _ _ _ _ _ _ _ _ _) | (refine WL.guard rfl rfl rfl (fun h => ?_) (fun h => ?_) <;> (try dsimp only at h)))
  refine W.cond rfl (fun h => ?_) (fun h => ?_)
  · have hlt : k < ts.length := by simpa using h
    obtain ⟨t, ht⟩ : ∃ t, ts[k]? = some t := ⟨_, List.getElem?_eq_getElem (by simpa using hlt)⟩
    obtain ⟨g, o, eA, g1⟩ := h1.at_.row.elem 4 (fun _ => rfl) (by omega) k t ht
    have hst := foldl_take_succ (longT (ts.map TaskV.pl) period) 0 _ k _ (mapT_get ht)
    generalize ((ts.map TaskV.pl).take k).foldl (longT (ts.map TaskV.pl) period) 0 = m0 at *
    have htm : t ∈ ts := List.mem_of_getElem? ht
    have hsec := h1.at_.sec t htm
    have hsf := h1.secF t htm
    repeat' (first | ((apply WL.rd; (exact rfl); (exact Rn.indexAddrE k eA rfl rfl (by first | rfl | omega) (by first | assumption | omega)))) | ((apply WL.rd; (exact rfl); (apply Rn.loadS; (exact rfl); (exact (CellsAt.weak g1 (by simp))); (exact rfl)))) | (first | refine soA ?_ | refine sgA ?_ | refine sxA ?_ | refine sbA ?_ | refine fun (Q : Post) hQ => ?_ | refine fun (nb : Nat) => (?_ : WL _ _ _ _ _ _ _ _ _) | (refine WL.guard rfl rfl rfl (fun h => ?_) (fun h => ?_) <;> (try dsimp only at h))))
    refine W.loopK (σ := Nat) ⟨fun q => q ≤ t.sec.xs.length, fun q => [(20, some (.int .i64 (q : Nat))), (19, some (.int .i64 (t.sec.xs.length : Nat))), (9, some (.pointer (some ⟨nb, 0, none⟩))), (13, some (.int .i64 (k : Nat))), (12, some (.int .i64 (ts.length : Nat))), (11, some (.slice A1 ts.length c1)), (1, some (.slice A1 ts.length c1)), (2, some (.int .i64 period)), (7, some (.int .i64 ((List.range q).foldl (longS (ts.map TaskV.pl) period t.pl) m0)))], fun _ => [one nb (cells t.enc 33)], fun q => t.sec.xs.length - q⟩ 0 (Nat.zero_le _) (by repeat' (first | exact trivial | refine ⟨rfl, ?_⟩)) (by (exact keA)) ?_
    intro q hq Q2 hL2
    dsimp only at hq ⊢
    repeat' (first | refine soA ?_ | refine sgA ?_ | refine sxA ?_ | refine sbA ?_ | refine fun (Q : Post) hQ => ?_ | refine fun (nb : Nat) => (?_ : WL _ _ _ _ _ _ _ _ _) | (refine WL.guard rfl rfl rfl (fun h => ?_) (fun h => ?_) <;> (try dsimp only at h)))
    refine W.cond rfl (fun h2 => ?_) (fun h2 => ?_)
    · have hlt2 : q < t.sec.xs.length := by simpa using h2
      have hst2 := foldl_range_succ (longS (ts.map TaskV.pl) period t.pl) m0 q
      generalize (List.range q).foldl (longS (ts.map TaskV.pl) period t.pl) m0 = m1 at *
      obtain ⟨x, hx⟩ : ∃ x, t.sec.xs[q]? = some x := ⟨_, List.getElem?_eq_getElem (by simpa using hlt2)⟩
      obtain ⟨g2, o2, eA2, g3⟩ := ints_cell hsec hx
      repeat' (first | ((refine W.region (WL.ofQ ?_))) | ((apply WQ.rd; (exact rfl); (refine Qn.call Tryz.func156 rfl (by kernel_rfl) rfl (by (exact tsA)) (fun G hG hh => usesT_any t (q : Int) G (hsec.up hG (by simp)))))) | ((apply WH.ex; (exact rfl); (exact rfl); (exact rfl); intro hb; (refine Qn.call Tryz.func156 rfl (by kernel_rfl) rfl (by (exact tsA)) (fun G hG hh => usesT_any t (q : Int) G (hsec.up hG (by simp)))))) | ((apply WH.ex; (exact rfl); (exact rfl); (exact rfl); intro hb; (refine Qn.call Tryz.func251 rfl (by kernel_rfl) rfl (by (exact tsA)) (fun G hG hh => ceilT_any A1 c1 ts (q : Int) G (h1.at_.up hG))))) | (first | refine sqA ?_ | refine soA ?_ | refine sgA ?_ | refine sxA ?_ | refine sbA ?_ | refine suA ?_ | refine fun (Q : Post) hQ => ?_ | refine fun (nb : Nat) => (?_ : WL _ _ _ _ _ _ _ _ _) | (refine WL.guard rfl rfl rfl (fun h => ?_) (fun h => ?_) <;> (try dsimp only at h)) | (refine WQ.guard rfl rfl rfl (fun h => ?_) (fun h => ?_) <;> (try dsimp only at h))))
      refine W.cond rfl (fun h3 => ?_) (fun h3 => ?_)
      · have h3' : (period < t.period ∧ usesP t.pl (q : Int) = true) ∧ ceilP (ts.map TaskV.pl) q ≤ period := by simpa [ceilT_pl, usesB_pl] using h3
        have hv : longS (ts.map TaskV.pl) period t.pl m1 q = maxV m1 x := by
          rw [longS, if_pos ⟨h3'.1.1, h3'.1.2, h3'.2⟩]
          congr 1
          show t.sec.xs.getD q 0 = x
          rw [List.getD_eq_getElem?_getD, hx]; rfl
        rw [hv] at hst2
        repeat' (first | ((apply WL.rd; (exact rfl); (exact Rn.indexAddrE q eA2 rfl rfl (by first | rfl | omega) (by first | assumption | omega)))) | ((apply WL.rd; (exact rfl); (apply Rn.load; (exact rfl); (exact (CellsAt.weak g3 (by simp)) 0 _ rfl)))) | (first | refine soA ?_ | refine sgA ?_ | refine sxA ?_ | refine sbA ?_ | refine fun (Q : Post) hQ => ?_ | refine fun (nb : Nat) => (?_ : WL _ _ _ _ _ _ _ _ _) | (refine WL.guard rfl rfl rfl (fun h => ?_) (fun h => ?_) <;> (try dsimp only at h))))
        exact hL2.nx (q + 1) _ _ (by dsimp only; omega) (by dsimp only; omega) (by repeat' (first | exact trivial | refine ⟨by rw [hst2]; rfl, ?_⟩ | refine ⟨rfl, ?_⟩)) (by (exact keA))
      · have h3' : ¬ (period < t.period ∧ usesP t.pl (q : Int) = true ∧ ceilP (ts.map TaskV.pl) q ≤ period) := by
          intro ⟨a1, a2, a3⟩
          rw [usesB_pl, a2, ceilT_pl, decide_eq_true a1, decide_eq_true a3] at h3
          cases h3
        have hv : longS (ts.map TaskV.pl) period t.pl m1 q = m1 := if_neg h3'
        rw [hv] at hst2
        repeat' (first | refine soA ?_ | refine sgA ?_ | refine sxA ?_ | refine sbA ?_ | refine fun (Q : Post) hQ => ?_ | refine fun (nb : Nat) => (?_ : WL _ _ _ _ _ _ _ _ _) | (refine WL.guard rfl rfl rfl (fun h => ?_) (fun h => ?_) <;> (try dsimp only at h)))
        exact hL2.nx (q + 1) _ _ (by dsimp only; omega) (by dsimp only; omega) (by repeat' (first | exact trivial | refine ⟨by rw [hst2]; rfl, ?_⟩ | refine ⟨rfl, ?_⟩)) (by (exact keA))
    · obtain rfl : q = t.sec.xs.length := by simp at h2; omega
      have hst3 : ((ts.map TaskV.pl).take (k + 1)).foldl (longT (ts.map TaskV.pl) period) 0 = (List.range t.sec.xs.length).foldl (longS (ts.map TaskV.pl) period t.pl) m0 := hst
      repeat' (first | refine soA ?_ | refine sgA ?_ | refine sxA ?_ | refine sbA ?_ | refine fun (Q : Post) hQ => ?_ | refine fun (nb : Nat) => (?_ : WL _ _ _ _ _ _ _ _ _) | (refine WL.guard rfl rfl rfl (fun h => ?_) (fun h => ?_) <;> (try dsimp only at h)))
      exact hL.nx (k + 1) _ _ (by dsimp only; omega) (by dsimp only; omega) (by repeat' (first | exact trivial | refine ⟨by rw [hst3]; rfl, ?_⟩ | refine ⟨rfl, ?_⟩)) (by (exact keA))
  · obtain rfl : k = ts.length := by simp at h; omega
    have he : ((ts.map TaskV.pl).take ts.length).foldl (longT (ts.map TaskV.pl) period) 0 = longV (ts.map TaskV.pl) period := by rw [longV, List.take_of_length_le (by simp)]
    repeat' (first | refine soA ?_ | refine sgA ?_ | refine sxA ?_ | refine sbA ?_ | refine fun (Q : Post) hQ => ?_ | refine fun (nb : Nat) => (?_ : WL _ _ _ _ _ _ _ _ _) | (refine WL.guard rfl rfl rfl (fun h => ?_) (fun h => ?_) <;> (try dsimp only at h)))
    ((refine seE ?_); refine ⟨[], Keep.nil, ?_⟩)
    exact ⟨by rw [← he], rfl⟩
theorem block_any (p : PlatV) (A1 : Option Addr) (c1 : Nat) (ts : List TaskV) (period : Int) (F : Hp) (hp : PlatAt F p) (hc : 0 ≤ p.crit ∧ p.crit < (p.levels.xs.length : Nat)) (h1 : TasksX F A1 ts) : Spec Tryz.prog 265 [.agg p.enc.toArray, .slice A1 ts.length c1, .int .i64 period] F [] fun v hs => v = .int .i64 (blockV p.pl (ts.map TaskV.pl) period) ∧ hs = [] := by
  refine Spec.enter Tryz.func265 rfl Tryz.ntmps265 rfl fun B => ?_
  obtain ⟨n, hn⟩ : ∃ n : Nat, p.crit = n := ⟨p.crit.toNat, by omega⟩
  have hlt : n < p.levels.xs.length := by omega
  obtain ⟨l, hl⟩ : ∃ l, p.levels.xs[n]? = some l := ⟨_, List.getElem?_eq_getElem (by simpa using hlt)⟩
  obtain ⟨g, o, eA, g1⟩ := hp.levels.elem 2 (fun _ => rfl) (by omega) n l hl
  have hv : levP p.pl p.crit = l.P := by rw [hn]; exact levP_at hl
  have e : blockV p.pl (ts.map TaskV.pl) period = w64 (w64 (longV (ts.map TaskV.pl) period * l.P) + maxV l.P p.switch) := by rw [blockV, show p.pl.crit = p.crit from rfl, hv]; rfl
  rw [e]
  repeat' (first | ((apply WL.rd; (exact rfl); (exact Rn.indexAddrE n eA rfl rfl hn hlt))) | ((apply WL.rd; (exact rfl); (apply Rn.load; (exact rfl); (exact (CellsAt.weak g1 (by simp)) 0 _ rfl)))) | ((apply WQ.rd; (exact rfl); (refine Qn.call Tryz.func281 rfl (by kernel_rfl) rfl (by (exact tsA)) (fun G hG hh => longest_any p A1 c1 ts period G (hp.up hG) (h1.up hG))))) | (first | refine sqA ?_ | refine soA ?_ | refine sgA ?_ | refine sxA ?_ | refine sbA ?_ | refine suA ?_ | refine fun (Q : Post) hQ => ?_ | refine fun (nb : Nat) => (?_ : WL _ _ _ _ _ _ _ _ _) | (refine WL.guard rfl rfl rfl (fun h => ?_) (fun h => ?_) <;> (try dsimp only at h)) | (refine WQ.guard rfl rfl rfl (fun h => ?_) (fun h => ?_) <;> (try dsimp only at h))))
  ((refine seE ?_); refine ⟨[], Keep.nil, ?_⟩)
  exact ⟨rfl, rfl⟩
theorem reserve_any (p : PlatV) (A1 : Option Addr) (c1 : Nat) (ts : List TaskV) (F : Hp) (hp : PlatAt F p) (hc : 0 ≤ p.crit ∧ p.crit < (p.levels.xs.length : Nat)) (h1 : TasksX F A1 ts) : Spec Tryz.prog 240 [.agg p.enc.toArray, .slice A1 ts.length c1] F [] fun v hs => v = .int .i64 (reserveV p.pl (ts.map TaskV.pl)) ∧ hs = [] := by
  refine Spec.enter Tryz.func240 rfl Tryz.ntmps240 rfl fun B => ?_
  have hfit := h1.at_.fit
  repeat' (first | refine soA ?_ | refine sgA ?_ | refine sxA ?_ | refine sbA ?_ | refine fun (Q : Post) hQ => ?_ | refine fun (nb : Nat) => (?_ : WL _ _ _ _ _ _ _ _ _) | (refine WL.guard rfl rfl rfl (fun h => ?_) (fun h => ?_) <;> (try dsimp only at h)))
  (refine W.loopK (σ := Nat) ⟨fun k => k ≤ ts.length, fun k => [(10, some (.int .i64 (k : Nat))), (9, some (.int .i64 (ts.length : Nat))), (8, some (.slice A1 ts.length c1)), (1, some (.slice A1 ts.length c1)), (2, some (.pointer (some ⟨nb, 0, none⟩))), (5, some (.int .i64 (((ts.map TaskV.pl).take k).foldl (fun m t => maxV m (utilV (blockV p.pl (ts.map TaskV.pl) t.period) t.period)) 0)))], fun _ => [one nb (cells p.enc 26)], fun k => ts.length - k⟩ 0 (Nat.zero_le _) (by repeat' (first | exact trivial | refine ⟨rfl, ?_⟩)) (by (exact keA)) ?_; intro k hk Q hL; dsimp only at hk ⊢)
  repeat' (first | refine soA ?_ | refine sgA ?_ | refine sxA ?_ | refine sbA ?_ | refine fun (Q : Post) hQ => ?_ | refine fun (nb : Nat) => (?_ : WL _ _ _ _ _ _ _ _ _) | (refine WL.guard rfl rfl rfl (fun h => ?_) (fun h => ?_) <;> (try dsimp only at h)))
  refine W.cond rfl (fun h => ?_) (fun h => ?_)
  · have hlt : k < ts.length := by simpa using h
    obtain ⟨t, ht⟩ : ∃ t, ts[k]? = some t := ⟨_, List.getElem?_eq_getElem (by simpa using hlt)⟩
    obtain ⟨g, o, eA, g1⟩ := h1.at_.row.elem 4 (fun _ => rfl) (by omega) k t ht
    have hst := foldl_take_succ (fun m (t : TT) => maxV m (utilV (blockV p.pl (ts.map TaskV.pl) t.period) t.period)) 0 _ k _ (mapT_get ht)
    repeat' (first | ((apply WL.rd; (exact rfl); (exact Rn.indexAddrE k eA rfl rfl (by first | rfl | omega) (by first | assumption | omega)))) | ((apply WL.rd; (exact rfl); (apply Rn.loadS; (exact rfl); (exact (CellsAt.weak g1 (by simp))); (exact rfl)))) | ((apply WQ.rd; (exact rfl); (refine Qn.call Tryz.func265 rfl (by kernel_rfl) rfl (by (exact tsA)) (fun G hG hh => block_any p A1 c1 ts t.period G (hp.up hG) hc (h1.up hG))))) | ((apply WQ.rd; (exact rfl); (refine Qn.call Tryz.func264 rfl (by kernel_rfl) rfl (by (exact tsA)) (fun G hG hh => util_any _ _ G)))) | (first | refine sqA ?_ | refine soA ?_ | refine sgA ?_ | refine sxA ?_ | refine sbA ?_ | refine suA ?_ | refine fun (Q : Post) hQ => ?_ | refine fun (nb : Nat) => (?_ : WL _ _ _ _ _ _ _ _ _) | (refine WL.guard rfl rfl rfl (fun h => ?_) (fun h => ?_) <;> (try dsimp only at h)) | (refine WQ.guard rfl rfl rfl (fun h => ?_) (fun h => ?_) <;> (try dsimp only at h))))
    exact hL.nx (k + 1) _ _ (by dsimp only; omega) (by dsimp only; omega) (by repeat' (first | exact trivial | refine ⟨by rw [hst]; rfl, ?_⟩ | refine ⟨rfl, ?_⟩)) (by (exact keA))
  · obtain rfl : k = ts.length := by simp at h; omega
    repeat' (first | refine soA ?_ | refine sgA ?_ | refine sxA ?_ | refine sbA ?_ | refine fun (Q : Post) hQ => ?_ | refine fun (nb : Nat) => (?_ : WL _ _ _ _ _ _ _ _ _) | (refine WL.guard rfl rfl rfl (fun h => ?_) (fun h => ?_) <;> (try dsimp only at h)))
    ((refine seE ?_); refine ⟨[], Keep.nil, ?_⟩)
    exact ⟨by rw [reserveV, List.take_of_length_le (by simp)], rfl⟩
theorem load_any (p : PlatV) (A1 : Option Addr) (c1 : Nat) (ts : List TaskV) (level : Int) (F : Hp) (hp : PlatAt F p) (hc : 0 ≤ p.crit ∧ p.crit < (p.levels.xs.length : Nat)) (h1 : TasksX F A1 ts) : Spec Tryz.prog 198 [.agg p.enc.toArray, .slice A1 ts.length c1, .int .i64 level] F [] fun v hs => v = .int .i64 (loadV p.pl (ts.map TaskV.pl) level) ∧ hs = [] := by
  refine Spec.enter Tryz.func198 rfl Tryz.ntmps198 rfl fun B => ?_
  have hfit := h1.at_.fit
  repeat' (first | ((refine WL.ex rfl (WO.callN Tryz.func240 rfl (by kernel_rfl) rfl (by (exact tsA)) (fun G hG hh => reserve_any p A1 c1 ts G (hp.up hG) hc (h1.up hG)) ?_); rintro v own' ⟨rfl, rfl⟩)) | (first | refine soA ?_ | refine sgA ?_ | refine sxA ?_ | refine sbA ?_ | refine fun (Q : Post) hQ => ?_ | refine fun (nb : Nat) => (?_ : WL _ _ _ _ _ _ _ _ _) | (refine WL.guard rfl rfl rfl (fun h => ?_) (fun h => ?_) <;> (try dsimp only at h))))
  (refine W.loopK (σ := Nat) ⟨fun k => k ≤ ts.length, fun k => [(15, some (.int .i64 (k : Nat))), (14, some (.int .i64 (ts.length : Nat))), (13, some (.slice A1 ts.length c1)), (2, some (.int .i64 level)), (3, some (.pointer (some ⟨nb, 0, none⟩))), (7, some (.int .i64 (((ts.map TaskV.pl).take k).foldl (fun s t => w64 (s + partV p.pl t level)) (reserveV p.pl (ts.map TaskV.pl)))))], fun _ => [one nb (cells p.enc 26)], fun k => ts.length - k⟩ 0 (Nat.zero_le _) (by repeat' (first | exact trivial | refine ⟨rfl, ?_⟩)) (by (exact keA)) ?_; intro k hk Q hL; dsimp only at hk ⊢)
  repeat' (first | refine soA ?_ | refine sgA ?_ | refine sxA ?_ | refine sbA ?_ | refine fun (Q : Post) hQ => ?_ | refine fun (nb : Nat) => (?_ : WL _ _ _ _ _ _ _ _ _) | (refine WL.guard rfl rfl rfl (fun h => ?_) (fun h => ?_) <;> (try dsimp only at h)))
  refine W.cond rfl (fun h => ?_) (fun h => ?_)
  · have hlt : k < ts.length := by simpa using h
    obtain ⟨t, ht⟩ : ∃ t, ts[k]? = some t := ⟨_, List.getElem?_eq_getElem (by simpa using hlt)⟩
    obtain ⟨g, o, eA, g1⟩ := h1.at_.row.elem 4 (fun _ => rfl) (by omega) k t ht
    have hst := foldl_take_succ (fun s (t : TT) => w64 (s + partV p.pl t level)) (reserveV p.pl (ts.map TaskV.pl)) _ k _ (mapT_get ht)
    repeat' (first | ((apply WL.rd; (exact rfl); (exact Rn.indexAddrE k eA rfl rfl (by first | rfl | omega) (by first | assumption | omega)))) | ((apply WL.rd; (exact rfl); (apply Rn.loadS; (exact rfl); (exact (CellsAt.weak g1 (by simp))); (exact rfl)))) | ((refine WL.ex rfl (WO.callN Tryz.func241 rfl (by kernel_rfl) rfl (by (exact tsA)) (fun G hG hh => part_any p t level G (hp.up hG)) ?_); rintro v own' ⟨rfl, rfl⟩)) | (first | refine soA ?_ | refine sgA ?_ | refine sxA ?_ | refine sbA ?_ | refine fun (Q : Post) hQ => ?_ | refine fun (nb : Nat) => (?_ : WL _ _ _ _ _ _ _ _ _) | (refine WL.guard rfl rfl rfl (fun h => ?_) (fun h => ?_) <;> (try dsimp only at h))))
    exact hL.nx (k + 1) _ _ (by dsimp only; omega) (by dsimp only; omega) (by repeat' (first | exact trivial | refine ⟨by rw [hst]; rfl, ?_⟩ | refine ⟨rfl, ?_⟩)) (by (exact keA))
  · obtain rfl : k = ts.length := by simp at h; omega
    repeat' (first | refine soA ?_ | refine sgA ?_ | refine sxA ?_ | refine sbA ?_ | refine fun (Q : Post) hQ => ?_ | refine fun (nb : Nat) => (?_ : WL _ _ _ _ _ _ _ _ _) | (refine WL.guard rfl rfl rfl (fun h => ?_) (fun h => ?_) <;> (try dsimp only at h)))
    ((refine seE ?_); refine ⟨[], Keep.nil, ?_⟩)
    exact ⟨by rw [loadV, List.take_of_length_le (by simp)], rfl⟩
end Go.Proofs.YtflgnpidelkkpaaGreat
