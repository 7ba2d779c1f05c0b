/- part 12 of the proof: contracts of the functions that the law reaches, and plain laws. -/
import Derived.Test.YtflgnpidelkkpaaGreatMq7
import Derived.Test.YtflgnpidelkkpaaGreatMq11
namespace Go.Proofs.YtflgnpidelkkpaaGreat
set_option maxRecDepth 8000
set_option maxHeartbeats 1000000
set_option linter.unusedVariables false
set_option linter.unusedSimpArgs false
theorem longS_nn (ts : List TT) (period : Int) (t : TT) (k : Nat) : ∀ m : Int, 0 ≤ m → 0 ≤ (List.range k).foldl (longS ts period t) m := by
  induction k with
  | zero => intro m h; exact h
  | succ k ih =>
    intro m h
    rw [foldl_range_succ]
    have := ih m h
    unfold longS
    split
    · exact Int.le_trans this (maxV_ge _ _).1
    · exact this
theorem longT_nn (ts : List TT) (period : Int) : ∀ (l : List TT) (m : Int), 0 ≤ m → 0 ≤ l.foldl (longT ts period) m
  | [], m, h => h
  | t :: l, m, h => longT_nn ts period l _ (longS_nn ts period t _ m h)
attribute [local irreducible] W X WL WA WB WG WO Rn Own one splice Arr Spec WQ WH Qn
theorem rblock_any (p : PlatV) (A1 : Option Addr) (c1 : Nat) (ts : List TaskV) (period : Int) (F : Hp) (hp : PlatAt F p) (hc : 0 ≤ p.crit ∧ p.crit < (p.levels.xs.length : Nat)) (hl : p.levels.xs.length ≤ 4) (h1 : TasksX F A1 ts) : Spec Tryz.prog 114 [.agg p.enc.toArray, .slice A1 ts.length c1, .int .i64 period] F [] fun v hs => v = .int .i64 (blockV p.pl (ts.map TaskV.pl) period) ∧ hs = [] := by
  refine Spec.enter Tryz.func114 rfl Tryz.ntmps114 rfl fun B => ?_
  have hfit := h1.at_.fit
  obtain ⟨n, hn⟩ : ∃ n : Nat, p.crit = n := ⟨p.crit.toNat, by omega⟩
  have hltn : n < p.levels.xs.length := by omega
  obtain ⟨l, hl_1⟩ : ∃ l, p.levels.xs[n]? = some l := ⟨_, List.getElem?_eq_getElem hltn⟩
  obtain ⟨g0, o0, eA0, g01⟩ := hp.levels.elem 2 (fun _ => rfl) (by omega) n l hl_1
  have hv : levP p.pl p.crit = l.P := by rw [hn]; exact levP_at hl_1
  have e : blockV p.pl (ts.map TaskV.pl) period = w64 (w64 (longV (ts.map TaskV.pl) period * l.P) + maxV l.P p.switch) := by rw [blockV, show p.pl.crit = p.crit from rfl, hv]; rfl
  repeat' (first | refine soA ?_ | refine sgA ?_ | refine sxA ?_ | refine sbA ?_ | refine fun (Q : Post) hQ => ?_ | refine fun (nb : Nat) => (?_ : WL _ _ _ _ _ _ _ _ _) | (refine WL.guard rfl rfl rfl (fun h => ?_) (fun h => ?_) <;> (try dsimp only at h)))
  (refine W.loopK (σ := Nat) ⟨fun k => k ≤ ts.length, fun k => [(8, some (.int .i64 (k : Nat))), (1, some (.slice A1 ts.length c1)), (2, some (.int .i64 period)), (3, some (.pointer (some ⟨nb, 0, none⟩))), (7, some (.int .i64 (((ts.map TaskV.pl).take k).foldl (longT (ts.map TaskV.pl) period) 0)))], fun _ => [one nb (cells p.enc 26)], fun k => ts.length - k⟩ 0 (Nat.zero_le _) (by repeat' (first | exact trivial | refine ⟨rfl, ?_⟩)) (by (exact keA)) ?_; intro k hk Q hL; dsimp only at hk ⊢)
  repeat' (first | refine soA ?_ | refine sgA ?_ | refine sxA ?_ | refine sbA ?_ | refine fun (Q : Post) hQ => ?_ | refine fun (nb : Nat) => (?_ : WL _ _ _ _ _ _ _ _ _) | (refine WL.guard rfl rfl rfl (fun h => ?_) (fun h => ?_) <;> (try dsimp only at h)))
  refine W.cond rfl (fun h => ?_) (fun h => ?_)
  · have hlt : k < ts.length := by simpa using h
    obtain ⟨t, ht⟩ : ∃ t, ts[k]? = some t := ⟨_, List.getElem?_eq_getElem (by simpa using hlt)⟩
    obtain ⟨g, o, eA, g1⟩ := h1.at_.row.elem 4 (fun _ => rfl) (by omega) k t ht
    have hst := foldl_take_succ (longT (ts.map TaskV.pl) period) 0 _ k _ (mapT_get ht)
    have hnn := longT_nn (ts.map TaskV.pl) period ((ts.map TaskV.pl).take k) 0 (Int.le_refl 0)
    generalize ((ts.map TaskV.pl).take k).foldl (longT (ts.map TaskV.pl) period) 0 = m0 at *
    have htm : t ∈ ts := List.mem_of_getElem? ht
    have hsec := h1.at_.sec t htm
    have hsf := h1.secF t htm
    repeat' (first | refine soA ?_ | refine sgA ?_ | refine sxA ?_ | refine sbA ?_ | refine fun (Q : Post) hQ => ?_ | refine fun (nb : Nat) => (?_ : WL _ _ _ _ _ _ _ _ _) | (refine WL.guard rfl rfl rfl (fun h => ?_) (fun h => ?_) <;> (try dsimp only at h)))
    refine W.loopK (σ := Nat) ⟨fun q => q ≤ t.sec.xs.length, fun q => [(9, some (.int .i64 (q : Nat))), (8, some (.int .i64 (k : Nat))), (1, some (.slice A1 ts.length c1)), (2, some (.int .i64 period)), (3, some (.pointer (some ⟨nb, 0, none⟩))), (7, some (.int .i64 ((List.range q).foldl (longS (ts.map TaskV.pl) period t.pl) m0)))], fun _ => [one nb (cells p.enc 26)], fun q => t.sec.xs.length - q⟩ 0 (Nat.zero_le _) (by repeat' (first | exact trivial | refine ⟨rfl, ?_⟩)) (by (exact keA)) ?_
    intro q hq Q2 hL2
    dsimp only at hq ⊢
    repeat' (first | ((apply WL.rd; (exact rfl); (exact Rn.indexAddrE k eA rfl rfl (by first | rfl | omega) (by first | assumption | omega)))) | ((apply WL.rd; (exact rfl); (apply Rn.load; (exact rfl); (exact (CellsAt.weak g1 (by simp)) 2 _ rfl)))) | (first | refine soA ?_ | refine sgA ?_ | refine sxA ?_ | refine sbA ?_ | refine fun (Q : Post) hQ => ?_ | refine fun (nb : Nat) => (?_ : WL _ _ _ _ _ _ _ _ _) | (refine WL.guard rfl rfl rfl (fun h => ?_) (fun h => ?_) <;> (try dsimp only at h))))
    refine W.cond rfl (fun h2 => ?_) (fun h2 => ?_)
    · have hlt2 : q < t.sec.xs.length := by simpa using h2
      have hst2 := foldl_range_succ (longS (ts.map TaskV.pl) period t.pl) m0 q
      have hnn2 := longS_nn (ts.map TaskV.pl) period t.pl q m0 hnn
      generalize (List.range q).foldl (longS (ts.map TaskV.pl) period t.pl) m0 = m1 at *
      obtain ⟨x, hx⟩ : ∃ x, t.sec.xs[q]? = some x := ⟨_, List.getElem?_eq_getElem (by simpa using hlt2)⟩
      obtain ⟨g2, o2, eA2, g3⟩ := ints_cell hsec hx
      have hu : usesP t.pl (q : Int) = decide (0 < x) := by
        have : t.pl.sec[q]? = some x := hx
        have h5 : (q : Int) < (t.pl.sec.length : Nat) := by have : t.pl.sec.length = t.sec.xs.length := rfl; omega
        unfold usesP
        rw [decide_eq_true (by omega : (0 : Int) ≤ (q : Nat)), decide_eq_true h5, Int.toNat_natCast, this]; rfl
      have hgd : t.pl.sec.getD q 0 = x := by show t.sec.xs.getD q 0 = x; rw [List.getD_eq_getElem?_getD, hx]; rfl
      repeat' (first | ((refine W.region (WL.ofQ ?_))) | ((apply WQ.rd; (exact rfl); apply Rn.q; (exact Rn.indexAddrE k eA rfl rfl (by first | rfl | omega) (by first | assumption | omega)))) | ((apply WQ.rd; (exact rfl); apply Rn.q; (apply Rn.load; (exact rfl); (exact (CellsAt.weak g1 (by simp)) 0 _ rfl)))) | ((apply WH.ex; (exact rfl); (exact rfl); (exact rfl); intro hb; (refine Qn.call Tryz.func167 rfl (by kernel_rfl) rfl (by (exact tsA)) (fun G hG hh => rceilT_any A1 c1 ts (q : Int) G (h1.at_.up hG))))) | ((apply WH.ex; (exact rfl); (exact rfl); (exact rfl); intro hb; apply Rn.q; (exact Rn.indexAddrE k eA rfl rfl (by first | rfl | omega) (by first | assumption | omega)))) | ((apply WH.ex; (exact rfl); (exact rfl); (exact rfl); intro hb; apply Rn.q; (apply Rn.load; (exact rfl); (exact (CellsAt.weak g1 (by simp)) 2 _ rfl)))) | ((apply WH.ex; (exact rfl); (exact rfl); (exact rfl); intro hb; apply Rn.q; (exact Rn.indexAddrE q eA2 rfl rfl (by first | rfl | omega) (by first | assumption | omega)))) | ((apply WH.ex; (exact rfl); (exact rfl); (exact rfl); intro hb; apply Rn.q; (apply Rn.load; (exact rfl); (exact (CellsAt.weak g3 (by simp)) 0 _ rfl)))) | (first | refine sqA ?_ | refine soA ?_ | refine sgA ?_ | refine sxA ?_ | refine sbA ?_ | refine suA ?_ | refine fun (Q : Post) hQ => ?_ | refine fun (nb : Nat) => (?_ : WL _ _ _ _ _ _ _ _ _) | (refine WL.guard rfl rfl rfl (fun h => ?_) (fun h => ?_) <;> (try dsimp only at h)) | (refine WQ.guard rfl rfl rfl (fun h => ?_) (fun h => ?_) <;> (try dsimp only at h))))
      refine W.cond rfl (fun h3 => ?_) (fun h3 => ?_)
      · have h3' : (period < t.period ∧ ceilP (ts.map TaskV.pl) q ≤ period) ∧ m1 < x := by simpa [ceilT_pl] using h3
        have hv2 : longS (ts.map TaskV.pl) period t.pl m1 q = x := by
          have : period < t.pl.period ∧ usesP t.pl (q : Int) = true ∧ ceilP (ts.map TaskV.pl) q ≤ period := ⟨h3'.1.1, by rw [hu]; exact decide_eq_true (by omega), h3'.1.2⟩
          rw [longS, if_pos this, hgd]
          exact if_pos h3'.2
        rw [hv2] at hst2
        repeat' (first | ((apply WL.rd; (exact rfl); (exact Rn.indexAddrE k eA rfl rfl (by first | rfl | omega) (by first | assumption | omega)))) | ((apply WL.rd; (exact rfl); (apply Rn.load; (exact rfl); (exact (CellsAt.weak g1 (by simp)) 2 _ rfl)))) | ((apply WL.rd; (exact rfl); (exact Rn.indexAddrE q eA2 rfl rfl (by first | rfl | omega) (by first | assumption | omega)))) | ((apply WL.rd; (exact rfl); (apply Rn.load; (exact rfl); (exact (CellsAt.weak g3 (by simp)) 0 _ rfl)))) | (first | refine soA ?_ | refine sgA ?_ | refine sxA ?_ | refine sbA ?_ | refine fun (Q : Post) hQ => ?_ | refine fun (nb : Nat) => (?_ : WL _ _ _ _ _ _ _ _ _) | (refine WL.guard rfl rfl rfl (fun h => ?_) (fun h => ?_) <;> (try dsimp only at h))))
        exact hL2.nx (q + 1) _ _ (by dsimp only; omega) (by dsimp only; omega) (by repeat' (first | exact trivial | refine ⟨by rw [hst2]; rfl, ?_⟩ | refine ⟨rfl, ?_⟩)) (by (exact keA))
      · have hv2 : longS (ts.map TaskV.pl) period t.pl m1 q = m1 := by
          unfold longS
          split
          · next h4 =>
            have h5 : ¬ m1 < x := fun h6 => by
              rw [ceilT_pl, decide_eq_true (show period < t.period from h4.1), decide_eq_true h4.2.2, decide_eq_true h6] at h3
              cases h3
            rw [hgd]
            exact if_neg h5
          · rfl
        rw [hv2] at hst2
        repeat' (first | refine soA ?_ | refine sgA ?_ | refine sxA ?_ | refine sbA ?_ | refine fun (Q : Post) hQ => ?_ | refine fun (nb : Nat) => (?_ : WL _ _ _ _ _ _ _ _ _) | (refine WL.guard rfl rfl rfl (fun h => ?_) (fun h => ?_) <;> (try dsimp only at h)))
        exact hL2.nx (q + 1) _ _ (by dsimp only; omega) (by dsimp only; omega) (by repeat' (first | exact trivial | refine ⟨by rw [hst2]; rfl, ?_⟩ | refine ⟨rfl, ?_⟩)) (by (exact keA))
    · obtain rfl : q = t.sec.xs.length := by simp at h2; omega
      have hst3 : ((ts.map TaskV.pl).take (k + 1)).foldl (longT (ts.map TaskV.pl) period) 0 = (List.range t.sec.xs.length).foldl (longS (ts.map TaskV.pl) period t.pl) m0 := hst
      repeat' (first | refine soA ?_ | refine sgA ?_ | refine sxA ?_ | refine sbA ?_ | refine fun (Q : Post) hQ => ?_ | refine fun (nb : Nat) => (?_ : WL _ _ _ _ _ _ _ _ _) | (refine WL.guard rfl rfl rfl (fun h => ?_) (fun h => ?_) <;> (try dsimp only at h)))
      exact hL.nx (k + 1) _ _ (by dsimp only; omega) (by dsimp only; omega) (by repeat' (first | exact trivial | refine ⟨by rw [hst3]; rfl, ?_⟩ | refine ⟨rfl, ?_⟩)) (by (exact keA))
  · obtain rfl : k = ts.length := by simp at h; omega
    have he : ((ts.map TaskV.pl).take ts.length).foldl (longT (ts.map TaskV.pl) period) 0 = longV (ts.map TaskV.pl) period := by rw [longV, List.take_of_length_le (by simp)]
    repeat' (first | ((apply WL.rd; (exact rfl); (exact Rn.indexAddrE n eA0 rfl rfl hn hltn))) | ((apply WL.rd; (exact rfl); (apply Rn.load; (exact rfl); (exact (CellsAt.weak g01 (by simp)) 0 _ rfl)))) | ((refine WL.ex rfl (WO.callN Tryz.func112 rfl (by kernel_rfl) rfl (by (exact tsA)) (fun G hG hh => rmax_any _ _ G) ?_); rintro v own' ⟨rfl, rfl⟩)) | (first | refine soA ?_ | refine sgA ?_ | refine sxA ?_ | refine sbA ?_ | refine fun (Q : Post) hQ => ?_ | refine fun (nb : Nat) => (?_ : WL _ _ _ _ _ _ _ _ _) | (refine WL.guard rfl rfl rfl (fun h => ?_) (fun h => ?_) <;> (try dsimp only at h))))
    ((refine seE ?_); refine ⟨[], Keep.nil, ?_⟩)
    exact ⟨by rw [e, ← he], rfl⟩
theorem rreserve_any (p : PlatV) (A1 : Option Addr) (c1 : Nat) (ts : List TaskV) (F : Hp) (hp : PlatAt F p) (hc : 0 ≤ p.crit ∧ p.crit < (p.levels.xs.length : Nat)) (hl : p.levels.xs.length ≤ 4) (h1 : TasksX F A1 ts) : Spec Tryz.prog 69 [.agg p.enc.toArray, .slice A1 ts.length c1] F [] fun v hs => v = .int .i64 (reserveV p.pl (ts.map TaskV.pl)) ∧ hs = [] := by
  refine Spec.enter Tryz.func69 rfl Tryz.ntmps69 rfl fun B => ?_
  have hfit := h1.at_.fit
  repeat' (first | refine soA ?_ | refine sgA ?_ | refine sxA ?_ | refine sbA ?_ | refine fun (Q : Post) hQ => ?_ | refine fun (nb : Nat) => (?_ : WL _ _ _ _ _ _ _ _ _) | (refine WL.guard rfl rfl rfl (fun h => ?_) (fun h => ?_) <;> (try dsimp only at h)))
  (refine W.loopK (σ := Nat) ⟨fun k => k ≤ ts.length, fun k => [(6, some (.int .i64 (k : Nat))), (1, some (.slice A1 ts.length c1)), (2, some (.pointer (some ⟨nb, 0, none⟩))), (5, some (.int .i64 (((ts.map TaskV.pl).take k).foldl (fun m t => maxV m (utilV (blockV p.pl (ts.map TaskV.pl) t.period) t.period)) 0)))], fun _ => [one nb (cells p.enc 26)], fun k => ts.length - k⟩ 0 (Nat.zero_le _) (by repeat' (first | exact trivial | refine ⟨rfl, ?_⟩)) (by (exact keA)) ?_; intro k hk Q hL; dsimp only at hk ⊢)
  repeat' (first | refine soA ?_ | refine sgA ?_ | refine sxA ?_ | refine sbA ?_ | refine fun (Q : Post) hQ => ?_ | refine fun (nb : Nat) => (?_ : WL _ _ _ _ _ _ _ _ _) | (refine WL.guard rfl rfl rfl (fun h => ?_) (fun h => ?_) <;> (try dsimp only at h)))
  refine W.cond rfl (fun h => ?_) (fun h => ?_)
  · have hlt : k < ts.length := by simpa using h
    obtain ⟨t, ht⟩ : ∃ t, ts[k]? = some t := ⟨_, List.getElem?_eq_getElem (by simpa using hlt)⟩
    obtain ⟨g, o, eA, g1⟩ := h1.at_.row.elem 4 (fun _ => rfl) (by omega) k t ht
    have hst := foldl_take_succ (fun m (t : TT) => maxV m (utilV (blockV p.pl (ts.map TaskV.pl) t.period) t.period)) 0 _ k _ (mapT_get ht)
    repeat' (first | ((apply WQ.rd; (exact rfl); apply Rn.q; (exact Rn.indexAddrE k eA rfl rfl (by first | rfl | omega) (by first | assumption | omega)))) | ((apply WQ.rd; (exact rfl); apply Rn.q; (apply Rn.load; (exact rfl); (exact (CellsAt.weak g1 (by simp)) 0 _ rfl)))) | ((apply WQ.rd; (exact rfl); (refine Qn.call Tryz.func114 rfl (by kernel_rfl) rfl (by (exact tsA)) (fun G hG hh => rblock_any p A1 c1 ts t.period G (hp.up hG) hc hl (h1.up hG))))) | ((apply WQ.rd; (exact rfl); (refine Qn.call Tryz.func113 rfl (by kernel_rfl) rfl (by (exact tsA)) (fun G hG hh => rutil_any _ _ G)))) | ((apply WQ.rd; (exact rfl); (refine Qn.call Tryz.func112 rfl (by kernel_rfl) rfl (by (exact tsA)) (fun G hG hh => rmax_any _ _ G)))) | (first | refine sqA ?_ | refine soA ?_ | refine sgA ?_ | refine sxA ?_ | refine sbA ?_ | refine suA ?_ | refine fun (Q : Post) hQ => ?_ | refine fun (nb : Nat) => (?_ : WL _ _ _ _ _ _ _ _ _) | (refine WL.guard rfl rfl rfl (fun h => ?_) (fun h => ?_) <;> (try dsimp only at h)) | (refine WQ.guard rfl rfl rfl (fun h => ?_) (fun h => ?_) <;> (try dsimp only at h))))
    exact hL.nx (k + 1) _ _ (by dsimp only; omega) (by dsimp only; omega) (by repeat' (first | exact trivial | refine ⟨by rw [hst]; rfl, ?_⟩ | refine ⟨rfl, ?_⟩)) (by (exact keA))
  · obtain rfl : k = ts.length := by simp at h; omega
    repeat' (first | refine soA ?_ | refine sgA ?_ | refine sxA ?_ | refine sbA ?_ | refine fun (Q : Post) hQ => ?_ | refine fun (nb : Nat) => (?_ : WL _ _ _ _ _ _ _ _ _) | (refine WL.guard rfl rfl rfl (fun h => ?_) (fun h => ?_) <;> (try dsimp only at h)))
    ((refine seE ?_); refine ⟨[], Keep.nil, ?_⟩)
    exact ⟨by rw [reserveV, List.take_of_length_le (by simp)], rfl⟩
theorem rload_any (p : PlatV) (A1 : Option Addr) (c1 : Nat) (ts : List TaskV) (level : Int) (F : Hp) (hp : PlatAt F p) (hc : 0 ≤ p.crit ∧ p.crit < (p.levels.xs.length : Nat)) (hl : p.levels.xs.length ≤ 4) (h1 : TasksX F A1 ts) : Spec Tryz.prog 32 [.agg p.enc.toArray, .slice A1 ts.length c1, .int .i64 level] F [] fun v hs => v = .int .i64 (loadV p.pl (ts.map TaskV.pl) level) ∧ hs = [] := by
  refine Spec.enter Tryz.func32 rfl Tryz.ntmps32 rfl fun B => ?_
  have hfit := h1.at_.fit
  repeat' (first | ((refine WL.ex rfl (WO.callN Tryz.func69 rfl (by kernel_rfl) rfl (by (exact tsA)) (fun G hG hh => rreserve_any p A1 c1 ts G (hp.up hG) hc hl (h1.up hG)) ?_); rintro v own' ⟨rfl, rfl⟩)) | (first | refine soA ?_ | refine sgA ?_ | refine sxA ?_ | refine sbA ?_ | refine fun (Q : Post) hQ => ?_ | refine fun (nb : Nat) => (?_ : WL _ _ _ _ _ _ _ _ _) | (refine WL.guard rfl rfl rfl (fun h => ?_) (fun h => ?_) <;> (try dsimp only at h))))
  (refine W.loopK (σ := Nat) ⟨fun k => k ≤ ts.length, fun k => [(8, some (.int .i64 (k : Nat))), (1, some (.slice A1 ts.length c1)), (2, some (.int .i64 level)), (3, some (.pointer (some ⟨nb, 0, none⟩))), (7, some (.int .i64 (((ts.map TaskV.pl).take k).foldl (fun s t => w64 (s + partV p.pl t level)) (reserveV p.pl (ts.map TaskV.pl)))))], fun _ => [one nb (cells p.enc 26)], fun k => ts.length - k⟩ 0 (Nat.zero_le _) (by repeat' (first | exact trivial | refine ⟨rfl, ?_⟩)) (by (exact keA)) ?_; intro k hk Q hL; dsimp only at hk ⊢)
  repeat' (first | refine soA ?_ | refine sgA ?_ | refine sxA ?_ | refine sbA ?_ | refine fun (Q : Post) hQ => ?_ | refine fun (nb : Nat) => (?_ : WL _ _ _ _ _ _ _ _ _) | (refine WL.guard rfl rfl rfl (fun h => ?_) (fun h => ?_) <;> (try dsimp only at h)))
  refine W.cond rfl (fun h => ?_) (fun h => ?_)
  · have hlt : k < ts.length := by simpa using h
    obtain ⟨t, ht⟩ : ∃ t, ts[k]? = some t := ⟨_, List.getElem?_eq_getElem (by simpa using hlt)⟩
    obtain ⟨g, o, eA, g1⟩ := h1.at_.row.elem 4 (fun _ => rfl) (by omega) k t ht
    have hst := foldl_take_succ (fun s (t : TT) => w64 (s + partV p.pl t level)) (reserveV p.pl (ts.map TaskV.pl)) _ k _ (mapT_get ht)
    repeat' (first | ((apply WQ.rd; (exact rfl); apply Rn.q; (exact Rn.indexAddrE k eA rfl rfl (by first | rfl | omega) (by first | assumption | omega)))) | ((apply WQ.rd; (exact rfl); apply Rn.q; (apply Rn.loadS; (exact rfl); (exact (CellsAt.weak g1 (by simp))); (exact rfl)))) | ((apply WQ.rd; (exact rfl); (refine Qn.call Tryz.func70 rfl (by kernel_rfl) rfl (by (exact tsA)) (fun G hG hh => rpart_any p t level G (hp.up hG))))) | (first | refine sqA ?_ | refine soA ?_ | refine sgA ?_ | refine sxA ?_ | refine sbA ?_ | refine suA ?_ | refine fun (Q : Post) hQ => ?_ | refine fun (nb : Nat) => (?_ : WL _ _ _ _ _ _ _ _ _) | (refine WL.guard rfl rfl rfl (fun h => ?_) (fun h => ?_) <;> (try dsimp only at h)) | (refine WQ.guard rfl rfl rfl (fun h => ?_) (fun h => ?_) <;> (try dsimp only at h))))
    exact hL.nx (k + 1) _ _ (by dsimp only; omega) (by dsimp only; omega) (by repeat' (first | exact trivial | refine ⟨by rw [hst]; rfl, ?_⟩ | refine ⟨rfl, ?_⟩)) (by (exact keA))
  · obtain rfl : k = ts.length := by simp at h; omega
    repeat' (first | refine soA ?_ | refine sgA ?_ | refine sxA ?_ | refine sbA ?_ | refine fun (Q : Post) hQ => ?_ | refine fun (nb : Nat) => (?_ : WL _ _ _ _ _ _ _ _ _) | (refine WL.guard rfl rfl rfl (fun h => ?_) (fun h => ?_) <;> (try dsimp only at h)))
    ((refine seE ?_); refine ⟨[], Keep.nil, ?_⟩)
    exact ⟨by rw [loadV, List.take_of_length_le (by simp)], rfl⟩
theorem fits_any (p : PlatV) (A1 : Option Addr) (c1 : Nat) (ts : List TaskV) (F : Hp) (hp : PlatAt F p) (hc : 0 ≤ p.crit ∧ p.crit < (p.levels.xs.length : Nat)) (h1 : TasksX F A1 ts) : Spec Tryz.prog 145 [.agg p.enc.toArray, .slice A1 ts.length c1] F [] fun v hs => v = .bool (decide (loadV p.pl (ts.map TaskV.pl) 0 ≤ 4294967296)) ∧ hs = [] := by
  refine Spec.enter Tryz.func145 rfl Tryz.ntmps145 rfl fun B => ?_
  repeat' (first | ((refine WL.ex rfl (WO.callN Tryz.func198 rfl (by kernel_rfl) rfl (by (exact tsA)) (fun G hG hh => load_any p A1 c1 ts 0 G (hp.up hG) hc (h1.up hG)) ?_); rintro v own' ⟨rfl, rfl⟩)) | (first | refine soA ?_ | refine sgA ?_ | refine sxA ?_ | refine sbA ?_ | refine fun (Q : Post) hQ => ?_ | refine fun (nb : Nat) => (?_ : WL _ _ _ _ _ _ _ _ _) | (refine WL.guard rfl rfl rfl (fun h => ?_) (fun h => ?_) <;> (try dsimp only at h))))
  ((refine seE ?_); refine ⟨[], Keep.nil, ?_⟩)
  exact ⟨rfl, rfl⟩
theorem slowest_any (p : PlatV) (A1 : Option Addr) (c1 : Nat) (ts : List TaskV) (F : Hp) (hp : PlatAt F p) (hc : 0 ≤ p.crit ∧ p.crit < (p.levels.xs.length : Nat)) (hl : p.levels.xs.length ≤ 4) (h1 : TasksX F A1 ts) : Spec Tryz.prog 288 [.agg p.enc.toArray, .slice A1 ts.length c1] F [] fun v hs => v = .int .i64 (slowestV p.pl (ts.map TaskV.pl)) ∧ hs = [] := by
  refine Spec.enter Tryz.func288 rfl Tryz.ntmps288 rfl fun B => ?_
  have hfit := h1.at_.fit
  repeat' (first | refine soA ?_ | refine sgA ?_ | refine sxA ?_ | refine sbA ?_ | refine fun (Q : Post) hQ => ?_ | refine fun (nb : Nat) => (?_ : WL _ _ _ _ _ _ _ _ _) | (refine WL.guard rfl rfl rfl (fun h => ?_) (fun h => ?_) <;> (try dsimp only at h)))
  (refine W.loopK (σ := Nat) ⟨fun k => k ≤ p.crit.toNat, fun k => [(6, some (.int .i64 ((k + 1 : Nat) : Int))), (1, some (.slice A1 ts.length c1)), (2, some (.pointer (some ⟨nb, 0, none⟩))), (5, some (.int .i64 ((List.range k).foldl (slowF p.pl (ts.map TaskV.pl)) 0)))], fun _ => [one nb (cells p.enc 26)], fun k => p.crit.toNat - k⟩ 0 (Nat.zero_le _) (by repeat' (first | exact trivial | refine ⟨rfl, ?_⟩)) (by (exact keA)) ?_; intro k hk Q hL; dsimp only at hk ⊢)
  repeat' (first | refine soA ?_ | refine sgA ?_ | refine sxA ?_ | refine sbA ?_ | refine fun (Q : Post) hQ => ?_ | refine fun (nb : Nat) => (?_ : WL _ _ _ _ _ _ _ _ _) | (refine WL.guard rfl rfl rfl (fun h => ?_) (fun h => ?_) <;> (try dsimp only at h)))
  refine W.cond rfl (fun h => ?_) (fun h => ?_)
  · have hlt : k < p.crit.toNat := by simp at h; omega
    have hst := foldl_range_succ (slowF p.pl (ts.map TaskV.pl)) 0 k
    repeat' (first | ((refine WL.ex rfl (WO.callN Tryz.func198 rfl (by kernel_rfl) rfl (by (exact tsA)) (fun G hG hh => load_any p A1 c1 ts ((k + 1 : Nat) : Int) G (hp.up hG) hc (h1.up hG)) ?_); rintro v own' ⟨rfl, rfl⟩)) | (first | refine soA ?_ | refine sgA ?_ | refine sxA ?_ | refine sbA ?_ | refine fun (Q : Post) hQ => ?_ | refine fun (nb : Nat) => (?_ : WL _ _ _ _ _ _ _ _ _) | (refine WL.guard rfl rfl rfl (fun h => ?_) (fun h => ?_) <;> (try dsimp only at h))))
    refine W.cond rfl (fun h2 => ?_) (fun h2 => ?_)
    · have h2' : loadV p.pl (ts.map TaskV.pl) ((k + 1 : Nat) : Int) ≤ 4294967296 := by simpa using h2
      have hv : slowF p.pl (ts.map TaskV.pl) ((List.range k).foldl (slowF p.pl (ts.map TaskV.pl)) 0) k = ((k + 1 : Nat) : Int) := if_pos h2'
      rw [hv] at hst
      repeat' (first | refine soA ?_ | refine sgA ?_ | refine sxA ?_ | refine sbA ?_ | refine fun (Q : Post) hQ => ?_ | refine fun (nb : Nat) => (?_ : WL _ _ _ _ _ _ _ _ _) | (refine WL.guard rfl rfl rfl (fun h => ?_) (fun h => ?_) <;> (try dsimp only at h)))
      exact hL.nx (k + 1) _ _ (by dsimp only; omega) (by dsimp only; omega) (by repeat' (first | exact trivial | refine ⟨by rw [hst]; rfl, ?_⟩ | refine ⟨rfl, ?_⟩)) (by (exact keA))
    · have h2' : ¬ loadV p.pl (ts.map TaskV.pl) ((k + 1 : Nat) : Int) ≤ 4294967296 := by simpa using h2
      have hv : slowF p.pl (ts.map TaskV.pl) ((List.range k).foldl (slowF p.pl (ts.map TaskV.pl)) 0) k = (List.range k).foldl (slowF p.pl (ts.map TaskV.pl)) 0 := if_neg h2'
      rw [hv] at hst
      repeat' (first | refine soA ?_ | refine sgA ?_ | refine sxA ?_ | refine sbA ?_ | refine fun (Q : Post) hQ => ?_ | refine fun (nb : Nat) => (?_ : WL _ _ _ _ _ _ _ _ _) | (refine WL.guard rfl rfl rfl (fun h => ?_) (fun h => ?_) <;> (try dsimp only at h)))
      exact hL.nx (k + 1) _ _ (by dsimp only; omega) (by dsimp only; omega) (by repeat' (first | exact trivial | refine ⟨by rw [hst]; rfl, ?_⟩ | refine ⟨rfl, ?_⟩)) (by (exact keA))
  · obtain rfl : k = p.crit.toNat := by simp at h; omega
    repeat' (first | refine soA ?_ | refine sgA ?_ | refine sxA ?_ | refine sbA ?_ | refine fun (Q : Post) hQ => ?_ | refine fun (nb : Nat) => (?_ : WL _ _ _ _ _ _ _ _ _) | (refine WL.guard rfl rfl rfl (fun h => ?_) (fun h => ?_) <;> (try dsimp only at h)))
    ((refine seE ?_); refine ⟨[], Keep.nil, ?_⟩)
    exact ⟨rfl, rfl⟩
theorem spare_any (p : PlatV) (A1 : Option Addr) (c1 : Nat) (ts : List TaskV) (A2 : Option Addr) (c2 : Nat) (us : List Int) (F : Hp) (hp : PlatAt F p) (hc : 0 ≤ p.crit ∧ p.crit < (p.levels.xs.length : Nat)) (hl : p.levels.xs.length ≤ 4) (h1 : TasksX F A1 ts) (h2 : RowAt F [] A2 (us.flatMap encI)) (hul : us.length = ts.length) : Spec Tryz.prog 289 [.agg p.enc.toArray, .slice A1 ts.length c1, .slice A2 us.length c2] F [] fun v hs => v = .int .i64 (spareV p.pl (ts.map TaskV.pl) us) ∧ hs = [] := by
  refine Spec.enter Tryz.func289 rfl Tryz.ntmps289 rfl fun B => ?_
  have hfit := h1.at_.fit
  repeat' (first | refine soA ?_ | refine sgA ?_ | refine sxA ?_ | refine sbA ?_ | refine fun (Q : Post) hQ => ?_ | refine fun (nb : Nat) => (?_ : WL _ _ _ _ _ _ _ _ _) | (refine WL.guard rfl rfl rfl (fun h => ?_) (fun h => ?_) <;> (try dsimp only at h)))
  (refine W.loopK (σ := Nat) ⟨fun k => k ≤ p.crit.toNat, fun k => [(8, some (.int .i64 ((k + 1 : Nat) : Int))), (1, some (.slice A1 ts.length c1)), (2, some (.slice A2 us.length c2)), (3, some (.pointer (some ⟨nb, 0, none⟩))), (7, some (.int .i64 ((List.range k).foldl (spareF p.pl (ts.map TaskV.pl) us) 0)))], fun _ => [one nb (cells p.enc 26)], fun k => p.crit.toNat - k⟩ 0 (Nat.zero_le _) (by repeat' (first | exact trivial | refine ⟨rfl, ?_⟩)) (by (exact keA)) ?_; intro k hk Q hL; dsimp only at hk ⊢)
  repeat' (first | refine soA ?_ | refine sgA ?_ | refine sxA ?_ | refine sbA ?_ | refine fun (Q : Post) hQ => ?_ | refine fun (nb : Nat) => (?_ : WL _ _ _ _ _ _ _ _ _) | (refine WL.guard rfl rfl rfl (fun h => ?_) (fun h => ?_) <;> (try dsimp only at h)))
  refine W.cond rfl (fun h => ?_) (fun h => ?_)
  · have hlt : k < p.crit.toNat := by simp at h; omega
    have hst := foldl_range_succ (spareF p.pl (ts.map TaskV.pl) us) 0 k
    have hltn : k + 1 < p.levels.xs.length := by omega
    obtain ⟨l, hl_1⟩ : ∃ l, p.levels.xs[k + 1]? = some l := ⟨_, List.getElem?_eq_getElem hltn⟩
    obtain ⟨g0, o0, eA0, g01⟩ := hp.levels.elem 2 (fun _ => rfl) (by omega) (k + 1) l hl_1
    have hlv : levP p.pl ((k + 1 : Nat) : Int) = l.P := levP_at hl_1
    repeat' (first | ((refine WL.ex rfl (WO.callN Tryz.func240 rfl (by kernel_rfl) rfl (by (exact tsA)) (fun G hG hh => reserve_any p A1 c1 ts G (hp.up hG) hc (h1.up hG)) ?_); rintro v own' ⟨rfl, rfl⟩)) | (first | refine soA ?_ | refine sgA ?_ | refine sxA ?_ | refine sbA ?_ | refine fun (Q : Post) hQ => ?_ | refine fun (nb : Nat) => (?_ : WL _ _ _ _ _ _ _ _ _) | (refine WL.guard rfl rfl rfl (fun h => ?_) (fun h => ?_) <;> (try dsimp only at h))))
    refine W.loopK (σ := Nat) ⟨fun q => q ≤ ts.length, fun q => [(23, some (.int .i64 (q : Nat))), (22, some (.int .i64 (ts.length : Nat))), (21, some (.slice A1 ts.length c1)), (8, some (.int .i64 ((k + 1 : Nat) : Int))), (1, some (.slice A1 ts.length c1)), (2, some (.slice A2 us.length c2)), (3, some (.pointer (some ⟨nb, 0, none⟩))), (7, some (.int .i64 ((List.range k).foldl (spareF p.pl (ts.map TaskV.pl) us) 0))), (9, some (.int .i64 ((((ts.map TaskV.pl).zip us).take q).foldl (spareS p.pl ((k + 1 : Nat) : Int)) (reserveV p.pl (ts.map TaskV.pl)))))], fun _ => [one nb (cells p.enc 26)], fun q => ts.length - q⟩ 0 (Nat.zero_le _) (by repeat' (first | exact trivial | refine ⟨rfl, ?_⟩)) (by (exact keA)) ?_
    intro q hq Q2 hL2
    dsimp only at hq ⊢
    repeat' (first | refine soA ?_ | refine sgA ?_ | refine sxA ?_ | refine sbA ?_ | refine fun (Q : Post) hQ => ?_ | refine fun (nb : Nat) => (?_ : WL _ _ _ _ _ _ _ _ _) | (refine WL.guard rfl rfl rfl (fun h => ?_) (fun h => ?_) <;> (try dsimp only at h)))
    refine W.cond rfl (fun h3 => ?_) (fun h3 => ?_)
    · have hlt2 : q < ts.length := by simpa using h3
      obtain ⟨t, ht⟩ : ∃ t, ts[q]? = some t := ⟨_, List.getElem?_eq_getElem (by simpa using hlt2)⟩
      obtain ⟨u, hu⟩ : ∃ u, us[q]? = some u := ⟨_, List.getElem?_eq_getElem (by omega)⟩
      obtain ⟨g, o, eA, g1⟩ := h1.at_.row.elem 4 (fun _ => rfl) (by omega) q t ht
      obtain ⟨g2, o2, eA2, g3⟩ := ints_cell h2 hu
      have hz : ((ts.map TaskV.pl).zip us)[q]? = some (t.pl, u) := by rw [List.getElem?_zip_eq_some]; exact ⟨mapT_get ht, hu⟩
      have hst2 := foldl_take_succ (spareS p.pl ((k + 1 : Nat) : Int)) (reserveV p.pl (ts.map TaskV.pl)) _ q _ hz
      have hss : ∀ s, spareS p.pl ((k + 1 : Nat) : Int) s (t.pl, u) = w64 (s + utilV (w64 (w64 (u * l.P) + w64 (2 * p.switch))) t.period) := fun s => by unfold spareS; rw [hlv]; rfl
      rw [hss] at hst2
      repeat' (first | ((apply WL.rd; (exact rfl); (exact Rn.indexAddrE q eA rfl rfl (by first | rfl | omega) (by first | assumption | omega)))) | ((apply WL.rd; (exact rfl); (apply Rn.loadS; (exact rfl); (exact (CellsAt.weak g1 (by simp))); (exact rfl)))) | ((apply WQ.rd; (exact rfl); apply Rn.q; (exact Rn.indexAddrE q eA rfl rfl (by first | rfl | omega) (by first | assumption | omega)))) | ((apply WQ.rd; (exact rfl); apply Rn.q; (exact Rn.indexAddrE q eA2 rfl rfl (by first | rfl | omega) (by first | assumption | omega)))) | ((apply WQ.rd; (exact rfl); apply Rn.q; (exact Rn.indexAddrE (k + 1) eA0 rfl rfl (by first | rfl | omega) (by first | assumption | omega)))) | ((apply WQ.rd; (exact rfl); apply Rn.q; (apply Rn.load; (exact rfl); (exact (CellsAt.weak g3 (by simp)) 0 _ rfl)))) | ((apply WQ.rd; (exact rfl); apply Rn.q; (apply Rn.load; (exact rfl); (exact (CellsAt.weak g01 (by simp)) 0 _ rfl)))) | ((apply WQ.rd; (exact rfl); apply Rn.q; (apply Rn.load; (exact rfl); (exact (CellsAt.weak g1 (by simp)) 0 _ rfl)))) | ((apply WQ.rd; (exact rfl); (refine Qn.call Tryz.func264 rfl (by kernel_rfl) rfl (by (exact tsA)) (fun G hG hh => util_any _ _ G)))) | (first | refine sqA ?_ | refine soA ?_ | refine sgA ?_ | refine sxA ?_ | refine sbA ?_ | refine suA ?_ | refine fun (Q : Post) hQ => ?_ | refine fun (nb : Nat) => (?_ : WL _ _ _ _ _ _ _ _ _) | (refine WL.guard rfl rfl rfl (fun h => ?_) (fun h => ?_) <;> (try dsimp only at h)) | (refine WQ.guard rfl rfl rfl (fun h => ?_) (fun h => ?_) <;> (try dsimp only at h))))
      exact hL2.nx (q + 1) _ _ (by dsimp only; omega) (by dsimp only; omega) (by repeat' (first | exact trivial | refine ⟨by rw [hst2]; rfl, ?_⟩ | refine ⟨rfl, ?_⟩)) (by (exact keA))
    · obtain rfl : q = ts.length := by simp at h3; omega
      have he : (((ts.map TaskV.pl).zip us).take ts.length).foldl (spareS p.pl ((k + 1 : Nat) : Int)) (reserveV p.pl (ts.map TaskV.pl)) = spareL p.pl (ts.map TaskV.pl) us ((k + 1 : Nat) : Int) := by rw [spareL, List.take_of_length_le (by simp; omega)]
      rw [he]
      repeat' (first | refine soA ?_ | refine sgA ?_ | refine sxA ?_ | refine sbA ?_ | refine fun (Q : Post) hQ => ?_ | refine fun (nb : Nat) => (?_ : WL _ _ _ _ _ _ _ _ _) | (refine WL.guard rfl rfl rfl (fun h => ?_) (fun h => ?_) <;> (try dsimp only at h)))
      refine W.cond rfl (fun h5 => ?_) (fun h5 => ?_)
      · have h5' : spareL p.pl (ts.map TaskV.pl) us ((k + 1 : Nat) : Int) ≤ 4294967296 := by simpa using h5
        have hv : spareF p.pl (ts.map TaskV.pl) us ((List.range k).foldl (spareF p.pl (ts.map TaskV.pl) us) 0) k = ((k + 1 : Nat) : Int) := if_pos h5'
        rw [hv] at hst
        repeat' (first | refine soA ?_ | refine sgA ?_ | refine sxA ?_ | refine sbA ?_ | refine fun (Q : Post) hQ => ?_ | refine fun (nb : Nat) => (?_ : WL _ _ _ _ _ _ _ _ _) | (refine WL.guard rfl rfl rfl (fun h => ?_) (fun h => ?_) <;> (try dsimp only at h)))
        exact hL.nx (k + 1) _ _ (by dsimp only; omega) (by dsimp only; omega) (by repeat' (first | exact trivial | refine ⟨by rw [hst]; rfl, ?_⟩ | refine ⟨rfl, ?_⟩)) (by (exact keA))
      · have h5' : ¬ spareL p.pl (ts.map TaskV.pl) us ((k + 1 : Nat) : Int) ≤ 4294967296 := by simpa using h5
        have hv : spareF p.pl (ts.map TaskV.pl) us ((List.range k).foldl (spareF p.pl (ts.map TaskV.pl) us) 0) k = (List.range k).foldl (spareF p.pl (ts.map TaskV.pl) us) 0 := if_neg h5'
        rw [hv] at hst
        repeat' (first | refine soA ?_ | refine sgA ?_ | refine sxA ?_ | refine sbA ?_ | refine fun (Q : Post) hQ => ?_ | refine fun (nb : Nat) => (?_ : WL _ _ _ _ _ _ _ _ _) | (refine WL.guard rfl rfl rfl (fun h => ?_) (fun h => ?_) <;> (try dsimp only at h)))
        exact hL.nx (k + 1) _ _ (by dsimp only; omega) (by dsimp only; omega) (by repeat' (first | exact trivial | refine ⟨by rw [hst]; rfl, ?_⟩ | refine ⟨rfl, ?_⟩)) (by (exact keA))
  · obtain rfl : k = p.crit.toNat := by simp at h; omega
    repeat' (first | refine soA ?_ | refine sgA ?_ | refine sxA ?_ | refine sbA ?_ | refine fun (Q : Post) hQ => ?_ | refine fun (nb : Nat) => (?_ : WL _ _ _ _ _ _ _ _ _) | (refine WL.guard rfl rfl rfl (fun h => ?_) (fun h => ?_) <;> (try dsimp only at h)))
    ((refine seE ?_); refine ⟨[], Keep.nil, ?_⟩)
    exact ⟨rfl, rfl⟩
end Go.Proofs.YtflgnpidelkkpaaGreat
