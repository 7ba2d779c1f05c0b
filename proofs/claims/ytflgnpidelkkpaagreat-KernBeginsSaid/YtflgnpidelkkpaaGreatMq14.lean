/- part 14 of the proof: contracts of the functions that the law reaches, and plain laws. -/
import Derived.Test.YtflgnpidelkkpaaGreatMq7
import Derived.Test.YtflgnpidelkkpaaGreatMq13
namespace Go.Proofs.YtflgnpidelkkpaaGreat
set_option maxRecDepth 8000
set_option maxHeartbeats 1000000
set_option linter.unusedVariables false
set_option linter.unusedSimpArgs false
theorem periodV_at {ts : List TaskV} {n : Nat} {t : TaskV} (h : ts[n]? = some t) : periodV (ts.map TaskV.pl) (n : Nat) = t.period := by
  have hl := (List.getElem?_eq_some_iff.1 h).1
  rw [periodV, if_neg (by simp; omega), Int.toNat_natCast, mapT_get h]; rfl
theorem any_upto {f : Nat → Bool} {k : Nat} (h : ∀ i, i < k → f i = false) : (List.range k).any f = false := by
  rw [List.any_eq_false]; intro i hi; rw [h i (List.mem_range.1 hi)]; decide
attribute [local irreducible] W X WL WA WB WG WO Rn Own one splice Arr Spec WQ WH Qn
set_option maxHeartbeats 2000000 in
theorem sholds_any (vb : Nat) (v : SV) (x : HeldV) (at_ : Int) (F : Hp) (hv : SVAt F vb v) (hx : 0 ≤ x.task ∧ x.task < (v.ts.length : Nat)) : Spec Tryz.prog 296 [.pointer (some ⟨vb, 0, none⟩), .agg x.enc.toArray, .int .i64 at_] F [] fun u hs => u = .int .i64 (holdsV v.p.pl (v.ts.map TaskV.pl) v.next v.js v.now x at_) ∧ hs = [] := by
  refine Spec.enter Tryz.func296 rfl Tryz.ntmps296 rfl fun B => ?_
  have hb := hv.blk
  have hfit := hv.ok.tasks.at_.fit
  obtain ⟨m, hm⟩ : ∃ m : Nat, x.task = m := ⟨x.task.toNat, by omega⟩
  have hml : m < v.ts.length := by omega
  obtain ⟨tm, htm⟩ : ∃ t, v.ts[m]? = some t := ⟨_, List.getElem?_eq_getElem hml⟩
  obtain ⟨g0, o0, eA0, g01⟩ := hv.ok.tasks.at_.row.elem 4 (fun _ => rfl) (by omega) m tm htm
  have hown : periodV (v.ts.map TaskV.pl) x.task = tm.period := by rw [hm]; exact periodV_at htm
  obtain ⟨cr, hcr⟩ : ∃ n : Nat, v.p.crit = n := ⟨v.p.crit.toNat, by have := hv.ok.crit; omega⟩
  have hcl : cr < v.p.levels.xs.length := by have := hv.ok.crit; omega
  obtain ⟨l, hl⟩ : ∃ l, v.p.levels.xs[cr]? = some l := ⟨_, List.getElem?_eq_getElem hcl⟩
  obtain ⟨g4, o4, eA4, g5⟩ := hv.ok.plat.levels.elem 2 (fun _ => rfl) (by omega) cr l hl
  have hlv : levP v.p.pl v.p.pl.crit = l.P := by rw [show v.p.pl.crit = v.p.crit from rfl, hcr]; exact levP_at hl
  have hc := ceilT_pl v.ts x.sem
  repeat' (first | ((apply WQ.rd; (exact rfl); apply Rn.q; (exact Rn.indexAddrE m eA0 rfl rfl hm hml))) | ((apply WQ.rd; (exact rfl); apply Rn.q; (apply Rn.load; (exact rfl); (exact (CellsAt.weak g01 (by simp)) 0 _ rfl)))) | ((apply WQ.rd; (exact rfl); (refine Qn.call Tryz.func251 rfl (by kernel_rfl) rfl (by (exact tsA)) (fun G hG hh => hc ▸ ceilT_any v.A1 v.c1 v.ts x.sem G (hv.ok.tasks.at_.up hG))))) | (first | refine sqA ?_ | refine soA ?_ | refine sgA ?_ | refine sxA ?_ | refine sbA ?_ | refine suA ?_ | refine fun (Q : Post) hQ => ?_ | refine fun (nb : Nat) => (?_ : WL _ _ _ _ _ _ _ _ _) | (refine WL.guard rfl rfl rfl (fun h => ?_) (fun h => ?_) <;> (try dsimp only at h)) | (refine WQ.guard rfl rfl rfl (fun h => ?_) (fun h => ?_) <;> (try dsimp only at h))))
  refine W.loopK (σ := Nat) ⟨fun k => k ≤ v.ts.length ∧ ∀ i, i < k → blocksB (v.ts.map TaskV.pl) v.next v.js v.now x at_ i = false, fun k => [(32, some (.int .i64 (k : Nat))), (31, some (.int .i64 (v.ts.length : Nat))), (30, some (.slice v.A1 v.ts.length v.c1)), (0, some (.pointer (some ⟨vb, 0, none⟩))), (2, some (.int .i64 at_)), (4, some (.pointer (some ⟨nb, 0, none⟩))), (7, some (.int .i64 tm.period)), (8, some (.int .i64 (ceilP (v.ts.map TaskV.pl) x.sem)))], fun _ => [one nb (Go.Proofs.YtflgnpidelkkpaaGreat.cells x.enc 144)], fun k => v.ts.length - k⟩ 0 ⟨Nat.zero_le _, fun i h => absurd h (Nat.not_lt_zero i)⟩ (by repeat' (first | exact trivial | refine ⟨rfl, ?_⟩)) (by (exact keA)) ?_
  intro k hk Q hL
  dsimp only at hk ⊢
  obtain ⟨hk, hno⟩ := hk
  repeat' (first | refine soA ?_ | refine sgA ?_ | refine sxA ?_ | refine sbA ?_ | refine fun (Q : Post) hQ => ?_ | refine fun (nb : Nat) => (?_ : WL _ _ _ _ _ _ _ _ _) | (refine WL.guard rfl rfl rfl (fun h => ?_) (fun h => ?_) <;> (try dsimp only at h)))
  refine W.cond rfl (fun h => ?_) (fun h => ?_)
  · have hlt : k < v.ts.length := by simpa using h
    obtain ⟨t, ht⟩ : ∃ t, v.ts[k]? = some t := ⟨_, List.getElem?_eq_getElem (by simpa using hlt)⟩
    obtain ⟨g, o, eA, g1⟩ := hv.ok.tasks.at_.row.elem 4 (fun _ => rfl) (by omega) k t ht
    have hbk : blocksB (v.ts.map TaskV.pl) v.next v.js v.now x at_ k = (decide (0 < t.period) && decide (t.period < tm.period) && decide (ceilP (v.ts.map TaskV.pl) x.sem ≤ t.period) && mayV (v.ts.map TaskV.pl) v.next v.js v.now k t.pl at_) := by
      unfold blocksB; rw [mapT_get ht, hown]; rfl
    repeat' (first | ((refine W.region (id := 5) (WL.ofQ ?_))) | ((apply WL.rd; (exact rfl); (exact Rn.indexAddrE k eA rfl rfl (by first | rfl | omega) (by first | assumption | omega)))) | ((apply WL.rd; (exact rfl); (apply Rn.loadS; (exact rfl); (exact (CellsAt.weak g1 (by simp))); (exact rfl)))) | ((apply WH.ex; (exact rfl); (exact rfl); (exact rfl); intro hb; (refine Qn.call Tryz.func297 rfl (by kernel_rfl) rfl (by (exact tsA)) (fun G hG hh => smay_any vb v k t at_ G (hv.up hG) ht)))) | (first | refine sqA ?_ | refine soA ?_ | refine sgA ?_ | refine sxA ?_ | refine sbA ?_ | refine suA ?_ | refine fun (Q : Post) hQ => ?_ | refine fun (nb : Nat) => (?_ : WL _ _ _ _ _ _ _ _ _) | (refine WL.guard rfl rfl rfl (fun h => ?_) (fun h => ?_) <;> (try dsimp only at h)) | (refine WQ.guard rfl rfl rfl (fun h => ?_) (fun h => ?_) <;> (try dsimp only at h))))
    refine W.cond rfl (fun h2 => ?_) (fun h2 => ?_)
    · have hany : (List.range (v.ts.map TaskV.pl).length).any (blocksB (v.ts.map TaskV.pl) v.next v.js v.now x at_) = true := List.any_eq_true.2 ⟨k, List.mem_range.2 (by simpa using hlt), by rw [hbk]; exact h2⟩
      repeat' (first | ((apply WQ.rd; (exact rfl); apply Rn.q; (exact Rn.indexAddrE cr eA4 rfl rfl hcr hcl))) | ((apply WQ.rd; (exact rfl); apply Rn.q; (apply Rn.load; (exact rfl); (exact (CellsAt.weak g5 (by simp)) 0 _ rfl)))) | (first | refine sqA ?_ | refine soA ?_ | refine sgA ?_ | refine sxA ?_ | refine sbA ?_ | refine suA ?_ | refine fun (Q : Post) hQ => ?_ | refine fun (nb : Nat) => (?_ : WL _ _ _ _ _ _ _ _ _) | (refine WL.guard rfl rfl rfl (fun h => ?_) (fun h => ?_) <;> (try dsimp only at h)) | (refine WQ.guard rfl rfl rfl (fun h => ?_) (fun h => ?_) <;> (try dsimp only at h))))
      ((refine seE ?_); refine ⟨[], Keep.nil, ?_⟩)
      exact ⟨by rw [holdsV, if_pos hany, hlv]; rfl, rfl⟩
    · skip
      repeat' (first | refine soA ?_ | refine sgA ?_ | refine sxA ?_ | refine sbA ?_ | refine fun (Q : Post) hQ => ?_ | refine fun (nb : Nat) => (?_ : WL _ _ _ _ _ _ _ _ _) | (refine WL.guard rfl rfl rfl (fun h => ?_) (fun h => ?_) <;> (try dsimp only at h)))
      refine hL.nx (k + 1) _ _ ⟨by omega, fun i hi => ?_⟩ (by dsimp only; omega) (by repeat' (first | exact trivial | refine ⟨rfl, ?_⟩)) (by (exact keA))
      by_cases hik : i = k
      · rw [hik, hbk]; exact h2
      · exact hno i (by omega)
  · obtain rfl : k = v.ts.length := by simp at h; omega
    have hany : (List.range (v.ts.map TaskV.pl).length).any (blocksB (v.ts.map TaskV.pl) v.next v.js v.now x at_) = false := by rw [List.length_map]; exact any_upto hno
    repeat' (first | refine soA ?_ | refine sgA ?_ | refine sxA ?_ | refine sbA ?_ | refine fun (Q : Post) hQ => ?_ | refine fun (nb : Nat) => (?_ : WL _ _ _ _ _ _ _ _ _) | (refine WL.guard rfl rfl rfl (fun h => ?_) (fun h => ?_) <;> (try dsimp only at h)))
    ((refine seE ?_); refine ⟨[], Keep.nil, ?_⟩)
    exact ⟨by rw [holdsV, if_neg (by rw [hany]; decide)], rfl⟩
set_option maxHeartbeats 2000000 in
theorem shind_any (vb : Nat) (v : SV) (at_ : Int) (F : Hp) (hv : SVAt F vb v) : Spec Tryz.prog 292 [.pointer (some ⟨vb, 0, none⟩), .int .i64 at_] F [] fun u hs => u = .int .i64 (hindV v.p.pl (v.ts.map TaskV.pl) v.next v.js v.held v.now at_) ∧ hs = [] := by
  refine Spec.enter Tryz.func292 rfl Tryz.ntmps292 rfl fun B => ?_
  have hb := hv.blk
  have hfit := hv.ok.hfit
  repeat' (first | refine soA ?_ | refine sgA ?_ | refine sxA ?_ | refine sbA ?_ | refine fun (Q : Post) hQ => ?_ | refine fun (nb : Nat) => (?_ : WL _ _ _ _ _ _ _ _ _) | (refine WL.guard rfl rfl rfl (fun h => ?_) (fun h => ?_) <;> (try dsimp only at h)))
  (refine W.loopK (σ := Nat) ⟨fun k => k ≤ v.held.length, fun k => [(15, some (.int .i64 (k : Nat))), (14, some (.int .i64 (v.held.length : Nat))), (13, some (.slice v.A4 v.held.length v.c4)), (0, some (.pointer (some ⟨vb, 0, none⟩))), (1, some (.int .i64 at_)), (5, some (.int .i64 ((v.held.take k).foldl (hindF v.p.pl (v.ts.map TaskV.pl) v.next v.js v.now at_) 0)))], fun _ => [], fun k => v.held.length - k⟩ 0 (Nat.zero_le _) (by repeat' (first | exact trivial | refine ⟨rfl, ?_⟩)) (by (exact keA)) ?_; intro k hk Q hL; dsimp only at hk ⊢)
  repeat' (first | refine soA ?_ | refine sgA ?_ | refine sxA ?_ | refine sbA ?_ | refine fun (Q : Post) hQ => ?_ | refine fun (nb : Nat) => (?_ : WL _ _ _ _ _ _ _ _ _) | (refine WL.guard rfl rfl rfl (fun h => ?_) (fun h => ?_) <;> (try dsimp only at h)))
  refine W.cond rfl (fun h => ?_) (fun h => ?_)
  · have hlt : k < v.held.length := by simpa using h
    obtain ⟨x, hx⟩ : ∃ x, v.held[k]? = some x := ⟨_, List.getElem?_eq_getElem (by simpa using hlt)⟩
    have hxin := hv.ok.hin x (List.mem_of_getElem? hx)
    obtain ⟨g, o, eA, g1⟩ := hv.ok.held.elem 3 (fun _ => rfl) (by omega) k x hx
    have hst := foldl_take_succ (hindF v.p.pl (v.ts.map TaskV.pl) v.next v.js v.now at_) 0 _ k _ hx
    generalize (v.held.take k).foldl (hindF v.p.pl (v.ts.map TaskV.pl) v.next v.js v.now at_) 0 = m0 at *
    cases hd : deadV v.js x.task with
    | none =>
      have hst2 : (v.held.take (k + 1)).foldl (hindF v.p.pl (v.ts.map TaskV.pl) v.next v.js v.now at_) 0 = m0 := by rw [hst]; unfold hindF; rw [hd]
      repeat' (first | ((apply WL.rd; (exact rfl); (exact Rn.indexAddrE k eA rfl rfl (by first | rfl | omega) (by first | assumption | omega)))) | ((apply WL.rd; (exact rfl); (apply Rn.loadS; (exact rfl); (exact (CellsAt.weak g1 (by simp))); (exact rfl)))) | ((refine WL.ex rfl (WO.callN Tryz.func295 rfl (by kernel_rfl) rfl (by (exact tsA)) (fun G hG hh => sdead_any vb v x.task G (hv.up hG)) ?_); rintro u own' ⟨rfl, rfl⟩; rw [hd])) | (first | refine soA ?_ | refine sgA ?_ | refine sxA ?_ | refine sbA ?_ | refine fun (Q : Post) hQ => ?_ | refine fun (nb : Nat) => (?_ : WL _ _ _ _ _ _ _ _ _) | (refine WL.guard rfl rfl rfl (fun h => ?_) (fun h => ?_) <;> (try dsimp only at h))))
      exact hL.nx (k + 1) _ _ (by dsimp only; omega) (by dsimp only; omega) (by repeat' (first | exact trivial | refine ⟨by rw [hst2]; rfl, ?_⟩ | refine ⟨rfl, ?_⟩)) (by (exact keA))
    | some d =>
      by_cases e : at_ < d
      · have hst2 : (v.held.take (k + 1)).foldl (hindF v.p.pl (v.ts.map TaskV.pl) v.next v.js v.now at_) 0 = maxV m0 (holdsV v.p.pl (v.ts.map TaskV.pl) v.next v.js v.now x at_) := by rw [hst]; unfold hindF; rw [hd]; exact if_pos e
        repeat' (first | ((apply WL.rd; (exact rfl); (exact Rn.indexAddrE k eA rfl rfl (by first | rfl | omega) (by first | assumption | omega)))) | ((apply WL.rd; (exact rfl); (apply Rn.loadS; (exact rfl); (exact (CellsAt.weak g1 (by simp))); (exact rfl)))) | ((refine WL.ex rfl (WO.callN Tryz.func295 rfl (by kernel_rfl) rfl (by (exact tsA)) (fun G hG hh => sdead_any vb v x.task G (hv.up hG)) ?_); rintro u own' ⟨rfl, rfl⟩; rw [hd])) | ((apply WL.rd; (exact rfl); (exact Rn.cmp (b := true) rfl rfl (congrArg some (decide_eq_true e))))) | ((refine WL.ex rfl (WO.callN Tryz.func296 rfl (by kernel_rfl) rfl (by (exact tsA)) (fun G hG hh => sholds_any vb v x at_ G (hv.up hG) hxin) ?_); rintro v own' ⟨rfl, rfl⟩)) | (first | refine soA ?_ | refine sgA ?_ | refine sxA ?_ | refine sbA ?_ | refine fun (Q : Post) hQ => ?_ | refine fun (nb : Nat) => (?_ : WL _ _ _ _ _ _ _ _ _) | (refine WL.guard rfl rfl rfl (fun h => ?_) (fun h => ?_) <;> (try dsimp only at h))))
        exact hL.nx (k + 1) _ _ (by dsimp only; omega) (by dsimp only; omega) (by repeat' (first | exact trivial | refine ⟨by rw [hst2]; rfl, ?_⟩ | refine ⟨rfl, ?_⟩)) (by (exact keA))
      · have hst2 : (v.held.take (k + 1)).foldl (hindF v.p.pl (v.ts.map TaskV.pl) v.next v.js v.now at_) 0 = m0 := by rw [hst]; unfold hindF; rw [hd]; exact if_neg e
        repeat' (first | ((apply WL.rd; (exact rfl); (exact Rn.indexAddrE k eA rfl rfl (by first | rfl | omega) (by first | assumption | omega)))) | ((apply WL.rd; (exact rfl); (apply Rn.loadS; (exact rfl); (exact (CellsAt.weak g1 (by simp))); (exact rfl)))) | ((refine WL.ex rfl (WO.callN Tryz.func295 rfl (by kernel_rfl) rfl (by (exact tsA)) (fun G hG hh => sdead_any vb v x.task G (hv.up hG)) ?_); rintro u own' ⟨rfl, rfl⟩; rw [hd])) | ((apply WL.rd; (exact rfl); (exact Rn.cmp (b := false) rfl rfl (congrArg some (decide_eq_false e))))) | (first | refine soA ?_ | refine sgA ?_ | refine sxA ?_ | refine sbA ?_ | refine fun (Q : Post) hQ => ?_ | refine fun (nb : Nat) => (?_ : WL _ _ _ _ _ _ _ _ _) | (refine WL.guard rfl rfl rfl (fun h => ?_) (fun h => ?_) <;> (try dsimp only at h))))
        exact hL.nx (k + 1) _ _ (by dsimp only; omega) (by dsimp only; omega) (by repeat' (first | exact trivial | refine ⟨by rw [hst2]; rfl, ?_⟩ | refine ⟨rfl, ?_⟩)) (by (exact keA))
  · obtain rfl : k = v.held.length := by simp at h; omega
    repeat' (first | refine soA ?_ | refine sgA ?_ | refine sxA ?_ | refine sbA ?_ | refine fun (Q : Post) hQ => ?_ | refine fun (nb : Nat) => (?_ : WL _ _ _ _ _ _ _ _ _) | (refine WL.guard rfl rfl rfl (fun h => ?_) (fun h => ?_) <;> (try dsimp only at h)))
    ((refine seE ?_); refine ⟨[], Keep.nil, ?_⟩)
    exact ⟨by rw [hindV, List.take_length], rfl⟩
end Go.Proofs.YtflgnpidelkkpaaGreat
namespace Go.Proofs.YtflgnpidelkkpaaGreat
set_option maxRecDepth 8000
set_option maxHeartbeats 1000000
set_option linter.unusedVariables false
set_option linter.unusedSimpArgs false
structure MoS where
  k : Nat
  l : List Int
  A : Option Addr
  c : Nat
  h : Hp
theorem arrI_snoc {xs : List Int} {d : Int} {A : Option Addr} {c : Nat} {h : Hp} (ha : Arr 3 1 (xs.length + 1) (xs.flatMap encI ++ [.int .i64 d]) A c h) : Arr 3 1 (xs ++ [d]).length ((xs ++ [d]).flatMap encI) A c h := by
  rw [List.length_append, List.flatMap_append]; exact ha
theorem momT_len (ts : List TT) (next : List Int) (now : Int) (k : Nat) : ∀ l : List Int, ((List.range k).foldl (momT ts next now) l).length ≤ l.length + k := by
  induction k with
  | zero => intro l; exact Nat.le_refl _
  | succ k ih =>
    intro l
    rw [foldl_range_succ]
    have := ih l
    revert this
    generalize (List.range k).foldl (momT ts next now) l = r
    intro this
    unfold momT
    split
    · omega
    · split
      · rw [List.length_append]; simp; omega
      · omega
attribute [local irreducible] W X WL WA WB WG WO Rn Own one splice Arr Spec WQ WH Qn
set_option maxHeartbeats 2000000 in
theorem sat_any (vb : Nat) (v : SV) (at_ : Int) (F : Hp) (hv : SVAt F vb v) : Spec Tryz.prog 291 [.pointer (some ⟨vb, 0, none⟩), .int .i64 at_] F [] fun u hs => u = .int .i64 (atV v.p.pl (v.ts.map TaskV.pl) v.next v.js v.held v.now at_) ∧ hs = [] := by
  refine Spec.enter Tryz.func291 rfl Tryz.ntmps291 rfl fun B => ?_
  have hb := hv.blk
  have hjf := hv.ok.jfit
  have htf := hv.ok.tasks.at_.fit
  have hpl := hv.plc
  have h0 : 0 < v.p.levels.xs.length := by have := hv.ok.crit; omega
  repeat' (first | ((apply WQ.rd; (exact rfl); (refine Qn.call Tryz.func292 rfl (by kernel_rfl) rfl (by (exact tsA)) (fun G hG hh => shind_any vb v at_ G (hv.up hG))))) | (first | refine sqA ?_ | refine soA ?_ | refine sgA ?_ | refine sxA ?_ | refine sbA ?_ | refine suA ?_ | refine fun (Q : Post) hQ => ?_ | refine fun (nb : Nat) => (?_ : WL _ _ _ _ _ _ _ _ _) | (refine WL.guard rfl rfl rfl (fun h => ?_) (fun h => ?_) <;> (try dsimp only at h)) | (refine WQ.guard rfl rfl rfl (fun h => ?_) (fun h => ?_) <;> (try dsimp only at h))))
  (refine W.loopK (σ := Nat) ⟨fun k => k ≤ v.js.length, fun k => [(26, some (.int .i64 (k : Nat))), (25, some (.int .i64 (v.js.length : Nat))), (24, some (.slice v.A3 v.js.length v.c3)), (0, some (.pointer (some ⟨vb, 0, none⟩))), (1, some (.int .i64 at_)), (5, some (.int .i64 ((v.js.take k).foldl (atJ v.p.pl at_) (w64 (w64 (at_ - v.now) - hindV v.p.pl (v.ts.map TaskV.pl) v.next v.js v.held v.now at_)))))], fun _ => [], fun k => v.js.length - k⟩ 0 (Nat.zero_le _) (by repeat' (first | exact trivial | refine ⟨rfl, ?_⟩)) (by (exact keA)) ?_; intro k hk Q hL; dsimp only at hk ⊢)
  repeat' (first | refine soA ?_ | refine sgA ?_ | refine sxA ?_ | refine sbA ?_ | refine fun (Q : Post) hQ => ?_ | refine fun (nb : Nat) => (?_ : WL _ _ _ _ _ _ _ _ _) | (refine WL.guard rfl rfl rfl (fun h => ?_) (fun h => ?_) <;> (try dsimp only at h)))
  refine W.cond rfl (fun h => ?_) (fun h => ?_)
  · have hlt : k < v.js.length := by simpa using h
    obtain ⟨x, hx⟩ : ∃ x, v.js[k]? = some x := ⟨_, List.getElem?_eq_getElem (by simpa using hlt)⟩
    obtain ⟨g, o, eA, g1⟩ := hv.ok.jobs.elem 6 (fun _ => rfl) (by omega) k x hx
    have hst := foldl_take_succ (atJ v.p.pl at_) (w64 (w64 (at_ - v.now) - hindV v.p.pl (v.ts.map TaskV.pl) v.next v.js v.held v.now at_)) _ k _ hx
    generalize (v.js.take k).foldl (atJ v.p.pl at_) (w64 (w64 (at_ - v.now) - hindV v.p.pl (v.ts.map TaskV.pl) v.next v.js v.held v.now at_)) = m0 at *
    by_cases e : x.deadline ≤ at_
    · rw [show atJ v.p.pl at_ m0 x = w64 (m0 - quantaJ v.p.pl x) from if_pos e] at hst
      repeat' (first | ((apply WL.rd; (exact rfl); (exact Rn.indexAddrE k eA rfl rfl (by first | rfl | omega) (by first | assumption | omega)))) | ((apply WL.rd; (exact rfl); (apply Rn.loadS; (exact rfl); (exact (CellsAt.weak g1 (by simp))); (exact rfl)))) | ((apply WL.rd; (exact rfl); (exact Rn.cmp (b := true) rfl rfl (congrArg some (decide_eq_true e))))) | ((apply WQ.rd; (exact rfl); apply Rn.q; (apply Rn.loadS; (exact rfl); (exact CellsAt.weak hpl (by simp)); (exact rfl)))) | ((apply WQ.rd; (exact rfl); (refine Qn.call Tryz.func293 rfl (by kernel_rfl) rfl (by (exact tsA)) (fun G hG hh => quantaJ_any v.p x G (hv.ok.plat.up hG) h0)))) | (first | refine sqA ?_ | refine soA ?_ | refine sgA ?_ | refine sxA ?_ | refine sbA ?_ | refine suA ?_ | refine fun (Q : Post) hQ => ?_ | refine fun (nb : Nat) => (?_ : WL _ _ _ _ _ _ _ _ _) | (refine WL.guard rfl rfl rfl (fun h => ?_) (fun h => ?_) <;> (try dsimp only at h)) | (refine WQ.guard rfl rfl rfl (fun h => ?_) (fun h => ?_) <;> (try dsimp only at h))))
      exact hL.nx (k + 1) _ _ (by dsimp only; omega) (by dsimp only; omega) (by repeat' (first | exact trivial | refine ⟨by rw [hst]; rfl, ?_⟩ | refine ⟨rfl, ?_⟩)) (by (exact keA))
    · rw [show atJ v.p.pl at_ m0 x = m0 from if_neg e] at hst
      repeat' (first | ((apply WL.rd; (exact rfl); (exact Rn.indexAddrE k eA rfl rfl (by first | rfl | omega) (by first | assumption | omega)))) | ((apply WL.rd; (exact rfl); (apply Rn.loadS; (exact rfl); (exact (CellsAt.weak g1 (by simp))); (exact rfl)))) | ((apply WL.rd; (exact rfl); (exact Rn.cmp (b := false) rfl rfl (congrArg some (decide_eq_false e))))) | (first | refine soA ?_ | refine sgA ?_ | refine sxA ?_ | refine sbA ?_ | refine fun (Q : Post) hQ => ?_ | refine fun (nb : Nat) => (?_ : WL _ _ _ _ _ _ _ _ _) | (refine WL.guard rfl rfl rfl (fun h => ?_) (fun h => ?_) <;> (try dsimp only at h))))
      exact hL.nx (k + 1) _ _ (by dsimp only; omega) (by dsimp only; omega) (by repeat' (first | exact trivial | refine ⟨by rw [hst]; rfl, ?_⟩ | refine ⟨rfl, ?_⟩)) (by (exact keA))
  · obtain rfl : k = v.js.length := by simp at h; omega
    rw [List.take_length]
    repeat' (first | ((refine WL.ex rfl (WO.callN Tryz.func287 rfl (by kernel_rfl) rfl (by (exact tsA)) (fun G hG hh => whole_any _ G) ?_); rintro v own' ⟨rfl, rfl⟩)) | (first | refine soA ?_ | refine sgA ?_ | refine sxA ?_ | refine sbA ?_ | refine fun (Q : Post) hQ => ?_ | refine fun (nb : Nat) => (?_ : WL _ _ _ _ _ _ _ _ _) | (refine WL.guard rfl rfl rfl (fun h => ?_) (fun h => ?_) <;> (try dsimp only at h))))
    generalize hw : wholeV (v.js.foldl (atJ v.p.pl at_) (w64 (w64 (at_ - v.now) - hindV v.p.pl (v.ts.map TaskV.pl) v.next v.js v.held v.now at_))) = w0
    refine W.loopK (σ := Nat) ⟨fun k => k ≤ v.ts.length, fun k => [(50, some (.int .i64 (k : Nat))), (49, some (.int .i64 (v.ts.length : Nat))), (48, some (.slice v.A1 v.ts.length v.c1)), (0, some (.pointer (some ⟨vb, 0, none⟩))), (1, some (.int .i64 at_)), (8, some (.int .i64 ((List.range k).foldl (atT v.p.pl (v.ts.map TaskV.pl) v.next v.now at_) w0)))], fun _ => [], fun k => v.ts.length - k⟩ 0 (Nat.zero_le _) (by repeat' (first | exact trivial | refine ⟨rfl, ?_⟩)) (by (exact keA)) ?_
    intro k hk Q2 hL2
    dsimp only at hk ⊢
    repeat' (first | refine soA ?_ | refine sgA ?_ | refine sxA ?_ | refine sbA ?_ | refine fun (Q : Post) hQ => ?_ | refine fun (nb : Nat) => (?_ : WL _ _ _ _ _ _ _ _ _) | (refine WL.guard rfl rfl rfl (fun h => ?_) (fun h => ?_) <;> (try dsimp only at h)))
    refine W.cond rfl (fun h2 => ?_) (fun h2 => ?_)
    · have hlt : k < v.ts.length := by simpa using h2
      obtain ⟨t, ht⟩ : ∃ t, v.ts[k]? = some t := ⟨_, List.getElem?_eq_getElem (by simpa using hlt)⟩
      obtain ⟨g, o, eA, g1⟩ := hv.ok.tasks.at_.row.elem 4 (fun _ => rfl) (by omega) k t ht
      have hst := foldl_range_succ (atT v.p.pl (v.ts.map TaskV.pl) v.next v.now at_) w0 k
      generalize (List.range k).foldl (atT v.p.pl (v.ts.map TaskV.pl) v.next v.now at_) w0 = m0 at *
      have hat : atT v.p.pl (v.ts.map TaskV.pl) v.next v.now at_ m0 k = if 0 < t.period then w64 (m0 - timesV (partV v.p.pl t.pl 0) (w64 (at_ - fromV v.next k v.now))) else m0 := by unfold atT; rw [mapT_get ht]; rfl
      rw [hat] at hst
      by_cases e : 0 < t.period
      · rw [if_pos e] at hst
        repeat' (first | ((apply WL.rd; (exact rfl); (exact Rn.indexAddrE k eA rfl rfl (by first | rfl | omega) (by first | assumption | omega)))) | ((apply WL.rd; (exact rfl); (apply Rn.loadS; (exact rfl); (exact (CellsAt.weak g1 (by simp))); (exact rfl)))) | ((apply WL.rd; (exact rfl); (exact Rn.cmp (b := true) rfl rfl (congrArg some (decide_eq_true e))))) | ((apply WQ.rd; (exact rfl); apply Rn.q; (apply Rn.loadS; (exact rfl); (exact CellsAt.weak hpl (by simp)); (exact rfl)))) | ((apply WQ.rd; (exact rfl); (refine Qn.call Tryz.func241 rfl (by kernel_rfl) rfl (by (exact tsA)) (fun G hG hh => part_any v.p t 0 G (hv.ok.plat.up hG))))) | ((apply WQ.rd; (exact rfl); (refine Qn.call Tryz.func290 rfl (by kernel_rfl) rfl (by (exact tsA)) (fun G hG hh => sfrom_any vb v k G (hv.up hG) hlt)))) | ((apply WQ.rd; (exact rfl); (refine Qn.call Tryz.func294 rfl (by kernel_rfl) rfl (by (exact tsA)) (fun G hG hh => times_any _ _ G)))) | (first | refine sqA ?_ | refine soA ?_ | refine sgA ?_ | refine sxA ?_ | refine sbA ?_ | refine suA ?_ | refine fun (Q : Post) hQ => ?_ | refine fun (nb : Nat) => (?_ : WL _ _ _ _ _ _ _ _ _) | (refine WL.guard rfl rfl rfl (fun h => ?_) (fun h => ?_) <;> (try dsimp only at h)) | (refine WQ.guard rfl rfl rfl (fun h => ?_) (fun h => ?_) <;> (try dsimp only at h))))
        exact hL2.nx (k + 1) _ _ (by dsimp only; omega) (by dsimp only; omega) (by repeat' (first | exact trivial | refine ⟨by rw [hst]; rfl, ?_⟩ | refine ⟨rfl, ?_⟩)) (by (exact keA))
      · rw [if_neg e] at hst
        repeat' (first | ((apply WL.rd; (exact rfl); (exact Rn.indexAddrE k eA rfl rfl (by first | rfl | omega) (by first | assumption | omega)))) | ((apply WL.rd; (exact rfl); (apply Rn.loadS; (exact rfl); (exact (CellsAt.weak g1 (by simp))); (exact rfl)))) | ((apply WL.rd; (exact rfl); (exact Rn.cmp (b := false) rfl rfl (congrArg some (decide_eq_false e))))) | (first | refine soA ?_ | refine sgA ?_ | refine sxA ?_ | refine sbA ?_ | refine fun (Q : Post) hQ => ?_ | refine fun (nb : Nat) => (?_ : WL _ _ _ _ _ _ _ _ _) | (refine WL.guard rfl rfl rfl (fun h => ?_) (fun h => ?_) <;> (try dsimp only at h))))
        exact hL2.nx (k + 1) _ _ (by dsimp only; omega) (by dsimp only; omega) (by repeat' (first | exact trivial | refine ⟨by rw [hst]; rfl, ?_⟩ | refine ⟨rfl, ?_⟩)) (by (exact keA))
    · obtain rfl : k = v.ts.length := by simp at h2; omega
      repeat' (first | refine soA ?_ | refine sgA ?_ | refine sxA ?_ | refine sbA ?_ | refine fun (Q : Post) hQ => ?_ | refine fun (nb : Nat) => (?_ : WL _ _ _ _ _ _ _ _ _) | (refine WL.guard rfl rfl rfl (fun h => ?_) (fun h => ?_) <;> (try dsimp only at h)))
      ((refine seE ?_); refine ⟨[], Keep.nil, ?_⟩)
      exact ⟨by rw [atV, hw, List.length_map], rfl⟩
set_option maxHeartbeats 4000000 in
theorem sleast_any (vb : Nat) (v : SV) (first : Int) (F : Hp) (hv : SVAt F vb v) : Spec Tryz.prog 285 [.pointer (some ⟨vb, 0, none⟩), .int .i64 first] F [] fun u hs => u = .int .i64 (leastV v.p.pl (v.ts.map TaskV.pl) v.next v.js v.held v.now first) ∧ hs = [] := by
  refine Spec.enter Tryz.func285 rfl Tryz.ntmps285 rfl fun B => ?_
  have hb := hv.blk
  have hjf := hv.ok.jfit
  have htf := hv.ok.tasks.at_.fit
  refine W.pad ?_
  repeat' (first | refine soA ?_ | refine sgA ?_ | refine sxA ?_ | refine sbA ?_ | refine fun (Q : Post) hQ => ?_ | refine fun (nb : Nat) => (?_ : WL _ _ _ _ _ _ _ _ _) | (refine WL.guard rfl rfl rfl (fun h => ?_) (fun h => ?_) <;> (try dsimp only at h)))
  refine W.loopK (σ := MoS) ⟨fun s => s.k ≤ v.js.length ∧ s.l = (v.js.take s.k).map (·.deadline) ∧ Arr 3 1 s.l.length (s.l.flatMap encI) s.A s.c s.h, fun s => [(18, some (.int .i64 (s.k : Nat))), (17, some (.int .i64 (v.js.length : Nat))), (16, some (.slice v.A3 v.js.length v.c3)), (0, some (.pointer (some ⟨vb, 0, none⟩))), (1, some (.int .i64 first)), (5, some (.slice s.A s.l.length s.c))], fun s => [s.h], fun s => v.js.length - s.k⟩ ⟨0, [], none, 0, Hp.none⟩ ⟨Nat.zero_le _, rfl, Arr.nil _ _⟩ (by repeat' (first | exact trivial | refine ⟨rfl, ?_⟩)) (by (exact keA)) ?_
  rintro ⟨k, l, A, c, h⟩ ⟨hk, hl, ha⟩ Q hL
  dsimp only at hk hl ha ⊢
  have hll : l.length ≤ k := by rw [hl]; simp; omega
  repeat' (first | refine soA ?_ | refine sgA ?_ | refine sxA ?_ | refine sbA ?_ | refine fun (Q : Post) hQ => ?_ | refine fun (nb : Nat) => (?_ : WL _ _ _ _ _ _ _ _ _) | (refine WL.guard rfl rfl rfl (fun h => ?_) (fun h => ?_) <;> (try dsimp only at h)))
  refine W.cond rfl (fun hc => ?_) (fun hc => ?_)
  · have hlt : k < v.js.length := by simpa using hc
    obtain ⟨x, hx⟩ : ∃ x, v.js[k]? = some x := ⟨_, List.getElem?_eq_getElem (by simpa using hlt)⟩
    obtain ⟨g, o, eA, g1⟩ := hv.ok.jobs.elem 6 (fun _ => rfl) (by omega) k x hx
    repeat' (first | ((apply WL.rd; (exact rfl); (exact Rn.indexAddrE k eA rfl rfl (by first | rfl | omega) (by first | assumption | omega)))) | ((apply WL.rd; (exact rfl); (apply Rn.loadS; (exact rfl); (exact (CellsAt.weak g1 (by simp))); (exact rfl)))) | ((apply WL.ex; (exact rfl); (apply WO.append (h := h) (news := [.int .i64 x.deadline]) (m := 1); (exact rfl); (exact rfl); (exact tkA); (exact ha); (exact rfl); (decide); (exact rfl); (apply RowAt.cells; (exact atA)); (exact rfl); (omega); (omega); intro A' c' h' ha'))) | (first | refine soA ?_ | refine sgA ?_ | refine sxA ?_ | refine sbA ?_ | refine fun (Q : Post) hQ => ?_ | refine fun (nb : Nat) => (?_ : WL _ _ _ _ _ _ _ _ _) | (refine WL.guard rfl rfl rfl (fun h => ?_) (fun h => ?_) <;> (try dsimp only at h))))
    have he : (l ++ [x.deadline]).length = l.length + 1 := by simp
    exact hL.nx ⟨k + 1, l ++ [x.deadline], A', c', h'⟩ _ _ ⟨by dsimp only; omega, by dsimp only; rw [hl, List.take_add_one, hx]; simp, arrI_snoc ha'⟩ (by dsimp only; omega) (by repeat' (first | exact trivial | refine ⟨by rw [he]; rfl, ?_⟩ | refine ⟨rfl, ?_⟩)) (by (exact keA))
  · obtain rfl : k = v.js.length := by simp at hc; omega
    rw [List.take_length] at hl
    repeat' (first | refine soA ?_ | refine sgA ?_ | refine sxA ?_ | refine sbA ?_ | refine fun (Q : Post) hQ => ?_ | refine fun (nb : Nat) => (?_ : WL _ _ _ _ _ _ _ _ _) | (refine WL.guard rfl rfl rfl (fun h => ?_) (fun h => ?_) <;> (try dsimp only at h)))
    refine W.loopK (σ := MoS) ⟨fun s => s.k ≤ v.ts.length ∧ s.l = (List.range s.k).foldl (momT (v.ts.map TaskV.pl) v.next v.now) (v.js.map (·.deadline)) ∧ Arr 3 1 s.l.length (s.l.flatMap encI) s.A s.c s.h, fun s => [(33, some (.int .i64 (s.k : Nat))), (32, some (.int .i64 (v.ts.length : Nat))), (31, some (.slice v.A1 v.ts.length v.c1)), (0, some (.pointer (some ⟨vb, 0, none⟩))), (1, some (.int .i64 first)), (5, some (.slice s.A s.l.length s.c))], fun s => [s.h], fun s => v.ts.length - s.k⟩ ⟨0, l, A, c, h⟩ ⟨Nat.zero_le _, hl, ha⟩ (by repeat' (first | exact trivial | refine ⟨rfl, ?_⟩)) (by (exact keA)) ?_
    rintro ⟨k, l, A, c, h⟩ ⟨hk, hl, ha⟩ Q2 hL2
    dsimp only at hk hl ha ⊢
    have hll2 : l.length ≤ v.js.length + k := by rw [hl]; have := momT_len (v.ts.map TaskV.pl) v.next v.now k (v.js.map (·.deadline)); simpa using this
    repeat' (first | refine soA ?_ | refine sgA ?_ | refine sxA ?_ | refine sbA ?_ | refine fun (Q : Post) hQ => ?_ | refine fun (nb : Nat) => (?_ : WL _ _ _ _ _ _ _ _ _) | (refine WL.guard rfl rfl rfl (fun h => ?_) (fun h => ?_) <;> (try dsimp only at h)))
    refine W.cond rfl (fun hc2 => ?_) (fun hc2 => ?_)
    · have hlt : k < v.ts.length := by simpa using hc2
      obtain ⟨t, ht⟩ : ∃ t, v.ts[k]? = some t := ⟨_, List.getElem?_eq_getElem (by simpa using hlt)⟩
      obtain ⟨g, o, eA, g1⟩ := hv.ok.tasks.at_.row.elem 4 (fun _ => rfl) (by omega) k t ht
      have hst := foldl_range_succ (momT (v.ts.map TaskV.pl) v.next v.now) (v.js.map (·.deadline)) k
      rw [← hl] at hst
      have hmt : momT (v.ts.map TaskV.pl) v.next v.now l k = if 0 < t.period then l ++ [w64 (fromV v.next k v.now + t.period)] else l := by unfold momT; rw [mapT_get ht]; rfl
      rw [hmt] at hst
      by_cases e : 0 < t.period
      · rw [if_pos e] at hst
        repeat' (first | ((apply WL.rd; (exact rfl); (exact Rn.indexAddrE k eA rfl rfl (by first | rfl | omega) (by first | assumption | omega)))) | ((apply WL.rd; (exact rfl); (apply Rn.loadS; (exact rfl); (exact (CellsAt.weak g1 (by simp))); (exact rfl)))) | ((apply WL.rd; (exact rfl); (exact Rn.cmp (b := true) rfl rfl (congrArg some (decide_eq_true e))))) | (first | refine soA ?_ | refine sgA ?_ | refine sxA ?_ | refine sbA ?_ | refine fun (Q : Post) hQ => ?_ | refine fun (nb : Nat) => (?_ : WL _ _ _ _ _ _ _ _ _) | (refine WL.guard rfl rfl rfl (fun h => ?_) (fun h => ?_) <;> (try dsimp only at h))))
        refine dra [(9, [])] [] ?_
        refine drp 10 0 1 ?_
        refine drp 10 1 3 ?_
        refine drp 10 2 7 ?_
        refine drp 10 4 23 ?_
        refine drl 10 5 0 55 ?_
        refine dr1 3 ?_
        refine dre 10 3 63 ?_
        (refine WO.callN Tryz.func290 rfl (by kernel_rfl) rfl Takes.nil (fun G hG hh => sfrom_any vb v k G (hv.up hG) hlt) ?_; rintro u own' ⟨rfl, rfl⟩)
        refine ⟨piA, ?_⟩
        refine drp 10 6 127 (hy := by (exact Rn.addW rfl rfl)) ?_
        refine dr1 7 ?_
        refine dre 10 7 255 ?_
        (apply WO.buildSlice; (exact rfl); (exact rfl); (exact fpA); intro nb)
        refine ⟨piA, ?_⟩
        refine dr1 8 ?_
        refine dre 10 8 511 ?_
        (apply WO.append (h := h) (news := [.int .i64 (w64 (fromV v.next k v.now + t.period))]) (m := 1); (exact rfl); (exact rfl); (exact tkA); (exact ha); (exact rfl); (decide); (exact rfl); (apply RowAt.cells; (exact atA)); (exact rfl); (omega); (omega); intro A' c' h' ha')
        refine ⟨piA, ?_⟩
        refine drp 10 9 1023 ?_
        refine drz ?_
        repeat' (first | refine soA ?_ | refine sgA ?_ | refine sxA ?_ | refine sbA ?_ | refine fun (Q : Post) hQ => ?_ | refine fun (nb : Nat) => (?_ : WL _ _ _ _ _ _ _ _ _) | (refine WL.guard rfl rfl rfl (fun h => ?_) (fun h => ?_) <;> (try dsimp only at h)))
        have he : (l ++ [w64 (fromV v.next k v.now + t.period)]).length = l.length + 1 := by simp
        exact hL2.nx ⟨k + 1, l ++ [w64 (fromV v.next k v.now + t.period)], A', c', h'⟩ _ _ ⟨by dsimp only; omega, hst.symm, arrI_snoc ha'⟩ (by dsimp only; omega) (by repeat' (first | exact trivial | refine ⟨by rw [he]; rfl, ?_⟩ | refine ⟨rfl, ?_⟩)) (by (exact keA))
      · rw [if_neg e] at hst
        repeat' (first | ((apply WL.rd; (exact rfl); (exact Rn.indexAddrE k eA rfl rfl (by first | rfl | omega) (by first | assumption | omega)))) | ((apply WL.rd; (exact rfl); (apply Rn.loadS; (exact rfl); (exact (CellsAt.weak g1 (by simp))); (exact rfl)))) | ((apply WL.rd; (exact rfl); (exact Rn.cmp (b := false) rfl rfl (congrArg some (decide_eq_false e))))) | (first | refine soA ?_ | refine sgA ?_ | refine sxA ?_ | refine sbA ?_ | refine fun (Q : Post) hQ => ?_ | refine fun (nb : Nat) => (?_ : WL _ _ _ _ _ _ _ _ _) | (refine WL.guard rfl rfl rfl (fun h => ?_) (fun h => ?_) <;> (try dsimp only at h))))
        exact hL2.nx ⟨k + 1, l, A, c, h⟩ _ _ ⟨by dsimp only; omega, hst.symm, ha⟩ (by dsimp only; omega) (by repeat' (first | exact trivial | refine ⟨rfl, ?_⟩)) (by (exact keA))
    · obtain rfl : k = v.ts.length := by simp at hc2; omega
      have hmom : l = momV (v.ts.map TaskV.pl) v.next v.js v.now := by rw [momV, List.length_map]; exact hl
      repeat' (first | ((refine WL.ex rfl (WO.callN Tryz.func287 rfl (by kernel_rfl) rfl (by (exact tsA)) (fun G hG hh => whole_any _ G) ?_); rintro v own' ⟨rfl, rfl⟩)) | (first | refine soA ?_ | refine sgA ?_ | refine sxA ?_ | refine sbA ?_ | refine fun (Q : Post) hQ => ?_ | refine fun (nb : Nat) => (?_ : WL _ _ _ _ _ _ _ _ _) | (refine WL.guard rfl rfl rfl (fun h => ?_) (fun h => ?_) <;> (try dsimp only at h))))
      refine W.loopK (σ := Nat) ⟨fun q => q ≤ l.length, fun q => [(54, some (.int .i64 (q : Nat))), (53, some (.int .i64 (l.length : Nat))), (52, some (.slice A l.length c)), (0, some (.pointer (some ⟨vb, 0, none⟩))), (1, some (.int .i64 first)), (10, some (.int .i64 ((l.take q).foldl (leastF v.p.pl (v.ts.map TaskV.pl) v.next v.js v.held v.now first) (wholeV 1073741824))))], fun _ => [h], fun q => l.length - q⟩ 0 (Nat.zero_le _) (by repeat' (first | exact trivial | refine ⟨rfl, ?_⟩)) (by (exact keA)) ?_
      intro q hq Q3 hL3
      dsimp only at hq ⊢
      repeat' (first | refine soA ?_ | refine sgA ?_ | refine sxA ?_ | refine sbA ?_ | refine fun (Q : Post) hQ => ?_ | refine fun (nb : Nat) => (?_ : WL _ _ _ _ _ _ _ _ _) | (refine WL.guard rfl rfl rfl (fun h => ?_) (fun h => ?_) <;> (try dsimp only at h)))
      refine W.cond rfl (fun hc3 => ?_) (fun hc3 => ?_)
      · have hlt : q < l.length := by simpa using hc3
        obtain ⟨m, hm⟩ : ∃ m, l[q]? = some m := ⟨_, List.getElem?_eq_getElem (by simpa using hlt)⟩
        obtain ⟨g, o, eA, g1⟩ := (RowAt.arr (F := F) (hs := [h]) ha (by simp)).elem 1 (fun _ => rfl) (by omega) q m hm
        have hst := foldl_take_succ (leastF v.p.pl (v.ts.map TaskV.pl) v.next v.js v.held v.now first) (wholeV 1073741824) _ q _ hm
        generalize (l.take q).foldl (leastF v.p.pl (v.ts.map TaskV.pl) v.next v.js v.held v.now first) (wholeV 1073741824) = m0 at *
        by_cases e : first ≤ m
        · rw [show leastF v.p.pl (v.ts.map TaskV.pl) v.next v.js v.held v.now first m0 m = minV m0 (atV v.p.pl (v.ts.map TaskV.pl) v.next v.js v.held v.now m) from if_pos e] at hst
          repeat' (first | ((apply WL.rd; (exact rfl); (exact Rn.indexAddrE q eA rfl rfl (by first | rfl | omega) (by first | assumption | omega)))) | ((apply WL.rd; (exact rfl); (apply Rn.load; (exact rfl); (exact (CellsAt.weak g1 (by simp)) 0 _ rfl)))) | ((apply WL.rd; (exact rfl); (exact Rn.cmp (b := true) rfl rfl (congrArg some (decide_eq_true e))))) | ((refine WL.ex rfl (WO.callN Tryz.func291 rfl (by kernel_rfl) rfl (by (exact tsA)) (fun G hG hh => sat_any vb v m G (hv.up hG)) ?_); rintro v own' ⟨rfl, rfl⟩)) | (first | refine soA ?_ | refine sgA ?_ | refine sxA ?_ | refine sbA ?_ | refine fun (Q : Post) hQ => ?_ | refine fun (nb : Nat) => (?_ : WL _ _ _ _ _ _ _ _ _) | (refine WL.guard rfl rfl rfl (fun h => ?_) (fun h => ?_) <;> (try dsimp only at h))))
          exact hL3.nx (q + 1) _ _ (by dsimp only; omega) (by dsimp only; omega) (by repeat' (first | exact trivial | refine ⟨by rw [hst]; rfl, ?_⟩ | refine ⟨rfl, ?_⟩)) (by (exact keA))
        · rw [show leastF v.p.pl (v.ts.map TaskV.pl) v.next v.js v.held v.now first m0 m = m0 from if_neg e] at hst
          repeat' (first | ((apply WL.rd; (exact rfl); (exact Rn.indexAddrE q eA rfl rfl (by first | rfl | omega) (by first | assumption | omega)))) | ((apply WL.rd; (exact rfl); (apply Rn.load; (exact rfl); (exact (CellsAt.weak g1 (by simp)) 0 _ rfl)))) | ((apply WL.rd; (exact rfl); (exact Rn.cmp (b := false) rfl rfl (congrArg some (decide_eq_false e))))) | (first | refine soA ?_ | refine sgA ?_ | refine sxA ?_ | refine sbA ?_ | refine fun (Q : Post) hQ => ?_ | refine fun (nb : Nat) => (?_ : WL _ _ _ _ _ _ _ _ _) | (refine WL.guard rfl rfl rfl (fun h => ?_) (fun h => ?_) <;> (try dsimp only at h))))
          exact hL3.nx (q + 1) _ _ (by dsimp only; omega) (by dsimp only; omega) (by repeat' (first | exact trivial | refine ⟨by rw [hst]; rfl, ?_⟩ | refine ⟨rfl, ?_⟩)) (by (exact keA))
      · obtain rfl : q = l.length := by simp at hc3; omega
        repeat' (first | refine soA ?_ | refine sgA ?_ | refine sxA ?_ | refine sbA ?_ | refine fun (Q : Post) hQ => ?_ | refine fun (nb : Nat) => (?_ : WL _ _ _ _ _ _ _ _ _) | (refine WL.guard rfl rfl rfl (fun h => ?_) (fun h => ?_) <;> (try dsimp only at h)))
        ((refine seE ?_); refine ⟨[], Keep.nil, ?_⟩)
        exact ⟨by rw [List.take_length, hmom]; rfl, rfl⟩
theorem least_any (v : SV) (first : Int) (F : Hp) (hv : SVok F v) : Spec Tryz.prog 273 [.agg v.p.enc.toArray, .slice v.A1 v.ts.length v.c1, .slice v.A2 v.next.length v.c2, .slice v.A3 v.js.length v.c3, .slice v.A4 v.held.length v.c4, .int .i64 v.now, .int .i64 first] F [] fun u hs => u = .int .i64 (leastV v.p.pl (v.ts.map TaskV.pl) v.next v.js v.held v.now first) ∧ hs = [] := by
  refine Spec.enter Tryz.func273 rfl Tryz.ntmps273 rfl fun B => ?_
  repeat' (first | ((apply WL.rd; (exact rfl); (apply Rn.build; (exact fpA)))) | (first | refine soA ?_ | refine sgA ?_ | refine sxA ?_ | refine sbA ?_ | refine fun (Q : Post) hQ => ?_ | refine fun (nb : Nat) => (?_ : WL _ _ _ _ _ _ _ _ _) | (refine WL.guard rfl rfl rfl (fun h => ?_) (fun h => ?_) <;> (try dsimp only at h))))
  repeat' (first | ((refine WL.ex rfl (WO.callN Tryz.func285 rfl (by kernel_rfl) rfl Takes.nil (fun G hG hh => sleast_any _ v first G ⟨one_in (hh _ (List.mem_cons_self ..)), hv.up hG⟩) ?_); rintro u own' ⟨rfl, rfl⟩)) | (first | refine soA ?_ | refine sgA ?_ | refine sxA ?_ | refine sbA ?_ | refine fun (Q : Post) hQ => ?_ | refine fun (nb : Nat) => (?_ : WL _ _ _ _ _ _ _ _ _) | (refine WL.guard rfl rfl rfl (fun h => ?_) (fun h => ?_) <;> (try dsimp only at h))))
  ((refine seE ?_); refine ⟨[], Keep.nil, ?_⟩)
  exact ⟨rfl, rfl⟩
end Go.Proofs.YtflgnpidelkkpaaGreat
