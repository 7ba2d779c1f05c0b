/- part 19 of the proof: contracts of the functions that the law reaches, and plain laws. -/
import Derived.Test.YtflgnpidelkkpaaGreatMq7
import Derived.Test.YtflgnpidelkkpaaGreatMq14
import Derived.Test.YtflgnpidelkkpaaGreatMq18
import Derived.Test.YtflgnpidelkkpaaGreatMq13
namespace Go.Proofs.YtflgnpidelkkpaaGreat
set_option maxRecDepth 8000
set_option maxHeartbeats 1000000
set_option linter.unusedVariables false
set_option linter.unusedSimpArgs false
def needsP (t : TT) (d : Int) : Bool := t.devs.any fun x => x == d
def needT (ts : List TT) (d : Int) (j : JobV) : Bool := match ts[j.task.toNat]? with | some t => needsP t d | none => false
def untilT (ts : List TT) (next : List Int) (d now : Int) (s : Int) (n : Nat) : Int := match ts[n]? with
  | none => s
  | some t => if 0 < t.period ∧ needsP t d = true then minV s (fromV next n now) else s
def untilV (ts : List TT) (next : List Int) (js : List JobV) (d now : Int) : Int := if js.any (needT ts d) = true then now else (List.range ts.length).foldl (untilT ts next d now) 1099511627776
def readyV (p : PP) (ts : List TT) (next : List Int) (now : Int) : Int := w64 (now + minV (maxV (floorV (leastV p ts next [] [] now now)) 0) 1024)
attribute [local irreducible] W X WL WA WB WG WO Rn Own one splice Arr Spec WQ WH Qn
theorem indexE_any (A : Option Addr) (c : Nat) (xs : List Int) (d : Int) (F : Hp) (h0 : RowAt F [] A (xs.flatMap encI)) (hf : xs.length * 8 ≤ 140737488355328) : Spec Tryz.prog 278 [.slice A xs.length c, .int .i64 d] F [] fun v hs => (∃ i : Int, v = .int .i64 i ∧ decide (0 ≤ i) = xs.any fun x => x == d) ∧ hs = [] := by
  refine Spec.enter Tryz.func278 rfl Tryz.ntmps278 rfl fun B => ?_
  repeat' (first | refine soA ?_ | refine sgA ?_ | refine sxA ?_ | refine sbA ?_ | refine fun (Q : Post) hQ => ?_ | refine fun (nb : Nat) => (?_ : WL _ _ _ _ _ _ _ _ _) | (refine WL.guard rfl rfl rfl (fun h => ?_) (fun h => ?_) <;> (try dsimp only at h)))
  refine W.loopK (σ := Nat) ⟨fun k => k ≤ xs.length ∧ (xs.take k).any (fun x => x == d) = false, fun k => [(8, some (.int .i64 (k : Nat))), (7, some (.int .i64 (xs.length : Nat))), (0, some (.slice A xs.length c)), (1, some (.int .i64 d))], fun _ => [], fun k => xs.length - k⟩ 0 ⟨Nat.zero_le _, rfl⟩ (by repeat' (first | exact trivial | refine ⟨rfl, ?_⟩)) (by (exact keA)) ?_
  intro k hk Q hL
  dsimp only at hk ⊢
  obtain ⟨hk, hno⟩ := hk
  repeat' (first | refine soA ?_ | refine sgA ?_ | refine sxA ?_ | refine sbA ?_ | refine fun (Q : Post) hQ => ?_ | refine fun (nb : Nat) => (?_ : WL _ _ _ _ _ _ _ _ _) | (refine WL.guard rfl rfl rfl (fun h => ?_) (fun h => ?_) <;> (try dsimp only at h)))
  refine W.cond rfl (fun h => ?_) (fun h => ?_)
  · have hlt : k < xs.length := by simpa using h
    obtain ⟨x, hx⟩ : ∃ x, xs[k]? = some x := ⟨_, List.getElem?_eq_getElem (by simpa using hlt)⟩
    obtain ⟨g, o, eA, g1⟩ := ints_cell h0 hx
    have htk : xs.take (k + 1) = xs.take k ++ [x] := by rw [List.take_add_one, hx]; rfl
    by_cases e : d = x
    · have hany : xs.any (fun x => x == d) = true := List.any_eq_true.2 ⟨x, List.mem_of_getElem? hx, by simp [e]⟩
      repeat' (first | ((apply WL.rd; (exact rfl); (exact Rn.indexAddrE k eA rfl rfl (by first | rfl | omega) (by first | assumption | omega)))) | ((apply WL.rd; (exact rfl); (apply Rn.load; (exact rfl); (exact (CellsAt.weak g1 (by simp)) 0 _ rfl)))) | ((apply WL.rd; (exact rfl); (exact Rn.cmp (b := true) rfl rfl (congrArg some (beq_iff_eq.2 e))))) | (first | refine soA ?_ | refine sgA ?_ | refine sxA ?_ | refine sbA ?_ | refine fun (Q : Post) hQ => ?_ | refine fun (nb : Nat) => (?_ : WL _ _ _ _ _ _ _ _ _) | (refine WL.guard rfl rfl rfl (fun h => ?_) (fun h => ?_) <;> (try dsimp only at h))))
      ((refine seE ?_); refine ⟨[], Keep.nil, ?_⟩)
      exact ⟨⟨k, rfl, by rw [hany]; simp⟩, rfl⟩
    · skip
      repeat' (first | ((apply WL.rd; (exact rfl); (exact Rn.indexAddrE k eA rfl rfl (by first | rfl | omega) (by first | assumption | omega)))) | ((apply WL.rd; (exact rfl); (apply Rn.load; (exact rfl); (exact (CellsAt.weak g1 (by simp)) 0 _ rfl)))) | ((apply WL.rd; (exact rfl); (exact Rn.cmp (b := false) rfl rfl (congrArg some (beq_eq_false_iff_ne.2 e))))) | (first | refine soA ?_ | refine sgA ?_ | refine sxA ?_ | refine sbA ?_ | refine fun (Q : Post) hQ => ?_ | refine fun (nb : Nat) => (?_ : WL _ _ _ _ _ _ _ _ _) | (refine WL.guard rfl rfl rfl (fun h => ?_) (fun h => ?_) <;> (try dsimp only at h))))
      exact hL.nx (k + 1) _ _ ⟨by omega, by rw [htk, List.any_append, hno]; simp; exact fun h => e h.symm⟩ (by dsimp only; omega) (by repeat' (first | exact trivial | refine ⟨rfl, ?_⟩)) (by (exact keA))
  · obtain rfl : k = xs.length := by simp at h; omega
    rw [List.take_length] at hno
    repeat' (first | refine soA ?_ | refine sgA ?_ | refine sxA ?_ | refine sbA ?_ | refine fun (Q : Post) hQ => ?_ | refine fun (nb : Nat) => (?_ : WL _ _ _ _ _ _ _ _ _) | (refine WL.guard rfl rfl rfl (fun h => ?_) (fun h => ?_) <;> (try dsimp only at h)))
    ((refine seE ?_); refine ⟨[], Keep.nil, ?_⟩)
    exact ⟨⟨-1, rfl, by rw [hno]; rfl⟩, rfl⟩
theorem containsE_any (A : Option Addr) (c : Nat) (xs : List Int) (d : Int) (F : Hp) (h0 : RowAt F [] A (xs.flatMap encI)) (hf : xs.length * 8 ≤ 140737488355328) : Spec Tryz.prog 255 [.slice A xs.length c, .int .i64 d] F [] fun v hs => v = .bool (xs.any fun x => x == d) ∧ hs = [] := by
  refine Spec.enter Tryz.func255 rfl Tryz.ntmps255 rfl fun B => ?_
  repeat' (first | ((refine WL.ex rfl (WO.callN Tryz.func278 rfl (by kernel_rfl) rfl (by (exact tsA)) (fun G hG hh => indexE_any A c xs d G (h0.up hG (by simp)) hf) ?_); rintro v own' ⟨⟨i, rfl, hi⟩, rfl⟩)) | (first | refine soA ?_ | refine sgA ?_ | refine sxA ?_ | refine sbA ?_ | refine fun (Q : Post) hQ => ?_ | refine fun (nb : Nat) => (?_ : WL _ _ _ _ _ _ _ _ _) | (refine WL.guard rfl rfl rfl (fun h => ?_) (fun h => ?_) <;> (try dsimp only at h))))
  ((refine seE ?_); refine ⟨[], Keep.nil, ?_⟩)
  exact ⟨by rw [hi], rfl⟩
theorem needsE_any (t : TaskV) (d : Int) (F : Hp) (h0 : RowAt F [] t.devs.A (t.devs.xs.flatMap encI)) (hf : t.devs.xs.length * 8 ≤ 140737488355328) : Spec Tryz.prog 218 [.agg t.enc.toArray, .int .i64 d] F [] fun v hs => v = .bool (needsP t.pl d) ∧ hs = [] := by
  refine Spec.enter Tryz.func218 rfl Tryz.ntmps218 rfl fun B => ?_
  repeat' (first | ((refine WL.ex rfl (WO.callN Tryz.func255 rfl (by kernel_rfl) rfl (by (exact tsA)) (fun G hG hh => containsE_any _ _ t.devs.xs d G (h0.up hG (by simp)) hf) ?_); rintro v own' ⟨rfl, rfl⟩)) | (first | refine soA ?_ | refine sgA ?_ | refine sxA ?_ | refine sbA ?_ | refine fun (Q : Post) hQ => ?_ | refine fun (nb : Nat) => (?_ : WL _ _ _ _ _ _ _ _ _) | (refine WL.guard rfl rfl rfl (fun h => ?_) (fun h => ?_) <;> (try dsimp only at h))))
  ((refine seE ?_); refine ⟨[], Keep.nil, ?_⟩)
  exact ⟨rfl, rfl⟩
theorem SVok.bare {F : Hp} {p : PlatV} {A1 : Option Addr} {c1 : Nat} {ts : List TaskV} {A2 : Option Addr} {c2 : Nat} {next : List Int} {now : Int} (hp : PlatAt F p) (hc : 0 ≤ p.crit ∧ p.crit < (p.levels.xs.length : Nat)) (hl : p.levels.xs.length ≤ 4) (h1 : TasksX F A1 ts) (h2 : RowAt F [] A2 (next.flatMap encI)) (hn : next.length = ts.length) : SVok F ⟨p, A1, c1, ts, A2, c2, next, none, 0, [], none, 0, [], now⟩ :=
  ⟨hp, hc, hl, h1, h2, hn, RowAt.nil, RowAt.nil, fun h hm => (by cases hm), Nat.zero_le _, Nat.zero_le _⟩
theorem ready_any (p : PlatV) (A1 : Option Addr) (c1 : Nat) (ts : List TaskV) (A2 : Option Addr) (c2 : Nat) (next : List Int) (now : Int) (F : Hp) (hp : PlatAt F p) (hc : 0 ≤ p.crit ∧ p.crit < (p.levels.xs.length : Nat)) (hl : p.levels.xs.length ≤ 4) (h1 : TasksX F A1 ts) (h2 : RowAt F [] A2 (next.flatMap encI)) (hn : next.length = ts.length) : Spec Tryz.prog 248 [.agg p.enc.toArray, .slice A1 ts.length c1, .slice A2 next.length c2, .int .i64 now] F [] fun v hs => v = .int .i64 (readyV p.pl (ts.map TaskV.pl) next now) ∧ hs = [] := by
  refine Spec.enter Tryz.func248 rfl Tryz.ntmps248 rfl fun B => ?_
  have hv := SVok.bare (now := now) (c1 := c1) (c2 := c2) hp hc hl h1 h2 hn
  repeat' (first | ((refine WL.ex rfl (WO.callN Tryz.func273 rfl (by kernel_rfl) rfl (by (exact tsA)) (fun G hG hh => least_any ⟨p, A1, c1, ts, A2, c2, next, none, 0, [], none, 0, [], now⟩ now G (hv.up hG)) ?_); rintro v own' ⟨rfl, rfl⟩)) | ((refine WL.ex rfl (WO.callN Tryz.func276 rfl (by kernel_rfl) rfl (by (exact tsA)) (fun G hG hh => floor_any _ G) ?_); rintro v own' ⟨rfl, rfl⟩)) | ((apply WL.rd; (exact rfl); (exact Rn.addW rfl rfl))) | (first | refine soA ?_ | refine sgA ?_ | refine sxA ?_ | refine sbA ?_ | refine fun (Q : Post) hQ => ?_ | refine fun (nb : Nat) => (?_ : WL _ _ _ _ _ _ _ _ _) | (refine WL.guard rfl rfl rfl (fun h => ?_) (fun h => ?_) <;> (try dsimp only at h))))
  ((refine seE ?_); refine ⟨[], Keep.nil, ?_⟩)
  exact ⟨rfl, rfl⟩
end Go.Proofs.YtflgnpidelkkpaaGreat
namespace Go.Proofs.YtflgnpidelkkpaaGreat
set_option maxRecDepth 8000
set_option maxHeartbeats 1000000
set_option linter.unusedVariables false
set_option linter.unusedSimpArgs false
attribute [local irreducible] W X WL WA WB WG WO Rn Own one splice Arr Spec WQ WH Qn
set_option maxHeartbeats 2000000 in
theorem until_any (A1 : Option Addr) (c1 : Nat) (ts : List TaskV) (A2 : Option Addr) (c2 : Nat) (next : List Int) (A3 : Option Addr) (c3 : Nat) (js : List JobV) (d now : Int) (F : Hp) (h1 : TasksX F A1 ts) (h2 : RowAt F [] A2 (next.flatMap encI)) (hn : next.length = ts.length) (h3 : RowAt F [] A3 (js.flatMap JobV.enc)) (hjf : js.length * 48 ≤ 140737488355328) (hin : ∀ j ∈ js, 0 ≤ j.task ∧ j.task < (ts.length : Nat)) : Spec Tryz.prog 166 [.slice A1 ts.length c1, .slice A2 next.length c2, .slice A3 js.length c3, .int .i64 d, .int .i64 now] F [] fun v hs => v = .int .i64 (untilV (ts.map TaskV.pl) next js d now) ∧ hs = [] := by
  refine Spec.enter Tryz.func166 rfl Tryz.ntmps166 rfl fun B => ?_
  have hfit := h1.at_.fit
  repeat' (first | refine soA ?_ | refine sgA ?_ | refine sxA ?_ | refine sbA ?_ | refine fun (Q : Post) hQ => ?_ | refine fun (nb : Nat) => (?_ : WL _ _ _ _ _ _ _ _ _) | (refine WL.guard rfl rfl rfl (fun h => ?_) (fun h => ?_) <;> (try dsimp only at h)))
  (refine W.loopK (σ := Nat) ⟨fun k => k ≤ ts.length, fun k => [(18, some (.int .i64 (k : Nat))), (17, some (.int .i64 (ts.length : Nat))), (16, some (.slice A1 ts.length c1)), (0, some (.slice A1 ts.length c1)), (1, some (.slice A2 next.length c2)), (2, some (.slice A3 js.length c3)), (3, some (.int .i64 d)), (4, some (.int .i64 now)), (11, some (.int .i64 ((List.range k).foldl (untilT (ts.map TaskV.pl) next d now) 1099511627776)))], fun _ => [], fun k => ts.length - k⟩ 0 (Nat.zero_le _) (by repeat' (first | exact trivial | refine ⟨rfl, ?_⟩)) (by (exact keA)) ?_; intro k hk Q hL; dsimp only at hk ⊢)
  repeat' (first | refine soA ?_ | refine sgA ?_ | refine sxA ?_ | refine sbA ?_ | refine fun (Q : Post) hQ => ?_ | refine fun (nb : Nat) => (?_ : WL _ _ _ _ _ _ _ _ _) | (refine WL.guard rfl rfl rfl (fun h => ?_) (fun h => ?_) <;> (try dsimp only at h)))
  refine W.cond rfl (fun h => ?_) (fun h => ?_)
  · have hlt : k < ts.length := by simpa using h
    obtain ⟨t, ht⟩ : ∃ t, ts[k]? = some t := ⟨_, List.getElem?_eq_getElem (by simpa using hlt)⟩
    have htm : t ∈ ts := List.mem_of_getElem? ht
    have hdv := h1.dev t htm
    have hdf := h1.devF t htm
    obtain ⟨g, o, eA, g1⟩ := h1.at_.row.elem 4 (fun _ => rfl) (by omega) k t ht
    have hst := foldl_range_succ (untilT (ts.map TaskV.pl) next d now) 1099511627776 k
    generalize (List.range k).foldl (untilT (ts.map TaskV.pl) next d now) 1099511627776 = m0 at *
    have hut : untilT (ts.map TaskV.pl) next d now m0 k = if 0 < t.period ∧ needsP t.pl d = true then minV m0 (fromV next k now) else m0 := by unfold untilT; rw [mapT_get ht]; rfl
    rw [hut] at hst
    repeat' (first | ((refine W.region (id := 5) (WL.ofQ ?_))) | ((apply WL.rd; (exact rfl); (exact Rn.indexAddrE k eA rfl rfl (by first | rfl | omega) (by first | assumption | omega)))) | ((apply WL.rd; (exact rfl); (apply Rn.loadS; (exact rfl); (exact (CellsAt.weak g1 (by simp))); (exact rfl)))) | ((apply WH.ex; (exact rfl); (exact rfl); (exact rfl); intro hb; (refine Qn.call Tryz.func218 rfl (by kernel_rfl) rfl (by (exact tsA)) (fun G hG hh => needsE_any t d G (hdv.up hG (by simp)) hdf)))) | (first | refine sqA ?_ | refine soA ?_ | refine sgA ?_ | refine sxA ?_ | refine sbA ?_ | refine suA ?_ | refine fun (Q : Post) hQ => ?_ | refine fun (nb : Nat) => (?_ : WL _ _ _ _ _ _ _ _ _) | (refine WL.guard rfl rfl rfl (fun h => ?_) (fun h => ?_) <;> (try dsimp only at h)) | (refine WQ.guard rfl rfl rfl (fun h => ?_) (fun h => ?_) <;> (try dsimp only at h))))
    refine W.cond rfl (fun h4 => ?_) (fun h4 => ?_)
    · have h4' : 0 < t.period ∧ needsP t.pl d = true := by simpa using h4
      rw [if_pos h4'] at hst
      obtain ⟨x, hx⟩ : ∃ x, next[k]? = some x := ⟨_, List.getElem?_eq_getElem (by omega)⟩
      obtain ⟨g2, o2, eA2, g3⟩ := ints_cell h2 hx
      have hfr : fromV next k now = maxV now x := by rw [fromV, List.getD_eq_getElem?_getD, hx]; rfl
      rw [hfr] at hst
      repeat' (first | ((apply WL.rd; (exact rfl); (exact Rn.indexAddrE k eA2 rfl rfl (by first | rfl | omega) (by first | assumption | omega)))) | ((apply WL.rd; (exact rfl); (apply Rn.load; (exact rfl); (exact (CellsAt.weak g3 (by simp)) 0 _ rfl)))) | (first | refine soA ?_ | refine sgA ?_ | refine sxA ?_ | refine sbA ?_ | refine fun (Q : Post) hQ => ?_ | refine fun (nb : Nat) => (?_ : WL _ _ _ _ _ _ _ _ _) | (refine WL.guard rfl rfl rfl (fun h => ?_) (fun h => ?_) <;> (try dsimp only at h))))
      exact hL.nx (k + 1) _ _ (by dsimp only; omega) (by dsimp only; omega) (by repeat' (first | exact trivial | refine ⟨by rw [hst]; rfl, ?_⟩ | refine ⟨rfl, ?_⟩)) (by (exact keA))
    · have h4' : ¬ (0 < t.period ∧ needsP t.pl d = true) := by simpa using h4
      rw [if_neg h4'] at hst
      repeat' (first | refine soA ?_ | refine sgA ?_ | refine sxA ?_ | refine sbA ?_ | refine fun (Q : Post) hQ => ?_ | refine fun (nb : Nat) => (?_ : WL _ _ _ _ _ _ _ _ _) | (refine WL.guard rfl rfl rfl (fun h => ?_) (fun h => ?_) <;> (try dsimp only at h)))
      exact hL.nx (k + 1) _ _ (by dsimp only; omega) (by dsimp only; omega) (by repeat' (first | exact trivial | refine ⟨by rw [hst]; rfl, ?_⟩ | refine ⟨rfl, ?_⟩)) (by (exact keA))
  · obtain rfl : k = ts.length := by simp at h; omega
    generalize hw0 : (List.range ts.length).foldl (untilT (ts.map TaskV.pl) next d now) 1099511627776 = w0
    repeat' (first | refine soA ?_ | refine sgA ?_ | refine sxA ?_ | refine sbA ?_ | refine fun (Q : Post) hQ => ?_ | refine fun (nb : Nat) => (?_ : WL _ _ _ _ _ _ _ _ _) | (refine WL.guard rfl rfl rfl (fun h => ?_) (fun h => ?_) <;> (try dsimp only at h)))
    refine W.loopK (σ := Nat) ⟨fun q => q ≤ js.length ∧ (js.take q).any (needT (ts.map TaskV.pl) d) = false, fun q => [(42, some (.int .i64 (q : Nat))), (41, some (.int .i64 (js.length : Nat))), (40, some (.slice A3 js.length c3)), (0, some (.slice A1 ts.length c1)), (1, some (.slice A2 next.length c2)), (2, some (.slice A3 js.length c3)), (3, some (.int .i64 d)), (4, some (.int .i64 now)), (11, some (.int .i64 w0))], fun _ => [], fun q => js.length - q⟩ 0 ⟨Nat.zero_le _, rfl⟩ (by repeat' (first | exact trivial | refine ⟨rfl, ?_⟩)) (by (exact keA)) ?_
    intro q hq Q2 hL2
    dsimp only at hq ⊢
    obtain ⟨hq, hno⟩ := hq
    repeat' (first | refine soA ?_ | refine sgA ?_ | refine sxA ?_ | refine sbA ?_ | refine fun (Q : Post) hQ => ?_ | refine fun (nb : Nat) => (?_ : WL _ _ _ _ _ _ _ _ _) | (refine WL.guard rfl rfl rfl (fun h => ?_) (fun h => ?_) <;> (try dsimp only at h)))
    refine W.cond rfl (fun h5 => ?_) (fun h5 => ?_)
    · have hlt2 : q < js.length := by simpa using h5
      obtain ⟨j, hj⟩ : ∃ j, js[q]? = some j := ⟨_, List.getElem?_eq_getElem (by simpa using hlt2)⟩
      have hjin := hin j (List.mem_of_getElem? hj)
      obtain ⟨g, o, eA, g1⟩ := h3.elem 6 (fun _ => rfl) (by omega) q j hj
      obtain ⟨m, hm⟩ : ∃ m : Nat, j.task = m := ⟨j.task.toNat, by omega⟩
      have hml : m < ts.length := by omega
      obtain ⟨tm, htm⟩ : ∃ t, ts[m]? = some t := ⟨_, List.getElem?_eq_getElem hml⟩
      obtain ⟨g0, o0, eA0, g01⟩ := h1.at_.row.elem 4 (fun _ => rfl) (by omega) m tm htm
      have hdv := h1.dev tm (List.mem_of_getElem? htm)
      have hdf := h1.devF tm (List.mem_of_getElem? htm)
      have hnt : needT (ts.map TaskV.pl) d j = needsP tm.pl d := by unfold needT; rw [hm, Int.toNat_natCast, mapT_get htm]
      have htk : js.take (q + 1) = js.take q ++ [j] := by rw [List.take_add_one, hj]; rfl
      cases hb : needsP tm.pl d with
      | true =>
        have hany : js.any (needT (ts.map TaskV.pl) d) = true := List.any_eq_true.2 ⟨j, List.mem_of_getElem? hj, by rw [hnt, hb]⟩
        repeat' (first | ((apply WL.rd; (exact rfl); (exact Rn.indexAddrE q eA rfl rfl (by first | rfl | omega) (by first | assumption | omega)))) | ((apply WL.rd; (exact rfl); (apply Rn.loadS; (exact rfl); (exact (CellsAt.weak g1 (by simp))); (exact rfl)))) | ((apply WL.rd; (exact rfl); (exact Rn.indexAddrE m eA0 rfl rfl hm hml))) | ((apply WL.rd; (exact rfl); (apply Rn.loadS; (exact rfl); (exact (CellsAt.weak g01 (by simp))); (exact rfl)))) | ((refine WL.ex rfl (WO.callN Tryz.func218 rfl (by kernel_rfl) rfl (by (exact tsA)) (fun G hG hh => needsE_any tm d G (hdv.up hG (by simp)) hdf) ?_); rintro u own' ⟨rfl, rfl⟩; rw [hb])) | (first | refine soA ?_ | refine sgA ?_ | refine sxA ?_ | refine sbA ?_ | refine fun (Q : Post) hQ => ?_ | refine fun (nb : Nat) => (?_ : WL _ _ _ _ _ _ _ _ _) | (refine WL.guard rfl rfl rfl (fun h => ?_) (fun h => ?_) <;> (try dsimp only at h))))
        ((refine seE ?_); refine ⟨[], Keep.nil, ?_⟩)
        exact ⟨by rw [untilV, if_pos hany], rfl⟩
      | false =>
        repeat' (first | ((apply WL.rd; (exact rfl); (exact Rn.indexAddrE q eA rfl rfl (by first | rfl | omega) (by first | assumption | omega)))) | ((apply WL.rd; (exact rfl); (apply Rn.loadS; (exact rfl); (exact (CellsAt.weak g1 (by simp))); (exact rfl)))) | ((apply WL.rd; (exact rfl); (exact Rn.indexAddrE m eA0 rfl rfl hm hml))) | ((apply WL.rd; (exact rfl); (apply Rn.loadS; (exact rfl); (exact (CellsAt.weak g01 (by simp))); (exact rfl)))) | ((refine WL.ex rfl (WO.callN Tryz.func218 rfl (by kernel_rfl) rfl (by (exact tsA)) (fun G hG hh => needsE_any tm d G (hdv.up hG (by simp)) hdf) ?_); rintro u own' ⟨rfl, rfl⟩; rw [hb])) | (first | refine soA ?_ | refine sgA ?_ | refine sxA ?_ | refine sbA ?_ | refine fun (Q : Post) hQ => ?_ | refine fun (nb : Nat) => (?_ : WL _ _ _ _ _ _ _ _ _) | (refine WL.guard rfl rfl rfl (fun h => ?_) (fun h => ?_) <;> (try dsimp only at h))))
        exact hL2.nx (q + 1) _ _ ⟨by omega, by rw [htk, List.any_append, hno]; simp [hnt, hb]⟩ (by dsimp only; omega) (by repeat' (first | exact trivial | refine ⟨rfl, ?_⟩)) (by (exact keA))
    · obtain rfl : q = js.length := by simp at h5; omega
      rw [List.take_length] at hno
      repeat' (first | refine soA ?_ | refine sgA ?_ | refine sxA ?_ | refine sbA ?_ | refine fun (Q : Post) hQ => ?_ | refine fun (nb : Nat) => (?_ : WL _ _ _ _ _ _ _ _ _) | (refine WL.guard rfl rfl rfl (fun h => ?_) (fun h => ?_) <;> (try dsimp only at h)))
      ((refine seE ?_); refine ⟨[], Keep.nil, ?_⟩)
      exact ⟨by rw [untilV, if_neg (by rw [hno]; decide), List.length_map, hw0], rfl⟩
end Go.Proofs.YtflgnpidelkkpaaGreat
namespace Go.Proofs.YtflgnpidelkkpaaGreat
set_option maxRecDepth 8000
set_option maxHeartbeats 1000000
set_option linter.unusedVariables false
set_option linter.unusedSimpArgs false
def levOf (p : PP) (n : Int) : LevelV := if n < 0 ∨ (p.levels.length : Int) ≤ n then ⟨0, 0⟩ else p.levels.getD n.toNat ⟨0, 0⟩
def slpOf (p : PP) (n : Int) : SleepV := if n < 0 ∨ (p.sleeps.length : Int) ≤ n then ⟨0, 0, 0, 0, 0, 0⟩ else p.sleeps.getD n.toNat ⟨0, 0, 0, 0, 0, 0⟩
def energyV (p : PP) (i : IntervalV) : Int :=
  if i.kind = 1 then w64 (i.cycles * (levOf p i.arg).E)
  else if i.kind = 2 then w64 (i.len * p.idle)
  else if i.kind = 3 then p.switchE
  else if i.kind = 4 then (slpOf p i.arg).enterE
  else if i.kind = 5 then w64 (i.len * (slpOf p i.arg).power)
  else if i.kind = 6 then (slpOf p i.arg).exitE
  else 0
structure MeterV where
  run : Int
  idle : Int
  switch : Int
  sleep : Int
def MeterV.enc (m : MeterV) : List Value := [.int .i64 m.run, .int .i64 m.idle, .int .i64 m.switch, .int .i64 m.sleep]
def meterAdd (p : PP) (m : MeterV) (i : IntervalV) : MeterV :=
  if i.kind = 1 then { m with run := w64 (m.run + energyV p i) }
  else if i.kind = 2 then { m with idle := w64 (m.idle + energyV p i) }
  else if i.kind = 3 then { m with switch := w64 (m.switch + energyV p i) }
  else if i.kind = 4 ∨ i.kind = 5 ∨ i.kind = 6 then { m with sleep := w64 (m.sleep + energyV p i) }
  else m
attribute [local irreducible] W X WL WA WB WG WO Rn Own one splice Arr Spec WQ WH Qn
theorem mlevel_any (p : PlatV) (n : Int) (F : Hp) (hp : PlatAt F p) : Spec Tryz.prog 168 [.agg p.enc.toArray, .int .i64 n] F [] fun v hs => v = .agg (levOf p.pl n).enc.toArray ∧ hs = [] := by
  refine Spec.enter Tryz.func168 rfl Tryz.ntmps168 rfl fun B => ?_
  repeat' (first | refine soA ?_ | refine sgA ?_ | refine sxA ?_ | refine sbA ?_ | refine fun (Q : Post) hQ => ?_ | refine fun (nb : Nat) => (?_ : WL _ _ _ _ _ _ _ _ _) | (refine WL.guard rfl rfl rfl (fun h => ?_) (fun h => ?_) <;> (try dsimp only at h)))
  refine W.cond rfl (fun h => ?_) (fun h => ?_)
  · have h' : n < 0 ∨ (p.pl.levels.length : Int) ≤ n := by simpa [PlatV.pl] using h
    repeat' (first | refine soA ?_ | refine sgA ?_ | refine sxA ?_ | refine sbA ?_ | refine fun (Q : Post) hQ => ?_ | refine fun (nb : Nat) => (?_ : WL _ _ _ _ _ _ _ _ _) | (refine WL.guard rfl rfl rfl (fun h => ?_) (fun h => ?_) <;> (try dsimp only at h)))
    ((refine seE ?_); refine ⟨[], Keep.nil, ?_⟩)
    exact ⟨by rw [levOf, if_pos h']; rfl, rfl⟩
  · have h' : ¬ (n < 0 ∨ (p.pl.levels.length : Int) ≤ n) := by simpa [PlatV.pl] using h
    have h2 : ¬ (n < 0 ∨ (p.levels.xs.length : Int) ≤ n) := h'
    obtain ⟨m, rfl⟩ : ∃ m : Nat, n = m := ⟨n.toNat, by omega⟩
    have hlt : m < p.levels.xs.length := by omega
    obtain ⟨l, hl⟩ : ∃ l, p.levels.xs[m]? = some l := ⟨_, List.getElem?_eq_getElem (by simpa using hlt)⟩
    obtain ⟨g, o, eA, g1⟩ := hp.levels.elem 2 (fun _ => rfl) (by omega) m l hl
    have hv : levOf p.pl (m : Int) = l := by rw [levOf, if_neg h', Int.toNat_natCast, List.getD_eq_getElem?_getD, show p.pl.levels[m]? = some l from hl]; rfl
    repeat' (first | ((apply WL.rd; (exact rfl); (exact Rn.indexAddrE m eA rfl rfl (by first | rfl | omega) (by first | assumption | omega)))) | ((apply WL.rd; (exact rfl); (apply Rn.loadS; (exact rfl); (exact (CellsAt.weak g1 (by simp))); (exact rfl)))) | (first | refine soA ?_ | refine sgA ?_ | refine sxA ?_ | refine sbA ?_ | refine fun (Q : Post) hQ => ?_ | refine fun (nb : Nat) => (?_ : WL _ _ _ _ _ _ _ _ _) | (refine WL.guard rfl rfl rfl (fun h => ?_) (fun h => ?_) <;> (try dsimp only at h))))
    ((refine seE ?_); refine ⟨[], Keep.nil, ?_⟩)
    exact ⟨by rw [hv]; try rfl, rfl⟩
theorem msleep_any (p : PlatV) (n : Int) (F : Hp) (hp : PlatAt F p) : Spec Tryz.prog 169 [.agg p.enc.toArray, .int .i64 n] F [] fun v hs => v = .agg (slpOf p.pl n).enc.toArray ∧ hs = [] := by
  refine Spec.enter Tryz.func169 rfl Tryz.ntmps169 rfl fun B => ?_
  repeat' (first | refine soA ?_ | refine sgA ?_ | refine sxA ?_ | refine sbA ?_ | refine fun (Q : Post) hQ => ?_ | refine fun (nb : Nat) => (?_ : WL _ _ _ _ _ _ _ _ _) | (refine WL.guard rfl rfl rfl (fun h => ?_) (fun h => ?_) <;> (try dsimp only at h)))
  refine W.cond rfl (fun h => ?_) (fun h => ?_)
  · have h' : n < 0 ∨ (p.pl.sleeps.length : Int) ≤ n := by simpa [PlatV.pl] using h
    repeat' (first | refine soA ?_ | refine sgA ?_ | refine sxA ?_ | refine sbA ?_ | refine fun (Q : Post) hQ => ?_ | refine fun (nb : Nat) => (?_ : WL _ _ _ _ _ _ _ _ _) | (refine WL.guard rfl rfl rfl (fun h => ?_) (fun h => ?_) <;> (try dsimp only at h)))
    ((refine seE ?_); refine ⟨[], Keep.nil, ?_⟩)
    exact ⟨by rw [slpOf, if_pos h']; rfl, rfl⟩
  · have h' : ¬ (n < 0 ∨ (p.pl.sleeps.length : Int) ≤ n) := by simpa [PlatV.pl] using h
    have h2 : ¬ (n < 0 ∨ (p.sleeps.xs.length : Int) ≤ n) := h'
    obtain ⟨m, rfl⟩ : ∃ m : Nat, n = m := ⟨n.toNat, by omega⟩
    have hlt : m < p.sleeps.xs.length := by omega
    obtain ⟨l, hl⟩ : ∃ l, p.sleeps.xs[m]? = some l := ⟨_, List.getElem?_eq_getElem (by simpa using hlt)⟩
    obtain ⟨g, o, eA, g1⟩ := hp.sleeps.elem 6 (fun _ => rfl) (by omega) m l hl
    have hv : slpOf p.pl (m : Int) = l := by rw [slpOf, if_neg h', Int.toNat_natCast, List.getD_eq_getElem?_getD, show p.pl.sleeps[m]? = some l from hl]; rfl
    repeat' (first | ((apply WL.rd; (exact rfl); (exact Rn.indexAddrE m eA rfl rfl (by first | rfl | omega) (by first | assumption | omega)))) | ((apply WL.rd; (exact rfl); (apply Rn.loadS; (exact rfl); (exact (CellsAt.weak g1 (by simp))); (exact rfl)))) | (first | refine soA ?_ | refine sgA ?_ | refine sxA ?_ | refine sbA ?_ | refine fun (Q : Post) hQ => ?_ | refine fun (nb : Nat) => (?_ : WL _ _ _ _ _ _ _ _ _) | (refine WL.guard rfl rfl rfl (fun h => ?_) (fun h => ?_) <;> (try dsimp only at h))))
    ((refine seE ?_); refine ⟨[], Keep.nil, ?_⟩)
    exact ⟨by rw [hv]; try rfl, rfl⟩
set_option maxHeartbeats 8000000 in
theorem of_any (p : PlatV) (i : IntervalV) (F : Hp) (hp : PlatAt F p) : Spec Tryz.prog 109 [.agg p.enc.toArray, .agg i.enc.toArray] F [] fun v hs => v = .int .i64 (energyV p.pl i) ∧ hs = [] := by
  refine Spec.enter Tryz.func109 rfl Tryz.ntmps109 rfl fun B => ?_
  by_cases k1 : i.kind = 1
  · have hv : energyV p.pl i = w64 (i.cycles * (levOf p.pl i.arg).E) := by rw [energyV, if_pos k1]
    repeat' (first | ((apply WL.rd; (exact rfl); (exact ckA))) | ((apply WQ.rd; (exact rfl); (refine Qn.call Tryz.func168 rfl (by kernel_rfl) rfl (by (exact tsA)) (fun G hG hh => mlevel_any p i.arg G (hp.up hG))))) | ((apply WQ.rd; (exact rfl); (refine Qn.call Tryz.func169 rfl (by kernel_rfl) rfl (by (exact tsA)) (fun G hG hh => msleep_any p i.arg G (hp.up hG))))) | ((refine WL.ex rfl (WO.callN Tryz.func169 rfl (by kernel_rfl) rfl (by (exact tsA)) (fun G hG hh => msleep_any p i.arg G (hp.up hG)) ?_); rintro v own' ⟨rfl, rfl⟩)) | ((apply WQ.rd; (exact rfl); apply Rn.q; (exact Rn.field rfl rfl))) | ((apply WL.rd; (exact rfl); (exact Rn.field rfl rfl))) | (first | refine sqA ?_ | refine soA ?_ | refine sgA ?_ | refine sxA ?_ | refine sbA ?_ | refine suA ?_ | refine fun (Q : Post) hQ => ?_ | refine fun (nb : Nat) => (?_ : WL _ _ _ _ _ _ _ _ _) | (refine WL.guard rfl rfl rfl (fun h => ?_) (fun h => ?_) <;> (try dsimp only at h)) | (refine WQ.guard rfl rfl rfl (fun h => ?_) (fun h => ?_) <;> (try dsimp only at h))))
    ((refine seE ?_); refine ⟨[], Keep.nil, ?_⟩)
    exact ⟨by rw [hv]; try rfl, rfl⟩
  by_cases k2 : i.kind = 2
  · have hv : energyV p.pl i = w64 (i.len * p.pl.idle) := by rw [energyV, if_neg k1, if_pos k2]
    repeat' (first | ((apply WL.rd; (exact rfl); (exact ckA))) | ((apply WQ.rd; (exact rfl); (refine Qn.call Tryz.func168 rfl (by kernel_rfl) rfl (by (exact tsA)) (fun G hG hh => mlevel_any p i.arg G (hp.up hG))))) | ((apply WQ.rd; (exact rfl); (refine Qn.call Tryz.func169 rfl (by kernel_rfl) rfl (by (exact tsA)) (fun G hG hh => msleep_any p i.arg G (hp.up hG))))) | ((refine WL.ex rfl (WO.callN Tryz.func169 rfl (by kernel_rfl) rfl (by (exact tsA)) (fun G hG hh => msleep_any p i.arg G (hp.up hG)) ?_); rintro v own' ⟨rfl, rfl⟩)) | ((apply WQ.rd; (exact rfl); apply Rn.q; (exact Rn.field rfl rfl))) | ((apply WL.rd; (exact rfl); (exact Rn.field rfl rfl))) | (first | refine sqA ?_ | refine soA ?_ | refine sgA ?_ | refine sxA ?_ | refine sbA ?_ | refine suA ?_ | refine fun (Q : Post) hQ => ?_ | refine fun (nb : Nat) => (?_ : WL _ _ _ _ _ _ _ _ _) | (refine WL.guard rfl rfl rfl (fun h => ?_) (fun h => ?_) <;> (try dsimp only at h)) | (refine WQ.guard rfl rfl rfl (fun h => ?_) (fun h => ?_) <;> (try dsimp only at h))))
    ((refine seE ?_); refine ⟨[], Keep.nil, ?_⟩)
    exact ⟨by rw [hv]; try rfl, rfl⟩
  by_cases k3 : i.kind = 3
  · have hv : energyV p.pl i = p.pl.switchE := by rw [energyV, if_neg k1, if_neg k2, if_pos k3]
    repeat' (first | ((apply WL.rd; (exact rfl); (exact ckA))) | ((apply WQ.rd; (exact rfl); (refine Qn.call Tryz.func168 rfl (by kernel_rfl) rfl (by (exact tsA)) (fun G hG hh => mlevel_any p i.arg G (hp.up hG))))) | ((apply WQ.rd; (exact rfl); (refine Qn.call Tryz.func169 rfl (by kernel_rfl) rfl (by (exact tsA)) (fun G hG hh => msleep_any p i.arg G (hp.up hG))))) | ((refine WL.ex rfl (WO.callN Tryz.func169 rfl (by kernel_rfl) rfl (by (exact tsA)) (fun G hG hh => msleep_any p i.arg G (hp.up hG)) ?_); rintro v own' ⟨rfl, rfl⟩)) | ((apply WQ.rd; (exact rfl); apply Rn.q; (exact Rn.field rfl rfl))) | ((apply WL.rd; (exact rfl); (exact Rn.field rfl rfl))) | (first | refine sqA ?_ | refine soA ?_ | refine sgA ?_ | refine sxA ?_ | refine sbA ?_ | refine suA ?_ | refine fun (Q : Post) hQ => ?_ | refine fun (nb : Nat) => (?_ : WL _ _ _ _ _ _ _ _ _) | (refine WL.guard rfl rfl rfl (fun h => ?_) (fun h => ?_) <;> (try dsimp only at h)) | (refine WQ.guard rfl rfl rfl (fun h => ?_) (fun h => ?_) <;> (try dsimp only at h))))
    ((refine seE ?_); refine ⟨[], Keep.nil, ?_⟩)
    exact ⟨by rw [hv]; try rfl, rfl⟩
  by_cases k4 : i.kind = 4
  · have hv : energyV p.pl i = (slpOf p.pl i.arg).enterE := by rw [energyV, if_neg k1, if_neg k2, if_neg k3, if_pos k4]
    repeat' (first | ((apply WL.rd; (exact rfl); (exact ckA))) | ((apply WQ.rd; (exact rfl); (refine Qn.call Tryz.func168 rfl (by kernel_rfl) rfl (by (exact tsA)) (fun G hG hh => mlevel_any p i.arg G (hp.up hG))))) | ((apply WQ.rd; (exact rfl); (refine Qn.call Tryz.func169 rfl (by kernel_rfl) rfl (by (exact tsA)) (fun G hG hh => msleep_any p i.arg G (hp.up hG))))) | ((refine WL.ex rfl (WO.callN Tryz.func169 rfl (by kernel_rfl) rfl (by (exact tsA)) (fun G hG hh => msleep_any p i.arg G (hp.up hG)) ?_); rintro v own' ⟨rfl, rfl⟩)) | ((apply WQ.rd; (exact rfl); apply Rn.q; (exact Rn.field rfl rfl))) | ((apply WL.rd; (exact rfl); (exact Rn.field rfl rfl))) | (first | refine sqA ?_ | refine soA ?_ | refine sgA ?_ | refine sxA ?_ | refine sbA ?_ | refine suA ?_ | refine fun (Q : Post) hQ => ?_ | refine fun (nb : Nat) => (?_ : WL _ _ _ _ _ _ _ _ _) | (refine WL.guard rfl rfl rfl (fun h => ?_) (fun h => ?_) <;> (try dsimp only at h)) | (refine WQ.guard rfl rfl rfl (fun h => ?_) (fun h => ?_) <;> (try dsimp only at h))))
    ((refine seE ?_); refine ⟨[], Keep.nil, ?_⟩)
    exact ⟨by rw [hv]; try rfl, rfl⟩
  by_cases k5 : i.kind = 5
  · have hv : energyV p.pl i = w64 (i.len * (slpOf p.pl i.arg).power) := by rw [energyV, if_neg k1, if_neg k2, if_neg k3, if_neg k4, if_pos k5]
    repeat' (first | ((apply WL.rd; (exact rfl); (exact ckA))) | ((apply WQ.rd; (exact rfl); (refine Qn.call Tryz.func168 rfl (by kernel_rfl) rfl (by (exact tsA)) (fun G hG hh => mlevel_any p i.arg G (hp.up hG))))) | ((apply WQ.rd; (exact rfl); (refine Qn.call Tryz.func169 rfl (by kernel_rfl) rfl (by (exact tsA)) (fun G hG hh => msleep_any p i.arg G (hp.up hG))))) | ((refine WL.ex rfl (WO.callN Tryz.func169 rfl (by kernel_rfl) rfl (by (exact tsA)) (fun G hG hh => msleep_any p i.arg G (hp.up hG)) ?_); rintro v own' ⟨rfl, rfl⟩)) | ((apply WQ.rd; (exact rfl); apply Rn.q; (exact Rn.field rfl rfl))) | ((apply WL.rd; (exact rfl); (exact Rn.field rfl rfl))) | (first | refine sqA ?_ | refine soA ?_ | refine sgA ?_ | refine sxA ?_ | refine sbA ?_ | refine suA ?_ | refine fun (Q : Post) hQ => ?_ | refine fun (nb : Nat) => (?_ : WL _ _ _ _ _ _ _ _ _) | (refine WL.guard rfl rfl rfl (fun h => ?_) (fun h => ?_) <;> (try dsimp only at h)) | (refine WQ.guard rfl rfl rfl (fun h => ?_) (fun h => ?_) <;> (try dsimp only at h))))
    ((refine seE ?_); refine ⟨[], Keep.nil, ?_⟩)
    exact ⟨by rw [hv]; try rfl, rfl⟩
  by_cases k6 : i.kind = 6
  · have hv : energyV p.pl i = (slpOf p.pl i.arg).exitE := by rw [energyV, if_neg k1, if_neg k2, if_neg k3, if_neg k4, if_neg k5, if_pos k6]
    repeat' (first | ((apply WL.rd; (exact rfl); (exact ckA))) | ((apply WQ.rd; (exact rfl); (refine Qn.call Tryz.func168 rfl (by kernel_rfl) rfl (by (exact tsA)) (fun G hG hh => mlevel_any p i.arg G (hp.up hG))))) | ((apply WQ.rd; (exact rfl); (refine Qn.call Tryz.func169 rfl (by kernel_rfl) rfl (by (exact tsA)) (fun G hG hh => msleep_any p i.arg G (hp.up hG))))) | ((refine WL.ex rfl (WO.callN Tryz.func169 rfl (by kernel_rfl) rfl (by (exact tsA)) (fun G hG hh => msleep_any p i.arg G (hp.up hG)) ?_); rintro v own' ⟨rfl, rfl⟩)) | ((apply WQ.rd; (exact rfl); apply Rn.q; (exact Rn.field rfl rfl))) | ((apply WL.rd; (exact rfl); (exact Rn.field rfl rfl))) | (first | refine sqA ?_ | refine soA ?_ | refine sgA ?_ | refine sxA ?_ | refine sbA ?_ | refine suA ?_ | refine fun (Q : Post) hQ => ?_ | refine fun (nb : Nat) => (?_ : WL _ _ _ _ _ _ _ _ _) | (refine WL.guard rfl rfl rfl (fun h => ?_) (fun h => ?_) <;> (try dsimp only at h)) | (refine WQ.guard rfl rfl rfl (fun h => ?_) (fun h => ?_) <;> (try dsimp only at h))))
    ((refine seE ?_); refine ⟨[], Keep.nil, ?_⟩)
    exact ⟨by rw [hv]; try rfl, rfl⟩
  have hv : energyV p.pl i = 0 := by rw [energyV, if_neg k1, if_neg k2, if_neg k3, if_neg k4, if_neg k5, if_neg k6]
  repeat' (first | ((apply WL.rd; (exact rfl); (exact ckA))) | ((apply WQ.rd; (exact rfl); (refine Qn.call Tryz.func168 rfl (by kernel_rfl) rfl (by (exact tsA)) (fun G hG hh => mlevel_any p i.arg G (hp.up hG))))) | ((apply WQ.rd; (exact rfl); (refine Qn.call Tryz.func169 rfl (by kernel_rfl) rfl (by (exact tsA)) (fun G hG hh => msleep_any p i.arg G (hp.up hG))))) | ((refine WL.ex rfl (WO.callN Tryz.func169 rfl (by kernel_rfl) rfl (by (exact tsA)) (fun G hG hh => msleep_any p i.arg G (hp.up hG)) ?_); rintro v own' ⟨rfl, rfl⟩)) | ((apply WQ.rd; (exact rfl); apply Rn.q; (exact Rn.field rfl rfl))) | ((apply WL.rd; (exact rfl); (exact Rn.field rfl rfl))) | (first | refine sqA ?_ | refine soA ?_ | refine sgA ?_ | refine sxA ?_ | refine sbA ?_ | refine suA ?_ | refine fun (Q : Post) hQ => ?_ | refine fun (nb : Nat) => (?_ : WL _ _ _ _ _ _ _ _ _) | (refine WL.guard rfl rfl rfl (fun h => ?_) (fun h => ?_) <;> (try dsimp only at h)) | (refine WQ.guard rfl rfl rfl (fun h => ?_) (fun h => ?_) <;> (try dsimp only at h))))
  ((refine seE ?_); refine ⟨[], Keep.nil, ?_⟩)
  exact ⟨by rw [hv]; try rfl, rfl⟩
set_option maxHeartbeats 8000000 in
theorem madd_any (p : PlatV) (m : MeterV) (i : IntervalV) (F : Hp) (hp : PlatAt F p) : Spec Tryz.prog 61 [.agg m.enc.toArray, .agg p.enc.toArray, .agg i.enc.toArray] F [] fun v hs => v = .agg (meterAdd p.pl m i).enc.toArray ∧ hs = [] := by
  refine Spec.enter Tryz.func61 rfl Tryz.ntmps61 rfl fun B => ?_
  by_cases k1 : i.kind = 1
  · have hv : meterAdd p.pl m i = { m with run := w64 (m.run + energyV p.pl i) } := by rw [meterAdd, if_pos k1]
    repeat' (first | ((apply WL.rd; (exact rfl); (exact ckA))) | ((refine WL.ex rfl (WO.callN Tryz.func109 rfl (by kernel_rfl) rfl (by (exact tsA)) (fun G hG hh => of_any p i G (hp.up hG)) ?_); rintro v own' ⟨rfl, rfl⟩)) | (first | refine soA ?_ | refine sgA ?_ | refine sxA ?_ | refine sbA ?_ | refine fun (Q : Post) hQ => ?_ | refine fun (nb : Nat) => (?_ : WL _ _ _ _ _ _ _ _ _) | (refine WL.guard rfl rfl rfl (fun h => ?_) (fun h => ?_) <;> (try dsimp only at h))))
    ((refine seE ?_); refine ⟨[], Keep.nil, ?_⟩)
    exact ⟨by rw [hv]; try rfl, rfl⟩
  by_cases k2 : i.kind = 2
  · have hv : meterAdd p.pl m i = { m with idle := w64 (m.idle + energyV p.pl i) } := by rw [meterAdd, if_neg k1, if_pos k2]
    repeat' (first | ((apply WL.rd; (exact rfl); (exact ckA))) | ((refine WL.ex rfl (WO.callN Tryz.func109 rfl (by kernel_rfl) rfl (by (exact tsA)) (fun G hG hh => of_any p i G (hp.up hG)) ?_); rintro v own' ⟨rfl, rfl⟩)) | (first | refine soA ?_ | refine sgA ?_ | refine sxA ?_ | refine sbA ?_ | refine fun (Q : Post) hQ => ?_ | refine fun (nb : Nat) => (?_ : WL _ _ _ _ _ _ _ _ _) | (refine WL.guard rfl rfl rfl (fun h => ?_) (fun h => ?_) <;> (try dsimp only at h))))
    ((refine seE ?_); refine ⟨[], Keep.nil, ?_⟩)
    exact ⟨by rw [hv]; try rfl, rfl⟩
  by_cases k3 : i.kind = 3
  · have hv : meterAdd p.pl m i = { m with switch := w64 (m.switch + energyV p.pl i) } := by rw [meterAdd, if_neg k1, if_neg k2, if_pos k3]
    repeat' (first | ((apply WL.rd; (exact rfl); (exact ckA))) | ((refine WL.ex rfl (WO.callN Tryz.func109 rfl (by kernel_rfl) rfl (by (exact tsA)) (fun G hG hh => of_any p i G (hp.up hG)) ?_); rintro v own' ⟨rfl, rfl⟩)) | (first | refine soA ?_ | refine sgA ?_ | refine sxA ?_ | refine sbA ?_ | refine fun (Q : Post) hQ => ?_ | refine fun (nb : Nat) => (?_ : WL _ _ _ _ _ _ _ _ _) | (refine WL.guard rfl rfl rfl (fun h => ?_) (fun h => ?_) <;> (try dsimp only at h))))
    ((refine seE ?_); refine ⟨[], Keep.nil, ?_⟩)
    exact ⟨by rw [hv]; try rfl, rfl⟩
  by_cases k4 : i.kind = 4
  · have hv : meterAdd p.pl m i = { m with sleep := w64 (m.sleep + energyV p.pl i) } := by rw [meterAdd, if_neg k1, if_neg k2, if_neg k3, if_pos (by omega)]
    repeat' (first | ((apply WL.rd; (exact rfl); (exact ckA))) | ((refine WL.ex rfl (WO.callN Tryz.func109 rfl (by kernel_rfl) rfl (by (exact tsA)) (fun G hG hh => of_any p i G (hp.up hG)) ?_); rintro v own' ⟨rfl, rfl⟩)) | (first | refine soA ?_ | refine sgA ?_ | refine sxA ?_ | refine sbA ?_ | refine fun (Q : Post) hQ => ?_ | refine fun (nb : Nat) => (?_ : WL _ _ _ _ _ _ _ _ _) | (refine WL.guard rfl rfl rfl (fun h => ?_) (fun h => ?_) <;> (try dsimp only at h))))
    ((refine seE ?_); refine ⟨[], Keep.nil, ?_⟩)
    exact ⟨by rw [hv]; try rfl, rfl⟩
  by_cases k5 : i.kind = 5
  · have hv : meterAdd p.pl m i = { m with sleep := w64 (m.sleep + energyV p.pl i) } := by rw [meterAdd, if_neg k1, if_neg k2, if_neg k3, if_pos (by omega)]
    repeat' (first | ((apply WL.rd; (exact rfl); (exact ckA))) | ((refine WL.ex rfl (WO.callN Tryz.func109 rfl (by kernel_rfl) rfl (by (exact tsA)) (fun G hG hh => of_any p i G (hp.up hG)) ?_); rintro v own' ⟨rfl, rfl⟩)) | (first | refine soA ?_ | refine sgA ?_ | refine sxA ?_ | refine sbA ?_ | refine fun (Q : Post) hQ => ?_ | refine fun (nb : Nat) => (?_ : WL _ _ _ _ _ _ _ _ _) | (refine WL.guard rfl rfl rfl (fun h => ?_) (fun h => ?_) <;> (try dsimp only at h))))
    ((refine seE ?_); refine ⟨[], Keep.nil, ?_⟩)
    exact ⟨by rw [hv]; try rfl, rfl⟩
  by_cases k6 : i.kind = 6
  · have hv : meterAdd p.pl m i = { m with sleep := w64 (m.sleep + energyV p.pl i) } := by rw [meterAdd, if_neg k1, if_neg k2, if_neg k3, if_pos (by omega)]
    repeat' (first | ((apply WL.rd; (exact rfl); (exact ckA))) | ((refine WL.ex rfl (WO.callN Tryz.func109 rfl (by kernel_rfl) rfl (by (exact tsA)) (fun G hG hh => of_any p i G (hp.up hG)) ?_); rintro v own' ⟨rfl, rfl⟩)) | (first | refine soA ?_ | refine sgA ?_ | refine sxA ?_ | refine sbA ?_ | refine fun (Q : Post) hQ => ?_ | refine fun (nb : Nat) => (?_ : WL _ _ _ _ _ _ _ _ _) | (refine WL.guard rfl rfl rfl (fun h => ?_) (fun h => ?_) <;> (try dsimp only at h))))
    ((refine seE ?_); refine ⟨[], Keep.nil, ?_⟩)
    exact ⟨by rw [hv]; try rfl, rfl⟩
  have hv : meterAdd p.pl m i = m := by rw [meterAdd, if_neg k1, if_neg k2, if_neg k3, if_neg (by omega)]
  repeat' (first | ((apply WL.rd; (exact rfl); (exact ckA))) | ((refine WL.ex rfl (WO.callN Tryz.func109 rfl (by kernel_rfl) rfl (by (exact tsA)) (fun G hG hh => of_any p i G (hp.up hG)) ?_); rintro v own' ⟨rfl, rfl⟩)) | (first | refine soA ?_ | refine sgA ?_ | refine sxA ?_ | refine sbA ?_ | refine fun (Q : Post) hQ => ?_ | refine fun (nb : Nat) => (?_ : WL _ _ _ _ _ _ _ _ _) | (refine WL.guard rfl rfl rfl (fun h => ?_) (fun h => ?_) <;> (try dsimp only at h))))
  ((refine seE ?_); refine ⟨[], Keep.nil, ?_⟩)
  exact ⟨by rw [hv]; try rfl, rfl⟩
end Go.Proofs.YtflgnpidelkkpaaGreat
