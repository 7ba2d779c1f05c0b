/- part 34 of the proof: contracts of the functions that the law reaches, and plain laws. -/
import Derived.Test.YtflgnpidelkkpaaGreatMq7
import Derived.Test.YtflgnpidelkkpaaGreatMq25
import Derived.Test.YtflgnpidelkkpaaGreatMq33
import Derived.Test.YtflgnpidelkkpaaGreatMq32
namespace Go.Proofs.YtflgnpidelkkpaaGreat
set_option maxRecDepth 8000
set_option maxHeartbeats 1000000
set_option linter.unusedVariables false
set_option linter.unusedSimpArgs false
theorem idxF_any {α : Type} (p : α → Bool) (xs : List α) : decide (0 ≤ idxF p xs) = xs.any p := by
  unfold idxF
  cases h : xs.findIdx? p with
  | none =>
    have : ∀ x ∈ xs, p x = false := by simpa [List.findIdx?_eq_none_iff] using h
    rw [List.any_eq_false.2 (fun x hx => by rw [this x hx]; decide)]
    rfl
  | some i =>
    obtain ⟨hlt, hp, _⟩ := List.findIdx?_eq_some_iff_getElem.1 h
    rw [List.any_eq_true.2 ⟨xs[i], List.getElem_mem hlt, hp⟩]
    exact decide_eq_true (by dsimp only; omega)
theorem getD_cell {l : List Int} {k : Nat} {d : Int} (h : l[k]? = some d) : l.getD k 0 = d := by rw [List.getD_eq_getElem?_getD, h]; rfl
theorem all_range_succ (f : Nat → Bool) (k : Nat) : (List.range (k + 1)).all f = ((List.range k).all f && f k) := by rw [List.range_succ, List.all_append]; simp
theorem all_take_succ {l : List Int} {k : Nat} {d : Int} (h : l[k]? = some d) (f : Int → Bool) : (l.take (k + 1)).all f = ((l.take k).all f && f d) := by rw [List.take_add_one, h, List.all_append]; simp
theorem all_range_no {f : Nat → Bool} {k n : Nat} (hk : k < n) (h : f k = false) : (List.range n).all f = false := by
  rw [List.all_eq_false]; exact ⟨k, List.mem_range.2 hk, by rw [h]; decide⟩
theorem all_no {l : List Int} {k : Nat} {d : Int} (h : l[k]? = some d) {f : Int → Bool} (hf : f d = false) : l.all f = false := by
  rw [List.all_eq_false]; exact ⟨d, List.mem_of_getElem? h, by rw [hf]; decide⟩
def oddB (cy x : Int) : Bool := decide (x < 0) || decide (cy < x)
theorem oddB_not (cy x : Int) : (!oddB cy x) = decide (0 ≤ x ∧ x ≤ cy) := by
  unfold oddB; rw [Bool.eq_iff_iff]; simp
theorem odd_all (cy : Int) (l : List Int) : (!l.any (oddB cy)) = l.all fun x => decide (0 ≤ x ∧ x ≤ cy) := by
  rw [List.not_any_eq_all_not]; congr 1; funext x; exact oddB_not cy x
attribute [local irreducible] W X WL WA WB WG WO Rn Own one splice Arr Spec WQ WH Qn
theorem containsI_any {f : FuncId} {fn : Func} {cd : Code} (hf : Tryz.prog.funcs[f]? = some fn) (hb : fn.body = some cd) (hnm : (fn.name == "runtime.NumGoroutine") = false) (cap : List Value) (p : Int → Bool) (A0 : Option Addr) (c0 : Nat) (xs : List Int) (F : Hp) (h0 : RowAt F [] A0 (xs.flatMap encI)) (hfit : xs.length * 8 ≤ 140737488355328)
    (hp : ∀ G, F.le G → ∀ x : Int, Spec Tryz.prog f (.int .i64 x :: cap) G [] fun v hs => v = .bool (p x) ∧ hs = []) :
    Spec Tryz.prog 196 [.slice A0 xs.length c0, .func (.func f) #[] cap.toArray] F [] fun v hs => v = .bool (xs.any p) ∧ hs = [] := by
  refine Spec.enter Tryz.func196 rfl Tryz.ntmps196 rfl fun B => ?_
  repeat' (first | ((refine WL.ex rfl (WO.callN Tryz.func239 rfl (by kernel_rfl) rfl (by (exact tsA)) (fun G hG hh => indexI_any hf hb hnm cap p A0 c0 xs G (h0.up hG (by simp)) hfit (fun G' g' x => hp G' (hG.trans g') x)) ?_); rintro v own' ⟨rfl, rfl⟩)) | (first | refine soA ?_ | refine sgA ?_ | refine sxA ?_ | refine sbA ?_ | refine fun (Q : Post) hQ => ?_ | refine fun (nb : Nat) => (?_ : WL _ _ _ _ _ _ _ _ _) | (refine WL.guard rfl rfl rfl (fun h => ?_) (fun h => ?_) <;> (try dsimp only at h))))
  ((refine seE ?_); refine ⟨[], Keep.nil, ?_⟩)
  exact ⟨by rw [← idxF_any], rfl⟩
theorem odd_any (x : Int) (nb : Nat) (t : TaskV) (F : Hp) (h : F.get nb = some (cells t.enc 33)) : Spec Tryz.prog 195 [.int .i64 x, .pointer (some ⟨nb, 0, none⟩)] F [] fun v hs => v = .bool (oddB t.cycles x) ∧ hs = [] := by
  refine Spec.enter Tryz.func195 rfl Tryz.ntmps195 rfl fun B => ?_
  repeat' (first | refine soA ?_ | refine sgA ?_ | refine sxA ?_ | refine sbA ?_ | refine fun (Q : Post) hQ => ?_ | refine fun (nb : Nat) => (?_ : WL _ _ _ _ _ _ _ _ _) | (refine WL.guard rfl rfl rfl (fun h => ?_) (fun h => ?_) <;> (try dsimp only at h)))
  ((refine seE ?_); refine ⟨[], Keep.nil, ?_⟩)
  exact ⟨rfl, rfl⟩
set_option maxHeartbeats 4000000 in
theorem tdevs_any (p : PlatV) (A0 : Option Addr) (c0 : Nat) (l : List Int) (F : Hp) (h0 : RowAt F [] A0 (l.flatMap encI)) (hf : l.length * 8 ≤ 140737488355328) : Spec Tryz.prog 197 [.agg p.enc.toArray, .slice A0 l.length c0] F [] fun v hs => v = .bool (risB p.devices.xs.length l) ∧ hs = [] := by
  refine Spec.enter Tryz.func197 rfl Tryz.ntmps197 rfl fun B => ?_
  repeat' (first | refine soA ?_ | refine sgA ?_ | refine sxA ?_ | refine sbA ?_ | refine fun (Q : Post) hQ => ?_ | refine fun (nb : Nat) => (?_ : WL _ _ _ _ _ _ _ _ _) | (refine WL.guard rfl rfl rfl (fun h => ?_) (fun h => ?_) <;> (try dsimp only at h)))
  refine W.loopK (σ := Nat) ⟨fun k => k ≤ l.length ∧ (List.range k).all (okD p.devices.xs.length l) = true, fun k => [(9, some (.int .i64 (k : Nat))), (8, some (.int .i64 (l.length : Nat))), (7, some (.slice A0 l.length c0)), (1, some (.slice A0 l.length c0)), (2, some (.pointer (some ⟨nb, 0, none⟩)))], fun _ => [one nb (cells p.enc 26)], fun k => l.length - k⟩ 0 ⟨Nat.zero_le _, rfl⟩ (by repeat' (first | exact trivial | refine ⟨rfl, ?_⟩)) (by (exact keA)) ?_
  intro k hk Q hL
  obtain ⟨hk, ha⟩ := hk
  dsimp only at hk ha ⊢
  repeat' (first | refine soA ?_ | refine sgA ?_ | refine sxA ?_ | refine sbA ?_ | refine fun (Q : Post) hQ => ?_ | refine fun (nb : Nat) => (?_ : WL _ _ _ _ _ _ _ _ _) | (refine WL.guard rfl rfl rfl (fun h => ?_) (fun h => ?_) <;> (try dsimp only at h)))
  refine W.cond rfl (fun h3 => ?_) (fun h3 => ?_)
  · have hlt : k < l.length := by simpa using h3
    obtain ⟨d, hd⟩ : ∃ d, l[k]? = some d := ⟨_, List.getElem?_eq_getElem (by simpa using hlt)⟩
    obtain ⟨g, o, eA, g1⟩ := ints_cell h0 hd
    have hst := all_range_succ (okD p.devices.xs.length l) k
    rw [ha, Bool.true_and] at hst
    have hok : okD p.devices.xs.length l k = true ↔ (0 ≤ d ∧ d < (p.devices.xs.length : Int) ∧ (k = 0 ∨ l.getD (k - 1) 0 < d)) := by
      unfold okD; rw [getD_cell hd]; simp
    by_cases c1 : d < 0
    · have hno : okD p.devices.xs.length l k = false := by
        cases e : okD p.devices.xs.length l k with
        | false => rfl
        | true => have := hok.1 e; omega
      have e : risB p.devices.xs.length l = false := all_range_no hlt hno
      repeat' (first | ((apply WL.rd; (exact rfl); (exact ckA))) | ((apply WL.rd; (exact rfl); (exact Rn.indexAddrE k eA rfl rfl (by first | rfl | omega) (by first | assumption | omega)))) | ((apply WL.rd; (exact rfl); (apply Rn.load; (exact rfl); (exact (CellsAt.weak g1 (by simp)) 0 _ rfl)))) | (first | refine soA ?_ | refine sgA ?_ | refine sxA ?_ | refine sbA ?_ | refine fun (Q : Post) hQ => ?_ | refine fun (nb : Nat) => (?_ : WL _ _ _ _ _ _ _ _ _) | (refine WL.guard rfl rfl rfl (fun h => ?_) (fun h => ?_) <;> (try dsimp only at h))))
      ((refine seE ?_); refine ⟨[], Keep.nil, ?_⟩)
      exact ⟨by rw [e], rfl⟩
    · by_cases c2 : (p.devices.xs.length : Int) ≤ d
      · have hno : okD p.devices.xs.length l k = false := by
          cases e : okD p.devices.xs.length l k with
          | false => rfl
          | true => have := hok.1 e; omega
        have e : risB p.devices.xs.length l = false := all_range_no hlt hno
        repeat' (first | ((apply WL.rd; (exact rfl); (exact ckA))) | ((apply WL.rd; (exact rfl); (exact Rn.indexAddrE k eA rfl rfl (by first | rfl | omega) (by first | assumption | omega)))) | ((apply WL.rd; (exact rfl); (apply Rn.load; (exact rfl); (exact (CellsAt.weak g1 (by simp)) 0 _ rfl)))) | (first | refine soA ?_ | refine sgA ?_ | refine sxA ?_ | refine sbA ?_ | refine fun (Q : Post) hQ => ?_ | refine fun (nb : Nat) => (?_ : WL _ _ _ _ _ _ _ _ _) | (refine WL.guard rfl rfl rfl (fun h => ?_) (fun h => ?_) <;> (try dsimp only at h))))
        ((refine seE ?_); refine ⟨[], Keep.nil, ?_⟩)
        exact ⟨by rw [e], rfl⟩
      · by_cases c3 : k = 0
        · have hyes : okD p.devices.xs.length l k = true := hok.2 (by omega)
          rw [hyes] at hst
          repeat' (first | ((apply WL.rd; (exact rfl); (exact ckA))) | ((apply WL.rd; (exact rfl); (exact Rn.indexAddrE k eA rfl rfl (by first | rfl | omega) (by first | assumption | omega)))) | ((apply WL.rd; (exact rfl); (apply Rn.load; (exact rfl); (exact (CellsAt.weak g1 (by simp)) 0 _ rfl)))) | (first | refine soA ?_ | refine sgA ?_ | refine sxA ?_ | refine sbA ?_ | refine fun (Q : Post) hQ => ?_ | refine fun (nb : Nat) => (?_ : WL _ _ _ _ _ _ _ _ _) | (refine WL.guard rfl rfl rfl (fun h => ?_) (fun h => ?_) <;> (try dsimp only at h))))
          exact hL.nx (k + 1) _ _ ⟨hlt, hst⟩ (by dsimp only; omega) (by repeat' (first | exact trivial | refine ⟨rfl, ?_⟩)) (by (exact keA))
        · obtain ⟨d', hd'⟩ : ∃ d', l[k - 1]? = some d' := ⟨_, List.getElem?_eq_getElem (by omega)⟩
          obtain ⟨g', o', eA', g1'⟩ := ints_cell h0 hd'
          rw [getD_cell hd'] at hok
          have hj : ((k : Int) - 1) = ((k - 1 : Nat) : Int) := by omega
          by_cases c4 : d ≤ d'
          · have hno : okD p.devices.xs.length l k = false := by
              cases e : okD p.devices.xs.length l k with
              | false => rfl
              | true => have := hok.1 e; omega
            have e : risB p.devices.xs.length l = false := all_range_no hlt hno
            repeat' (first | ((apply WL.rd; (exact rfl); (exact ckA))) | ((apply WL.rd; (exact rfl); (exact Rn.indexAddrE k eA rfl rfl (by first | rfl | omega) (by first | assumption | omega)))) | ((apply WL.rd; (exact rfl); (apply Rn.load; (exact rfl); (exact (CellsAt.weak g1 (by simp)) 0 _ rfl)))) | ((apply WL.rd; (exact rfl); (exact Rn.indexAddrE (k - 1) eA' rfl rfl hj (by omega)))) | ((apply WL.rd; (exact rfl); (apply Rn.load; (exact rfl); (exact (CellsAt.weak g1' (by simp)) 0 _ rfl)))) | (first | refine soA ?_ | refine sgA ?_ | refine sxA ?_ | refine sbA ?_ | refine fun (Q : Post) hQ => ?_ | refine fun (nb : Nat) => (?_ : WL _ _ _ _ _ _ _ _ _) | (refine WL.guard rfl rfl rfl (fun h => ?_) (fun h => ?_) <;> (try dsimp only at h))))
            ((refine seE ?_); refine ⟨[], Keep.nil, ?_⟩)
            exact ⟨by rw [e], rfl⟩
          · have hyes : okD p.devices.xs.length l k = true := hok.2 (by omega)
            rw [hyes] at hst
            repeat' (first | ((apply WL.rd; (exact rfl); (exact ckA))) | ((apply WL.rd; (exact rfl); (exact Rn.indexAddrE k eA rfl rfl (by first | rfl | omega) (by first | assumption | omega)))) | ((apply WL.rd; (exact rfl); (apply Rn.load; (exact rfl); (exact (CellsAt.weak g1 (by simp)) 0 _ rfl)))) | ((apply WL.rd; (exact rfl); (exact Rn.indexAddrE (k - 1) eA' rfl rfl hj (by omega)))) | ((apply WL.rd; (exact rfl); (apply Rn.load; (exact rfl); (exact (CellsAt.weak g1' (by simp)) 0 _ rfl)))) | (first | refine soA ?_ | refine sgA ?_ | refine sxA ?_ | refine sbA ?_ | refine fun (Q : Post) hQ => ?_ | refine fun (nb : Nat) => (?_ : WL _ _ _ _ _ _ _ _ _) | (refine WL.guard rfl rfl rfl (fun h => ?_) (fun h => ?_) <;> (try dsimp only at h))))
            exact hL.nx (k + 1) _ _ ⟨hlt, hst⟩ (by dsimp only; omega) (by repeat' (first | exact trivial | refine ⟨rfl, ?_⟩)) (by (exact keA))
  · obtain rfl : k = l.length := by simp at h3; omega
    have e : risB p.devices.xs.length l = true := ha
    repeat' (first | refine soA ?_ | refine sgA ?_ | refine sxA ?_ | refine sbA ?_ | refine fun (Q : Post) hQ => ?_ | refine fun (nb : Nat) => (?_ : WL _ _ _ _ _ _ _ _ _) | (refine WL.guard rfl rfl rfl (fun h => ?_) (fun h => ?_) <;> (try dsimp only at h)))
    ((refine seE ?_); refine ⟨[], Keep.nil, ?_⟩)
    exact ⟨by rw [e], rfl⟩
end Go.Proofs.YtflgnpidelkkpaaGreat
namespace Go.Proofs.YtflgnpidelkkpaaGreat
set_option maxRecDepth 8000
set_option maxHeartbeats 1000000
set_option linter.unusedVariables false
set_option linter.unusedSimpArgs false
def rngB (p : PP) (t : TT) : Bool := decide (t.period < 1) || (decide (p.horizon < t.period) || (decide (t.cycles < 1) || decide (4096 < t.cycles)))
theorem taskB_rng {p : PP} {t : TT} (h : rngB p t = true) : taskB p t = false := by
  unfold rngB at h; unfold taskB
  simp only [Bool.or_eq_true, decide_eq_true_eq] at h
  rw [decide_eq_false (by omega)]; rfl
def lstB (p : PP) (t : TT) : Bool := decide (p.sems < (t.sec.length : Nat)) || (t.sec.any (oddB t.cycles) || !risB p.devices.length t.devs)
theorem taskB_lst {p : PP} {t : TT} (h : rngB p t = false) : taskB p t = !lstB p t := by
  unfold rngB at h; unfold taskB lstB
  simp only [Bool.or_eq_false_iff, decide_eq_false_iff_not] at h
  rw [decide_eq_true (by omega), Bool.true_and, ← odd_all, Bool.not_or, Bool.not_or, Bool.not_not]
  congr 1
  rw [Bool.eq_iff_iff]; simp
attribute [local irreducible] W X WL WA WB WG WO Rn Own one splice Arr Spec WQ WH Qn
set_option maxHeartbeats 4000000 in
theorem tcheck_any (p : PlatV) (t : TaskV) (F : Hp) (h1 : RowAt F [] t.sec.A (t.sec.xs.flatMap encI)) (h2 : RowAt F [] t.devs.A (t.devs.xs.flatMap encI)) (f1 : t.sec.xs.length * 8 ≤ 140737488355328) (f2 : t.devs.xs.length * 8 ≤ 140737488355328) :
    Spec Tryz.prog 143 [.agg p.enc.toArray, .agg t.enc.toArray] F [] fun v hs => v = .int .i64 (if taskB p.pl t.pl = true then 0 else 3) ∧ hs = [] := by
  refine Spec.enter Tryz.func143 rfl Tryz.ntmps143 rfl fun B => ?_
  refine W.seqK fun Q hQ => ?_
  refine W.region ?_
  refine WL.ex rfl (WO.box rfl rfl fun pb => ?_)
  refine WL.ex rfl (WO.box rfl rfl fun tb => ?_)
  repeat' (first | ((apply WL.rd; (exact rfl); (exact Rn.makeFunc rfl rfl))) | (first | refine soA ?_ | refine sgA ?_ | refine sxA ?_ | refine sbA ?_ | refine fun (Q : Post) hQ => ?_ | refine fun (nb : Nat) => (?_ : WL _ _ _ _ _ _ _ _ _) | (refine WL.guard rfl rfl rfl (fun h => ?_) (fun h => ?_) <;> (try dsimp only at h))))
  refine W.cond rfl (fun h => ?_) (fun h => ?_)
  · have hb : rngB p.pl t.pl = true := by unfold rngB; rw [← h]; simp only [Bool.or_assoc]; rfl
    have e := taskB_rng hb
    repeat' (first | refine soA ?_ | refine sgA ?_ | refine sxA ?_ | refine sbA ?_ | refine fun (Q : Post) hQ => ?_ | refine fun (nb : Nat) => (?_ : WL _ _ _ _ _ _ _ _ _) | (refine WL.guard rfl rfl rfl (fun h => ?_) (fun h => ?_) <;> (try dsimp only at h)))
    ((refine seE ?_); refine ⟨[], Keep.nil, ?_⟩)
    exact ⟨by rw [e]; rfl, rfl⟩
  · have hb : rngB p.pl t.pl = false := by unfold rngB; rw [← h]; simp only [Bool.or_assoc]; rfl
    have e := taskB_lst hb
    repeat' (first | ((refine W.region (id := 4) (WL.ofQ ?_))) | ((apply WH.ex; (exact rfl); (exact rfl); (exact rfl); intro hb2; (refine Qn.call Tryz.func196 rfl (by kernel_rfl) rfl (own := []) (by (exact tsA)) (fun G hG hh => containsI_any Tryz.func195 rfl (by kernel_rfl) [.pointer (some ⟨tb, 0, none⟩)] (oddB t.cycles) t.sec.A t.sec.c t.sec.xs G (h1.up hG (by simp)) f1 (fun G' g' x => odd_any x tb t G' (g' _ _ (one_in (hh (one tb (cells t.enc 33)) (by simp))))))))) | ((apply WH.ex; (exact rfl); (exact rfl); (exact rfl); intro hb; (refine Qn.call Tryz.func197 rfl (by kernel_rfl) rfl (by (exact tsA)) (fun G hG hh => tdevs_any p t.devs.A t.devs.c t.devs.xs G (h2.up hG (by simp)) f2)))) | (first | refine sqA ?_ | refine soA ?_ | refine sgA ?_ | refine sxA ?_ | refine sbA ?_ | refine fun (Q : Post) hQ => ?_ | refine fun (nb : Nat) => (?_ : WL _ _ _ _ _ _ _ _ _) | (refine WL.guard rfl rfl rfl (fun h => ?_) (fun h => ?_) <;> (try dsimp only at h)) | (refine WQ.guard rfl rfl rfl (fun h => ?_) (fun h => ?_) <;> (try dsimp only at h))))
    refine W.cond rfl (fun h => ?_) (fun h => ?_)
    · have hb : lstB p.pl t.pl = true := by unfold lstB; rw [← h]; simp only [Bool.or_assoc]; rfl
      rw [hb] at e
      repeat' (first | refine soA ?_ | refine sgA ?_ | refine sxA ?_ | refine sbA ?_ | refine fun (Q : Post) hQ => ?_ | refine fun (nb : Nat) => (?_ : WL _ _ _ _ _ _ _ _ _) | (refine WL.guard rfl rfl rfl (fun h => ?_) (fun h => ?_) <;> (try dsimp only at h)))
      ((refine seE ?_); refine ⟨[], Keep.nil, ?_⟩)
      exact ⟨by rw [e]; rfl, rfl⟩
    · have hb : lstB p.pl t.pl = false := by unfold lstB; rw [← h]; simp only [Bool.or_assoc]; rfl
      rw [hb] at e
      repeat' (first | refine soA ?_ | refine sgA ?_ | refine sxA ?_ | refine sbA ?_ | refine fun (Q : Post) hQ => ?_ | refine fun (nb : Nat) => (?_ : WL _ _ _ _ _ _ _ _ _) | (refine WL.guard rfl rfl rfl (fun h => ?_) (fun h => ?_) <;> (try dsimp only at h)))
      ((refine seE ?_); refine ⟨[], Keep.nil, ?_⟩)
      exact ⟨by rw [e]; rfl, rfl⟩
end Go.Proofs.YtflgnpidelkkpaaGreat
namespace Go.Proofs.YtflgnpidelkkpaaGreat
set_option maxRecDepth 8000
set_option maxHeartbeats 1000000
set_option linter.unusedVariables false
set_option linter.unusedSimpArgs false
theorem longK_succ {ts : List TT} {k : Nat} {t : TT} (h : ts[k]? = some t) : longK (ts.take (k + 1)) = maxV (longK (ts.take k)) t.period := by
  unfold longK
  rw [List.take_add_one, h, List.foldl_append]; rfl
theorem startV_succ {s : Kn} {l : List Int} {k : Nat} {d : Int} (h : l[k]? = some d) : startV s (l.take (k + 1)) = callF s.p s.now (startV s (l.take k)) d := by
  unfold startV
  rw [List.take_add_one, h, List.foldl_append]; rfl
theorem rylastC {b : Nat} {L : List JobV} {h0 : Hp} (hl : L.length * 48 ≤ 140737488355328) (hO : OrdJ L) {F : Hp} (ho : Thing (RdyC b L) h0) : Spec Tryz.prog 202 [ptrV b] F [h0] fun v hs' => v = .int .i64 (lastV L) ∧ hs' = [h0] :=
  Spec.objR ho fun hs hr => rylastO hl hO hr
structure StK where
  m : Nat
  hD : Hp
attribute [local irreducible] W X WL WA WB WG WO Rn Own one splice Arr Spec WQ WH Qn
set_option maxHeartbeats 16000000 in
theorem kstart_any (b : Nat) (s : Kn) (t : TaskV) (F : Hp) (a : KA) (hP hT hM hN hU hS hK hL hA hI hD hE hR hV hC : Hp) (k : KParts s a hP hT hM hN hU hS hK hL hA hI hD hE hR hV hC) (w : KOk s) (m : KMom s) (hd0 : RowAt F [] t.devs.A (t.devs.xs.flatMap encI)) (hin : ∀ d ∈ t.devs.xs, 0 ≤ d ∧ d < (s.p.devices.length : Int)) (hf : t.devs.xs.length * 8 ≤ 140737488355328) :
    Spec Tryz.prog 149 [ptrV b, .agg t.enc.toArray] F [one b (cells (KM s a) 108), hP, hT, hM, hN, hU, hS, hK, hL, hA, hI, hD, hE, hR, hV] fun v hs' => v = .int .i64 (startV s t.devs.xs).2 ∧ ∃ hD', hs' = [one b (cells (KM s a) 108), hP, hT, hM, hN, hU, hS, hK, hL, hA, hI, hD', hE, hR, hV] ∧ Arr 72 2 (startV s t.devs.xs).1.length ((startV s t.devs.xs).1.flatMap DevV.enc) a.A5 a.c5 hD' := by
  refine Spec.enter Tryz.func149 rfl Tryz.ntmps149 rfl fun B => ?_
  have hjl := w.jord.nodup_le w.jnd w.jin
  have hdl := w.nd
  have hdv := w.dvl
  have hmb := m.big
  have htk := k.tasks
  have hpd : a.p.devices.xs = s.p.devices := congrArg PP.devices k.pl
  have htl : a.ts.length = 6 := by rw [← w.nt, ← k.tasks, List.length_map]
  repeat' (first | refine soA ?_ | refine sgA ?_ | refine sxA ?_ | refine sbA ?_ | refine fun (Q : Post) hQ => ?_ | refine fun (nb : Nat) => (?_ : WL _ _ _ _ _ _ _ _ _) | (refine WL.guard rfl rfl rfl (fun h => ?_) (fun h => ?_) <;> (try dsimp only at h)))
  refine dra [(0, [])] [] ?_
  refine drp 11 0 1 ?_
  refine drp 11 1 3 ?_
  refine drp 11 2 7 ?_
  refine drl 11 3 0 15 ?_
  refine drp 11 4 31 ?_
  refine drp 11 5 63 ?_
  refine drp 11 6 127 ?_
  refine drl 11 7 0 255 ?_
  refine dr1 8 ?_
  refine dre 11 8 511 ?_
  (refine WO.callN Tryz.func202 rfl (by kernel_rfl) rfl (own := [hS]) (by (exact tsA)) (fun G hG hh => rylastC (by omega) w.jord k.hS) ?_; rintro v own' ⟨rfl, rfl⟩)
  refine ⟨piA, ?_⟩
  refine drp 11 9 1023 ?_
  refine drp 11 10 2047 ?_
  refine drz ?_
  repeat' (first | ((refine W.cutK (c := .seq (.region 2 _ _) _) (σ := Nat) ⟨fun x => True, fun _ => [(5, some (.int .i64 (fromK s))), (0, some (ptrV b)), (3, some (.pointer (some ⟨nb, 0, none⟩)))], fun x => [one nb (cells t.enc 33), one b (cells (KM s a) 108), hP, hT, hM, hN, hU, hS, hK, hL, hA, hI, hD, hE, hR, hV], fun _ => 0⟩ (fun Q' hMt => ?_) ?_)) | (first | refine soA ?_ | refine sgA ?_ | refine sxA ?_ | refine sbA ?_ | refine fun (Q : Post) hQ => ?_ | refine fun (nb : Nat) => (?_ : WL _ _ _ _ _ _ _ _ _) | (refine WL.guard rfl rfl rfl (fun h => ?_) (fun h => ?_) <;> (try dsimp only at h))))
  · skip
    repeat' (first | refine soA ?_ | refine sgA ?_ | refine sxA ?_ | refine sbA ?_ | refine fun (Q : Post) hQ => ?_ | refine fun (nb : Nat) => (?_ : WL _ _ _ _ _ _ _ _ _) | (refine WL.guard rfl rfl rfl (fun h => ?_) (fun h => ?_) <;> (try dsimp only at h)))
    refine W.cond rfl (fun h3 => ?_) (fun h3 => ?_)
    · have h3 : s.asleep = true := h3
      have e : fromK s = maxV (maxV s.now (lastV s.jobs)) (w64 (s.wake + longK s.tasks)) := by unfold fromK; rw [if_pos h3]
      repeat' (first | refine soA ?_ | refine sgA ?_ | refine sxA ?_ | refine sbA ?_ | refine fun (Q : Post) hQ => ?_ | refine fun (nb : Nat) => (?_ : WL _ _ _ _ _ _ _ _ _) | (refine WL.guard rfl rfl rfl (fun h => ?_) (fun h => ?_) <;> (try dsimp only at h)))
      refine W.loopK (σ := Nat) ⟨fun x => x ≤ a.ts.length, fun x => [(30, some (.int .i64 (x : Nat))), (29, some (.int .i64 (a.ts.length : Nat))), (28, some (.slice a.A1 a.ts.length a.c1)), (6, some (.int .i64 (longK (s.tasks.take x)))), (5, some (.int .i64 (maxV s.now (lastV s.jobs)))), (0, some (ptrV b)), (3, some (.pointer (some ⟨nb, 0, none⟩)))], fun x => [one nb (cells t.enc 33), one b (cells (KM s a) 108), hP, hT, hM, hN, hU, hS, hK, hL, hA, hI, hD, hE, hR, hV], fun x => a.ts.length - x⟩ 0 (Nat.zero_le _) (by repeat' (first | exact trivial | refine ⟨rfl, ?_⟩)) (by (exact keA)) ?_
      intro x hx Q hL'
      dsimp only at hx ⊢
      repeat' (first | refine soA ?_ | refine sgA ?_ | refine sxA ?_ | refine sbA ?_ | refine fun (Q : Post) hQ => ?_ | refine fun (nb : Nat) => (?_ : WL _ _ _ _ _ _ _ _ _) | (refine WL.guard rfl rfl rfl (fun h => ?_) (fun h => ?_) <;> (try dsimp only at h)))
      refine W.cond rfl (fun h4 => ?_) (fun h4 => ?_)
      · have hlt : x < a.ts.length := by simpa using h4
        obtain ⟨tk, htk⟩ : ∃ tk, a.ts[x]? = some tk := ⟨_, List.getElem?_eq_getElem (by simpa using hlt)⟩
        obtain ⟨g, o, eA, g1⟩ := (RowAt.arr (F := F) (hs := [hT]) k.hT (by simp)).elem 4 (fun _ => rfl) (by omega) x tk htk
        have htk2 : s.tasks[x]? = some tk.pl := by rw [← k.tasks]; exact mapT_get htk
        have hs2 : longK (s.tasks.take (x + 1)) = maxV (longK (s.tasks.take x)) tk.period := longK_succ htk2
        repeat' (first | ((apply WL.rd; (exact rfl); (exact Rn.indexAddrE x eA rfl rfl (by first | rfl | omega) (by first | assumption | omega)))) | ((apply WL.rd; (exact rfl); (apply Rn.loadS; (exact rfl); (exact (CellsAt.weak g1 (by simp))); (exact rfl)))) | (first | refine soA ?_ | refine sgA ?_ | refine sxA ?_ | refine sbA ?_ | refine fun (Q : Post) hQ => ?_ | refine fun (nb : Nat) => (?_ : WL _ _ _ _ _ _ _ _ _) | (refine WL.guard rfl rfl rfl (fun h => ?_) (fun h => ?_) <;> (try dsimp only at h))))
        exact hL'.nx (x + 1) _ _ hlt (by dsimp only; omega) (by repeat' (first | exact trivial | refine ⟨by rw [hs2]; rfl, ?_⟩ | refine ⟨rfl, ?_⟩)) (by (exact keA))
      · obtain rfl : x = a.ts.length := by simp at h4; omega
        have hlen : s.tasks.take a.ts.length = s.tasks := by rw [List.take_of_length_le]; rw [← k.tasks, List.length_map]; exact Nat.le_refl _
        rw [hlen]
        repeat' (first | refine soA ?_ | refine sgA ?_ | refine sxA ?_ | refine sbA ?_ | refine fun (Q : Post) hQ => ?_ | refine fun (nb : Nat) => (?_ : WL _ _ _ _ _ _ _ _ _) | (refine WL.guard rfl rfl rfl (fun h => ?_) (fun h => ?_) <;> (try dsimp only at h)))
        exact hMt.nx 0 _ _ trivial (by repeat' (first | exact trivial | refine ⟨by rw [e]; rfl, ?_⟩ | refine ⟨rfl, ?_⟩)) (by (exact keA))
    · have h3 : ¬ s.asleep = true := by rw [show s.asleep = false from h3]; decide
      have e : fromK s = maxV s.now (lastV s.jobs) := by unfold fromK; rw [if_neg h3]
      repeat' (first | refine soA ?_ | refine sgA ?_ | refine sxA ?_ | refine sbA ?_ | refine fun (Q : Post) hQ => ?_ | refine fun (nb : Nat) => (?_ : WL _ _ _ _ _ _ _ _ _) | (refine WL.guard rfl rfl rfl (fun h => ?_) (fun h => ?_) <;> (try dsimp only at h)))
      exact hMt.nx 0 _ _ trivial (by repeat' (first | exact trivial | refine ⟨by rw [e]; rfl, ?_⟩ | refine ⟨rfl, ?_⟩)) (by (exact keA))
  · intro _ _
    dsimp only
    repeat' (first | refine soA ?_ | refine sgA ?_ | refine sxA ?_ | refine sbA ?_ | refine fun (Q : Post) hQ => ?_ | refine fun (nb : Nat) => (?_ : WL _ _ _ _ _ _ _ _ _) | (refine WL.guard rfl rfl rfl (fun h => ?_) (fun h => ?_) <;> (try dsimp only at h)))
    refine W.loopK (σ := StK) ⟨fun x => x.m ≤ t.devs.xs.length ∧ Arr 72 2 (startV s (t.devs.xs.take x.m)).1.length ((startV s (t.devs.xs.take x.m)).1.flatMap DevV.enc) a.A5 a.c5 x.hD, fun x => [(50, some (.int .i64 (x.m : Nat))), (49, some (.int .i64 (t.devs.xs.length : Nat))), (48, some (.slice t.devs.A t.devs.xs.length t.devs.c)), (5, some (.int .i64 (startV s (t.devs.xs.take x.m)).2)), (0, some (ptrV b)), (3, some (.pointer (some ⟨nb, 0, none⟩)))], fun x => [one nb (cells t.enc 33), one b (cells (KM s a) 108), hP, hT, hM, hN, hU, hS, hK, hL, hA, hI, x.hD, hE, hR, hV], fun x => t.devs.xs.length - x.m⟩ ⟨0, hD⟩ ⟨Nat.zero_le _, k.hD⟩ (by repeat' (first | exact trivial | refine ⟨rfl, ?_⟩)) (by (exact keA)) ?_
    rintro ⟨n, gD⟩ ⟨hn, aD⟩ Q hL'
    dsimp only at hn aD ⊢
    have hsl := startV_len s (t.devs.xs.take n)
    have hRR := startV_R m (t.devs.xs.take n)
    repeat' (first | refine soA ?_ | refine sgA ?_ | refine sxA ?_ | refine sbA ?_ | refine fun (Q : Post) hQ => ?_ | refine fun (nb : Nat) => (?_ : WL _ _ _ _ _ _ _ _ _) | (refine WL.guard rfl rfl rfl (fun h => ?_) (fun h => ?_) <;> (try dsimp only at h)))
    refine W.cond rfl (fun h3 => ?_) (fun h3 => ?_)
    · have hlt : n < t.devs.xs.length := by simpa using h3
      obtain ⟨d, hd⟩ : ∃ d, t.devs.xs[n]? = some d := ⟨_, List.getElem?_eq_getElem (by simpa using hlt)⟩
      obtain ⟨g0, o0, e0, c0⟩ := ints_cell hd0 hd
      have hdi := hin d (List.mem_of_getElem? hd)
      have hst := startV_succ (s := s) hd
      generalize startV s (t.devs.xs.take n) = acc at aD hsl hRR hst ⊢
      obtain ⟨i, hi⟩ : ∃ i : Nat, d = i := ⟨d.toNat, by omega⟩
      have hil : i < acc.1.length := by omega
      obtain ⟨x, hx⟩ : ∃ x, acc.1[i]? = some x := ⟨_, List.getElem?_eq_getElem hil⟩
      have hlo : i < a.p.devices.xs.length := by rw [hpd]; omega
      obtain ⟨o, ho⟩ : ∃ o, a.p.devices.xs[i]? = some o := ⟨_, List.getElem?_eq_getElem hlo⟩
      have ho2 : s.p.devices[i]? = some o := hpd ▸ ho
      have hR0 := hRR.1 i o x ho2 hx
      have hR1 := devCall_R hR0 (hRR.2 x (List.mem_of_getElem? hx)) (by omega)
      obtain ⟨g3, o3, e3, c3⟩ := (k.plat.devices.own (F := F)).elem 7 DeviceV.enc_len (by omega) i o ho
      obtain ⟨g1, L1, e1, rfl, hDa, hDi, hDg⟩ := arr_at (f := DevV.enc) (sz := 2) DevV.enc_len aD hil
      have hcf : callF s.p s.now acc d = (acc.1.set i (devCallV o x s.now), if devStateV o (devCallV o x s.now) s.now = 1 then acc.2 else maxV acc.2 (devCallV o x s.now).until_) := by
        unfold callF
        rw [hi, Int.toNat_natCast, hx, ho2]
      rw [hcf] at hst
      have hsl5 : s.devs.length = acc.1.length := by omega
      repeat' (first | ((apply WL.rd; (exact rfl); (exact Rn.indexAddrE n e0 rfl rfl (by first | rfl | omega) (by first | assumption | omega)))) | ((apply WL.rd; (exact rfl); (apply Rn.load; (exact rfl); (exact (CellsAt.weak c0 (by simp)) 0 _ rfl)))) | (first | refine soA ?_ | refine sgA ?_ | refine sxA ?_ | refine sbA ?_ | refine fun (Q : Post) hQ => ?_ | refine fun (nb : Nat) => (?_ : WL _ _ _ _ _ _ _ _ _) | (refine WL.guard rfl rfl rfl (fun h => ?_) (fun h => ?_) <;> (try dsimp only at h))))
      refine dra [(0, [])] [(hP, []), ((one g1 (cells L1 72)), [26])] ?_
      refine drp 27 0 1 ?_
      refine drp 27 1 3 ?_
      refine drp 27 2 7 ?_
      refine drl 27 3 0 15 ?_
      refine drp 27 4 31 ?_
      refine drp 27 5 63 ?_
      refine drp 27 6 127 ?_
      refine drp 27 7 255 ?_
      refine drp 27 8 511 ?_
      refine drl 27 9 0 1023 ?_
      refine drp 27 10 2047 ?_
      refine drp 27 11 4095 (hy := by (exact Rn.indexAddrE i e3 rfl rfl hi hlo)) ?_
      refine drl 27 12 1 8191 (hy := by (exact Rn.loadS (vs := o.enc) rfl c3 rfl)) ?_
      refine drp 27 13 16383 ?_
      refine drp 27 14 32767 ?_
      refine drp 27 15 65535 ?_
      refine drl 27 16 0 131071 ?_
      refine drp 27 17 262143 ?_
      refine drp 27 18 524287 (hy := by (exact Rn.indexAddrE i e1 rfl rfl hi (by omega))) ?_
      refine drl 27 19 2 1048575 (hy := by (exact Rn.loadS (vs := x.enc) rfl (CellsAt.mk At.one (hDg x hx)) rfl)) ?_
      refine drp 27 20 2097151 ?_
      refine drp 27 21 4194303 ?_
      refine drp 27 22 8388607 ?_
      refine drl 27 23 0 16777215 ?_
      refine dr1 24 ?_
      refine dre 27 24 33554431 ?_
      (refine WO.callN Tryz.func203 rfl (by kernel_rfl) rfl (by (exact tsA)) (fun G hG hh => call_any o x s.now G hR0) ?_; rintro v own' ⟨rfl, rfl⟩)
      refine ⟨piA, ?_⟩
      refine drp 27 25 67108863 (hy := by (exact Rn.indexAddrE i e1 rfl rfl hi (by omega))) ?_
      refine dr1 26 ?_
      refine drf 27 26 134217727 ?_
      (apply WO.storeC (l := L1) (vs := (devCallV o x s.now).enc) (b := g1) (o := 0 + i * 2); (exact rfl); (exact rfl); (exact rfl); (exact rfl); (exact rfl); (exact rpA); (exact hDi))
      refine ⟨piA, ?_⟩
      refine drz ?_
      have aD2 := hDa (devCallV o x s.now)
      generalize devCallV o x s.now = y at aD2 hst hR1 ⊢
      generalize one g1 (cells (splice L1 (0 + i * 2) y.enc) 72) = hD2 at aD2 ⊢
      have hy : (acc.1.set i y)[i]? = some y := List.getElem?_set_self hil
      have hil2 : i < (acc.1.set i y).length := by rw [List.length_set]; exact hil
      have aD3 := aD2
      obtain ⟨g4, L4, e4, rfl, _, _, hDg2⟩ := arr_at (f := DevV.enc) (sz := 2) DevV.enc_len aD2 hil2
      by_cases hon : devStateV o y s.now = 1
      · rw [if_pos hon] at hst
        repeat' (first | refine soA ?_ | refine sgA ?_ | refine sxA ?_ | refine sbA ?_ | refine fun (Q : Post) hQ => ?_ | refine fun (nb : Nat) => (?_ : WL _ _ _ _ _ _ _ _ _) | (refine WL.guard rfl rfl rfl (fun h => ?_) (fun h => ?_) <;> (try dsimp only at h)))
        refine dra [(0, [])] [(hP, []), ((one g4 (cells L4 72)), [])] ?_
        refine drp 21 0 1 ?_
        refine drp 21 1 3 ?_
        refine drp 21 2 7 ?_
        refine drp 21 3 15 ?_
        refine drl 21 4 0 31 ?_
        refine drp 21 5 63 ?_
        refine drp 21 6 127 (hy := by (exact Rn.indexAddrE i e3 rfl rfl hi hlo)) ?_
        refine drl 21 7 1 255 (hy := by (exact Rn.loadS (vs := o.enc) rfl c3 rfl)) ?_
        refine drp 21 8 511 ?_
        refine drp 21 9 1023 ?_
        refine drp 21 10 2047 ?_
        refine drl 21 11 0 4095 ?_
        refine drp 21 12 8191 ?_
        refine drp 21 13 16383 (hy := by (exact Rn.indexAddrE i e4 rfl rfl hi (by omega))) ?_
        refine drl 21 14 2 32767 (hy := by (exact Rn.loadS (vs := y.enc) rfl (CellsAt.mk At.one (hDg2 y hy)) rfl)) ?_
        refine drp 21 15 65535 ?_
        refine drp 21 16 131071 ?_
        refine drp 21 17 262143 ?_
        refine drl 21 18 0 524287 ?_
        refine dr1 19 ?_
        refine dre 21 19 1048575 ?_
        (refine WO.callN Tryz.func204 rfl (by kernel_rfl) rfl (by (exact tsA)) (fun G hG hh => hon ▸ state_any o y s.now G hR1.1) ?_; rintro v own' ⟨rfl, rfl⟩)
        refine ⟨piA, ?_⟩
        refine drp 21 20 2097151 ?_
        refine drz ?_
        repeat' (first | refine soA ?_ | refine sgA ?_ | refine sxA ?_ | refine sbA ?_ | refine fun (Q : Post) hQ => ?_ | refine fun (nb : Nat) => (?_ : WL _ _ _ _ _ _ _ _ _) | (refine WL.guard rfl rfl rfl (fun h => ?_) (fun h => ?_) <;> (try dsimp only at h)))
        exact hL'.nx ⟨n + 1, _⟩ _ _ ⟨hlt, by dsimp only; rw [hst]; exact aD3⟩ (by dsimp only; omega) (by dsimp only; rw [hst]; exact (by repeat' (first | exact trivial | refine ⟨rfl, ?_⟩))) (by (exact keA))
      · rw [if_neg hon] at hst
        repeat' (first | refine soA ?_ | refine sgA ?_ | refine sxA ?_ | refine sbA ?_ | refine fun (Q : Post) hQ => ?_ | refine fun (nb : Nat) => (?_ : WL _ _ _ _ _ _ _ _ _) | (refine WL.guard rfl rfl rfl (fun h => ?_) (fun h => ?_) <;> (try dsimp only at h)))
        refine dra [(0, [])] [(hP, []), ((one g4 (cells L4 72)), [])] ?_
        refine drp 21 0 1 ?_
        refine drp 21 1 3 ?_
        refine drp 21 2 7 ?_
        refine drp 21 3 15 ?_
        refine drl 21 4 0 31 ?_
        refine drp 21 5 63 ?_
        refine drp 21 6 127 (hy := by (exact Rn.indexAddrE i e3 rfl rfl hi hlo)) ?_
        refine drl 21 7 1 255 (hy := by (exact Rn.loadS (vs := o.enc) rfl c3 rfl)) ?_
        refine drp 21 8 511 ?_
        refine drp 21 9 1023 ?_
        refine drp 21 10 2047 ?_
        refine drl 21 11 0 4095 ?_
        refine drp 21 12 8191 ?_
        refine drp 21 13 16383 (hy := by (exact Rn.indexAddrE i e4 rfl rfl hi (by omega))) ?_
        refine drl 21 14 2 32767 (hy := by (exact Rn.loadS (vs := y.enc) rfl (CellsAt.mk At.one (hDg2 y hy)) rfl)) ?_
        refine drp 21 15 65535 ?_
        refine drp 21 16 131071 ?_
        refine drp 21 17 262143 ?_
        refine drl 21 18 0 524287 ?_
        refine dr1 19 ?_
        refine dre 21 19 1048575 ?_
        (refine WO.callN Tryz.func204 rfl (by kernel_rfl) rfl (by (exact tsA)) (fun G hG hh => state_any o y s.now G hR1.1) ?_; rintro v own' ⟨rfl, rfl⟩)
        refine ⟨piA, ?_⟩
        refine drp 21 20 2097151 (hy := by (exact Rn.cmp (b := true) rfl rfl (congrArg some (bne_iff_ne.2 hon)))) ?_
        refine drz ?_
        repeat' (first | ((apply WL.rd; (exact rfl); (exact Rn.indexAddrE i e4 rfl rfl hi (by omega)))) | ((apply WL.rd; (exact rfl); (apply Rn.load; (exact rfl); (apply CellAt.mk; (exact atA); (exact hDg2 y hy 1 _ rfl))))) | (first | refine soA ?_ | refine sgA ?_ | refine sxA ?_ | refine sbA ?_ | refine fun (Q : Post) hQ => ?_ | refine fun (nb : Nat) => (?_ : WL _ _ _ _ _ _ _ _ _) | (refine WL.guard rfl rfl rfl (fun h => ?_) (fun h => ?_) <;> (try dsimp only at h))))
        exact hL'.nx ⟨n + 1, _⟩ _ _ ⟨hlt, by dsimp only; rw [hst]; exact aD3⟩ (by dsimp only; omega) (by dsimp only; rw [hst]; exact (by repeat' (first | exact trivial | refine ⟨rfl, ?_⟩))) (by (exact keA))
    · obtain rfl : n = t.devs.xs.length := by simp at h3; omega
      rw [List.take_length] at aD hsl ⊢
      repeat' (first | refine soA ?_ | refine sgA ?_ | refine sxA ?_ | refine sbA ?_ | refine fun (Q : Post) hQ => ?_ | refine fun (nb : Nat) => (?_ : WL _ _ _ _ _ _ _ _ _) | (refine WL.guard rfl rfl rfl (fun h => ?_) (fun h => ?_) <;> (try dsimp only at h)))
      (refine seE ?_)
      exact ⟨[one b (cells (KM s a) 108), hP, hT, hM, hN, hU, hS, hK, hL, hA, hI, gD, hE, hR, hV], (by (exact keA)), rfl, gD, rfl, aD⟩
end Go.Proofs.YtflgnpidelkkpaaGreat
