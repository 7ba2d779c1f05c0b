/- part 10 of the proof: contracts of the functions that the law reaches, and plain laws. -/
import Derived.Test.YtflgnpidelkkpaaGreatMq7
import Derived.Test.YtflgnpidelkkpaaGreatMq8
import Derived.Test.YtflgnpidelkkpaaGreatMq9
namespace Go.Proofs.YtflgnpidelkkpaaGreat
set_option maxRecDepth 8000
set_option maxHeartbeats 1000000
set_option linter.unusedVariables false
set_option linter.unusedSimpArgs false
abbrev w64 (i : Int) : Int := IntKind.i64.wrap i
theorem w64_in {i : Int} (h : -9223372036854775808 ≤ i ∧ i ≤ 9223372036854775807) : w64 i = i := wrap_i64 h
section
variable {P : Program} {F : Hp} {hs : List Hp} {ty : TypeId} {env : Env}
theorem Rn.shl32 {xt yt : TypeId} {x y : Operand} {i : Int} (hx : ev env x = some (.int .i64 i)) (hy : ev env y = some (.int .u64 32)) : Rn P F hs (.binOp .shl xt x y yt) ty env (.int .i64 (w64 (i * 4294967296))) := fun o h1 h2 n B a w he ho => by
  unfold execOp; simp [h1, he.ev hx, he.ev hy, eqGuard, binOp, Op.shift, IntKind.bits]
theorem Rn.shr32 {xt yt : TypeId} {x y : Operand} {i : Int} (hx : ev env x = some (.int .i64 i)) (hy : ev env y = some (.int .u64 32)) : Rn P F hs (.binOp .shr xt x y yt) ty env (.int .i64 (i.fdiv 4294967296)) := fun o h1 h2 n B a w he ho => by
  unfold execOp; simp [h1, he.ev hx, he.ev hy, eqGuard, binOp, Op.shift, IntKind.bits]
end
def maxV (i j : Int) : Int := if i < j then j else i
def minV (i j : Int) : Int := if j < i then j else i
theorem maxV_ge (i j : Int) : i ≤ maxV i j ∧ j ≤ maxV i j ∧ (maxV i j = i ∨ maxV i j = j) := by unfold maxV; split <;> omega
theorem minV_le (i j : Int) : minV i j ≤ i ∧ minV i j ≤ j ∧ (minV i j = i ∨ minV i j = j) := by unfold minV; split <;> omega
def clampV (n lo hi : Int) : Int := minV (maxV n lo) hi
theorem clampV_in (n : Int) {lo hi : Int} (h : lo ≤ hi) : lo ≤ clampV n lo hi ∧ clampV n lo hi ≤ hi := by unfold clampV minV maxV; repeat' split <;> omega
theorem clampV_id {n lo hi : Int} (h1 : lo ≤ n) (h2 : n ≤ hi) : clampV n lo hi = n := by unfold clampV minV maxV; repeat' split <;> omega
def numV (c : Int) : Int := clampV c 0 536870912 * 4294967296
theorem numV_in (c : Int) : 0 ≤ numV c ∧ numV c ≤ 2305843009213693952 := by
  have := clampV_in c (lo := 0) (hi := 536870912) (by decide)
  unfold numV; omega
def utilV (c t : Int) : Int := if t < 1 then 1099511627776 else numV c / t + (if numV c % t = 0 then 0 else 1)
def timesV (u n : Int) : Int := clampV u 0 17179869184 * clampV n 0 134217728
theorem timesV_in (u n : Int) : 0 ≤ timesV u n ∧ timesV u n ≤ 2305843009213693952 := by
  have h1 := clampV_in u (lo := 0) (hi := 17179869184) (by decide)
  have h2 := clampV_in n (lo := 0) (hi := 134217728) (by decide)
  unfold timesV
  exact ⟨Int.mul_nonneg h1.1 h2.1, Int.le_trans (Int.mul_le_mul h1.2 h2.2 h2.1 (by decide)) (by decide)⟩
def wholeV (n : Int) : Int := clampV n (-1073741824) 1073741824 * 4294967296
theorem wholeV_in (n : Int) : -4611686018427387904 ≤ wholeV n ∧ wholeV n ≤ 4611686018427387904 := by
  have := clampV_in n (lo := -1073741824) (hi := 1073741824) (by decide)
  unfold wholeV; omega
def floorV (x : Int) : Int := x / 4294967296
theorem part_in (c : Int) {t : Int} (h : 1 ≤ t) : 0 ≤ numV c / t ∧ numV c / t ≤ 2305843009213693952 ∧ 0 ≤ numV c % t := by
  have := numV_in c
  exact ⟨Int.ediv_nonneg this.1 (by omega), Int.le_trans (Int.ediv_le_self t this.1) this.2, Int.emod_nonneg _ (by omega)⟩
theorem part_t (c : Int) {t : Int} : (numV c).tdiv t = numV c / t ∧ (numV c).tmod t = numV c % t := by
  have := (numV_in c).1
  exact ⟨Int.tdiv_eq_ediv_of_nonneg this, Int.tmod_eq_emod_of_nonneg this⟩
attribute [local irreducible] W X WL WA WB WG WO Rn Own one splice Arr Spec WQ WH Qn
theorem clamp_any (n lo hi : Int) (F : Hp) : Spec Tryz.prog 280 [.int .i64 n, .int .i64 lo, .int .i64 hi] F [] fun v hs => v = .int .i64 (clampV n lo hi) ∧ hs = [] := by
  refine Spec.enter Tryz.func280 rfl Tryz.ntmps280 rfl fun B => ?_
  repeat' (first | refine soA ?_ | refine sgA ?_ | refine sxA ?_ | refine sbA ?_ | refine fun (Q : Post) hQ => ?_ | refine fun (nb : Nat) => (?_ : WL _ _ _ _ _ _ _ _ _) | (refine WL.guard rfl rfl rfl (fun h => ?_) (fun h => ?_) <;> (try dsimp only at h)))
  ((refine seE ?_); refine ⟨[], Keep.nil, ?_⟩)
  exact ⟨rfl, rfl⟩
theorem rclamp_any (n lo hi : Int) (h : lo ≤ hi) (F : Hp) : Spec Tryz.prog 170 [.int .i64 n, .int .i64 lo, .int .i64 hi] F [] fun v hs => v = .int .i64 (clampV n lo hi) ∧ hs = [] := by
  refine Spec.enter Tryz.func170 rfl Tryz.ntmps170 rfl fun B => ?_
  have key : clampV n lo hi = if n < lo then lo else if hi < n then hi else n := by unfold clampV minV maxV; repeat' split <;> omega
  rw [key]
  by_cases h1 : n < lo
  · rw [if_pos h1]
    repeat' (first | ((apply WL.rd; (exact rfl); (exact ckA))) | (first | refine soA ?_ | refine sgA ?_ | refine sxA ?_ | refine sbA ?_ | refine fun (Q : Post) hQ => ?_ | refine fun (nb : Nat) => (?_ : WL _ _ _ _ _ _ _ _ _) | (refine WL.guard rfl rfl rfl (fun h => ?_) (fun h => ?_) <;> (try dsimp only at h))))
    ((refine seE ?_); refine ⟨[], Keep.nil, ?_⟩)
    exact ⟨rfl, rfl⟩
  · rw [if_neg h1]
    by_cases h2 : hi < n
    · rw [if_pos h2]
      repeat' (first | ((apply WL.rd; (exact rfl); (exact ckA))) | (first | refine soA ?_ | refine sgA ?_ | refine sxA ?_ | refine sbA ?_ | refine fun (Q : Post) hQ => ?_ | refine fun (nb : Nat) => (?_ : WL _ _ _ _ _ _ _ _ _) | (refine WL.guard rfl rfl rfl (fun h => ?_) (fun h => ?_) <;> (try dsimp only at h))))
      ((refine seE ?_); refine ⟨[], Keep.nil, ?_⟩)
      exact ⟨rfl, rfl⟩
    · rw [if_neg h2]
      repeat' (first | ((apply WL.rd; (exact rfl); (exact ckA))) | (first | refine soA ?_ | refine sgA ?_ | refine sxA ?_ | refine sbA ?_ | refine fun (Q : Post) hQ => ?_ | refine fun (nb : Nat) => (?_ : WL _ _ _ _ _ _ _ _ _) | (refine WL.guard rfl rfl rfl (fun h => ?_) (fun h => ?_) <;> (try dsimp only at h))))
      ((refine seE ?_); refine ⟨[], Keep.nil, ?_⟩)
      exact ⟨rfl, rfl⟩
theorem rmax_any (i j : Int) (F : Hp) : Spec Tryz.prog 112 [.int .i64 i, .int .i64 j] F [] fun v hs => v = .int .i64 (maxV i j) ∧ hs = [] := by
  refine Spec.enter Tryz.func112 rfl Tryz.ntmps112 rfl fun B => ?_
  unfold maxV
  by_cases h1 : j < i
  · rw [if_neg (by omega)]
    repeat' (first | ((apply WL.rd; (exact rfl); (exact ckA))) | (first | refine soA ?_ | refine sgA ?_ | refine sxA ?_ | refine sbA ?_ | refine fun (Q : Post) hQ => ?_ | refine fun (nb : Nat) => (?_ : WL _ _ _ _ _ _ _ _ _) | (refine WL.guard rfl rfl rfl (fun h => ?_) (fun h => ?_) <;> (try dsimp only at h))))
    ((refine seE ?_); refine ⟨[], Keep.nil, ?_⟩)
    exact ⟨rfl, rfl⟩
  · have : (if i < j then j else i) = j := by split <;> omega
    rw [this]
    repeat' (first | ((apply WL.rd; (exact rfl); (exact ckA))) | (first | refine soA ?_ | refine sgA ?_ | refine sxA ?_ | refine sbA ?_ | refine fun (Q : Post) hQ => ?_ | refine fun (nb : Nat) => (?_ : WL _ _ _ _ _ _ _ _ _) | (refine WL.guard rfl rfl rfl (fun h => ?_) (fun h => ?_) <;> (try dsimp only at h))))
    ((refine seE ?_); refine ⟨[], Keep.nil, ?_⟩)
    exact ⟨rfl, rfl⟩
theorem rmin_any (i j : Int) (F : Hp) : Spec Tryz.prog 18 [.int .i64 i, .int .i64 j] F [] fun v hs => v = .int .i64 (minV i j) ∧ hs = [] := by
  refine Spec.enter Tryz.func18 rfl Tryz.ntmps18 rfl fun B => ?_
  unfold minV
  by_cases h1 : i < j
  · rw [if_neg (by omega)]
    repeat' (first | ((apply WL.rd; (exact rfl); (exact ckA))) | (first | refine soA ?_ | refine sgA ?_ | refine sxA ?_ | refine sbA ?_ | refine fun (Q : Post) hQ => ?_ | refine fun (nb : Nat) => (?_ : WL _ _ _ _ _ _ _ _ _) | (refine WL.guard rfl rfl rfl (fun h => ?_) (fun h => ?_) <;> (try dsimp only at h))))
    ((refine seE ?_); refine ⟨[], Keep.nil, ?_⟩)
    exact ⟨rfl, rfl⟩
  · have : (if j < i then j else i) = j := by split <;> omega
    rw [this]
    repeat' (first | ((apply WL.rd; (exact rfl); (exact ckA))) | (first | refine soA ?_ | refine sgA ?_ | refine sxA ?_ | refine sbA ?_ | refine fun (Q : Post) hQ => ?_ | refine fun (nb : Nat) => (?_ : WL _ _ _ _ _ _ _ _ _) | (refine WL.guard rfl rfl rfl (fun h => ?_) (fun h => ?_) <;> (try dsimp only at h))))
    ((refine seE ?_); refine ⟨[], Keep.nil, ?_⟩)
    exact ⟨rfl, rfl⟩
theorem util_any (c t : Int) (F : Hp) : Spec Tryz.prog 264 [.int .i64 c, .int .i64 t] F [] fun v hs => v = .int .i64 (utilV c t) ∧ hs = [] := by
  refine Spec.enter Tryz.func264 rfl Tryz.ntmps264 rfl fun B => ?_
  by_cases h1 : t < 1
  · have : utilV c t = 1099511627776 := if_pos h1
    rw [this]
    repeat' (first | ((apply WL.rd; (exact rfl); (exact ckA))) | (first | refine soA ?_ | refine sgA ?_ | refine sxA ?_ | refine sbA ?_ | refine fun (Q : Post) hQ => ?_ | refine fun (nb : Nat) => (?_ : WL _ _ _ _ _ _ _ _ _) | (refine WL.guard rfl rfl rfl (fun h => ?_) (fun h => ?_) <;> (try dsimp only at h))))
    ((refine seE ?_); refine ⟨[], Keep.nil, ?_⟩)
    exact ⟨rfl, rfl⟩
  · obtain ⟨h2, h3, h4⟩ := part_in c (t := t) (by omega)
    obtain ⟨h5, h6⟩ := part_t c (t := t)
    have hv : utilV c t = w64 (numV c / t + (if 1 < numV c % t then 1 else numV c % t)) := by
      rw [w64_in (by split <;> omega)]
      unfold utilV
      rw [if_neg h1]
      congr 1
      split <;> split <;> omega
    have hn : w64 (clampV c 0 536870912 * 4294967296) = numV c := w64_in (by have := numV_in c; unfold numV at this; omega)
    rw [hv]
    repeat' (first | ((apply WL.rd; (exact rfl); (exact ckA))) | ((refine WL.ex rfl (WO.callN Tryz.func280 rfl (by kernel_rfl) rfl (by (exact tsA)) (fun G hG hh => clamp_any c 0 536870912 G) ?_); rintro v own' ⟨rfl, rfl⟩)) | ((apply WL.rd; (exact rfl); (exact Rn.shl32 rfl rfl))) | (first | refine soA ?_ | refine sgA ?_ | refine sxA ?_ | refine sbA ?_ | refine fun (Q : Post) hQ => ?_ | refine fun (nb : Nat) => (?_ : WL _ _ _ _ _ _ _ _ _) | (refine WL.guard rfl rfl rfl (fun h => ?_) (fun h => ?_) <;> (try dsimp only at h))))
    rw [hn]
    repeat' (first | ((apply WQ.rd; (exact rfl); apply Rn.q; (exact h5 ▸ Rn.quo rfl rfl (by omega) (by omega)))) | ((apply WQ.rd; (exact rfl); apply Rn.q; (exact h6 ▸ Rn.rem rfl rfl (by omega)))) | ((apply WQ.rd; (exact rfl); apply Rn.q; (exact Rn.addW rfl rfl))) | (first | refine sqA ?_ | refine soA ?_ | refine sgA ?_ | refine sxA ?_ | refine sbA ?_ | refine suA ?_ | refine fun (Q : Post) hQ => ?_ | refine fun (nb : Nat) => (?_ : WL _ _ _ _ _ _ _ _ _) | (refine WL.guard rfl rfl rfl (fun h => ?_) (fun h => ?_) <;> (try dsimp only at h)) | (refine WQ.guard rfl rfl rfl (fun h => ?_) (fun h => ?_) <;> (try dsimp only at h))))
    ((refine seE ?_); refine ⟨[], Keep.nil, ?_⟩)
    exact ⟨rfl, rfl⟩
theorem rutil_any (c t : Int) (F : Hp) : Spec Tryz.prog 113 [.int .i64 c, .int .i64 t] F [] fun v hs => v = .int .i64 (utilV c t) ∧ hs = [] := by
  refine Spec.enter Tryz.func113 rfl Tryz.ntmps113 rfl fun B => ?_
  by_cases h1 : t < 1
  · have : utilV c t = 1099511627776 := if_pos h1
    rw [this]
    repeat' (first | ((apply WL.rd; (exact rfl); (exact ckA))) | (first | refine soA ?_ | refine sgA ?_ | refine sxA ?_ | refine sbA ?_ | refine fun (Q : Post) hQ => ?_ | refine fun (nb : Nat) => (?_ : WL _ _ _ _ _ _ _ _ _) | (refine WL.guard rfl rfl rfl (fun h => ?_) (fun h => ?_) <;> (try dsimp only at h))))
    ((refine seE ?_); refine ⟨[], Keep.nil, ?_⟩)
    exact ⟨rfl, rfl⟩
  · obtain ⟨h2, h3, h4⟩ := part_in c (t := t) (by omega)
    obtain ⟨h5, h6⟩ := part_t c (t := t)
    have hn : w64 (clampV c 0 536870912 * 4294967296) = numV c := w64_in (by have := numV_in c; unfold numV at this; omega)
    have hu : utilV c t = numV c / t + (if numV c % t = 0 then 0 else 1) := if_neg h1
    by_cases h7 : numV c % t = 0
    · rw [if_pos h7, Int.add_zero] at hu
      rw [hu]
      repeat' (first | ((apply WL.rd; (exact rfl); (exact h5 ▸ Rn.quo rfl rfl (by omega) (by omega)))) | ((apply WL.rd; (exact rfl); (exact h6 ▸ Rn.rem rfl rfl (by omega)))) | ((apply WL.rd; (exact rfl); (exact ckA))) | ((refine WL.ex rfl (WO.callN Tryz.func170 rfl (by kernel_rfl) rfl (by (exact tsA)) (fun G hG hh => rclamp_any c 0 536870912 (by decide) G) ?_); rintro v own' ⟨rfl, rfl⟩)) | ((apply WL.rd; (exact rfl); (exact (Rn.mulW rfl rfl).to (congrArg _ hn)))) | ((apply WL.rd; (exact rfl); (exact Rn.cmp (b := false) rfl rfl (congrArg some (by simp [h7]))))) | (first | refine soA ?_ | refine sgA ?_ | refine sxA ?_ | refine sbA ?_ | refine fun (Q : Post) hQ => ?_ | refine fun (nb : Nat) => (?_ : WL _ _ _ _ _ _ _ _ _) | (refine WL.guard rfl rfl rfl (fun h => ?_) (fun h => ?_) <;> (try dsimp only at h))))
      ((refine seE ?_); refine ⟨[], Keep.nil, ?_⟩)
      exact ⟨rfl, rfl⟩
    · rw [if_neg h7] at hu
      rw [hu]
      repeat' (first | ((apply WL.rd; (exact rfl); (exact h5 ▸ Rn.quo rfl rfl (by omega) (by omega)))) | ((apply WL.rd; (exact rfl); (exact h6 ▸ Rn.rem rfl rfl (by omega)))) | ((apply WL.rd; (exact rfl); (exact ckA))) | ((refine WL.ex rfl (WO.callN Tryz.func170 rfl (by kernel_rfl) rfl (by (exact tsA)) (fun G hG hh => rclamp_any c 0 536870912 (by decide) G) ?_); rintro v own' ⟨rfl, rfl⟩)) | ((apply WL.rd; (exact rfl); (exact (Rn.mulW rfl rfl).to (congrArg _ hn)))) | ((apply WL.rd; (exact rfl); (exact Rn.cmp (b := true) rfl rfl (congrArg some (by simp [h7]))))) | (first | refine soA ?_ | refine sgA ?_ | refine sxA ?_ | refine sbA ?_ | refine fun (Q : Post) hQ => ?_ | refine fun (nb : Nat) => (?_ : WL _ _ _ _ _ _ _ _ _) | (refine WL.guard rfl rfl rfl (fun h => ?_) (fun h => ?_) <;> (try dsimp only at h))))
      ((refine seE ?_); refine ⟨[], Keep.nil, ?_⟩)
      exact ⟨rfl, rfl⟩
theorem times_any (u n : Int) (F : Hp) : Spec Tryz.prog 294 [.int .i64 u, .int .i64 n] F [] fun v hs => v = .int .i64 (timesV u n) ∧ hs = [] := by
  refine Spec.enter Tryz.func294 rfl Tryz.ntmps294 rfl fun B => ?_
  have hb := timesV_in u n
  unfold timesV at hb ⊢
  repeat' (first | ((refine WL.ex rfl (WO.callN Tryz.func280 rfl (by kernel_rfl) rfl (by (exact tsA)) (fun G hG hh => clamp_any u 0 17179869184 G) ?_); rintro v own' ⟨rfl, rfl⟩)) | ((refine WL.ex rfl (WO.callN Tryz.func280 rfl (by kernel_rfl) rfl (by (exact tsA)) (fun G hG hh => clamp_any n 0 134217728 G) ?_); rintro v own' ⟨rfl, rfl⟩)) | (first | refine soA ?_ | refine sgA ?_ | refine sxA ?_ | refine sbA ?_ | refine fun (Q : Post) hQ => ?_ | refine fun (nb : Nat) => (?_ : WL _ _ _ _ _ _ _ _ _) | (refine WL.guard rfl rfl rfl (fun h => ?_) (fun h => ?_) <;> (try dsimp only at h))))
  ((refine seE ?_); refine ⟨[], Keep.nil, ?_⟩)
  exact ⟨rfl, rfl⟩
theorem whole_any (n : Int) (F : Hp) : Spec Tryz.prog 287 [.int .i64 n] F [] fun v hs => v = .int .i64 (wholeV n) ∧ hs = [] := by
  refine Spec.enter Tryz.func287 rfl Tryz.ntmps287 rfl fun B => ?_
  have hb := wholeV_in n
  have e : wholeV n = w64 (clampV n (-1073741824) 1073741824 * 4294967296) := (w64_in (by have := hb.1; have := hb.2; show _ ≤ wholeV n ∧ wholeV n ≤ _; omega)).symm
  rw [e]
  repeat' (first | ((refine WL.ex rfl (WO.callN Tryz.func280 rfl (by kernel_rfl) rfl (by (exact tsA)) (fun G hG hh => clamp_any n (-1073741824) 1073741824 G) ?_); rintro v own' ⟨rfl, rfl⟩)) | ((apply WL.rd; (exact rfl); (exact Rn.shl32 rfl rfl))) | (first | refine soA ?_ | refine sgA ?_ | refine sxA ?_ | refine sbA ?_ | refine fun (Q : Post) hQ => ?_ | refine fun (nb : Nat) => (?_ : WL _ _ _ _ _ _ _ _ _) | (refine WL.guard rfl rfl rfl (fun h => ?_) (fun h => ?_) <;> (try dsimp only at h))))
  ((refine seE ?_); refine ⟨[], Keep.nil, ?_⟩)
  exact ⟨rfl, rfl⟩
theorem floor_any (x : Int) (F : Hp) : Spec Tryz.prog 276 [.int .i64 x] F [] fun v hs => v = .int .i64 (floorV x) ∧ hs = [] := by
  refine Spec.enter Tryz.func276 rfl Tryz.ntmps276 rfl fun B => ?_
  have e : floorV x = x.fdiv 4294967296 := (Int.fdiv_eq_ediv_of_nonneg x (by decide)).symm
  rw [e]
  repeat' (first | ((apply WL.rd; (exact rfl); (exact Rn.shr32 rfl rfl))) | (first | refine soA ?_ | refine sgA ?_ | refine sxA ?_ | refine sbA ?_ | refine fun (Q : Post) hQ => ?_ | refine fun (nb : Nat) => (?_ : WL _ _ _ _ _ _ _ _ _) | (refine WL.guard rfl rfl rfl (fun h => ?_) (fun h => ?_) <;> (try dsimp only at h))))
  ((refine seE ?_); refine ⟨[], Keep.nil, ?_⟩)
  exact ⟨rfl, rfl⟩
end Go.Proofs.YtflgnpidelkkpaaGreat
namespace Go.Proofs.YtflgnpidelkkpaaGreat
set_option maxRecDepth 8000
set_option maxHeartbeats 1000000
set_option linter.unusedVariables false
set_option linter.unusedSimpArgs false
structure PP where
  levels : List LevelV
  sleeps : List SleepV
  devices : List DeviceV
  idle : Int
  crit : Int
  switch : Int
  switchE : Int
  sems : Int
  horizon : Int
structure TT where
  period : Int
  cycles : Int
  sec : List Int
  devs : List Int
def PlatV.pl (p : PlatV) : PP := ⟨p.levels.xs, p.sleeps.xs, p.devices.xs, p.idle, p.crit, p.switch, p.switchE, p.sems, p.horizon⟩
def TaskV.pl (t : TaskV) : TT := ⟨t.period, t.cycles, t.sec.xs, t.devs.xs⟩
structure PlatAt (F : Hp) (p : PlatV) : Prop where
  levels : RowAt F [] p.levels.A (p.levels.xs.flatMap LevelV.enc)
  sleeps : RowAt F [] p.sleeps.A (p.sleeps.xs.flatMap SleepV.enc)
  devices : RowAt F [] p.devices.A (p.devices.xs.flatMap DeviceV.enc)
theorem PlatAt.up {F G : Hp} {p : PlatV} (h : PlatAt F p) (hG : F.le G) : PlatAt G p := ⟨h.levels.up hG (by simp), h.sleeps.up hG (by simp), h.devices.up hG (by simp)⟩
def DevsAt (F : Hp) (ts : List TaskV) : Prop := ∀ t ∈ ts, RowAt F [] t.devs.A (t.devs.xs.flatMap encI)
theorem DevsAt.up {F G : Hp} {ts : List TaskV} (h : DevsAt F ts) (hG : F.le G) : DevsAt G ts := fun t ht => (h t ht).up hG (by simp)
structure TasksX (F : Hp) (A : Option Addr) (ts : List TaskV) : Prop where
  at_ : TasksAt F A ts
  dev : DevsAt F ts
  secF : ∀ t ∈ ts, t.sec.xs.length * 8 ≤ 140737488355328
  devF : ∀ t ∈ ts, t.devs.xs.length * 8 ≤ 140737488355328
theorem TasksX.up {F G : Hp} {A : Option Addr} {ts : List TaskV} (h : TasksX F A ts) (hG : F.le G) : TasksX G A ts := ⟨h.at_.up hG, h.dev.up hG, h.secF, h.devF⟩
def usesP (t : TT) (s : Int) : Bool := decide (0 ≤ s) && (decide (s < (t.sec.length : Nat)) && match t.sec[s.toNat]? with | some v => decide (0 < v) | none => false)
theorem usesB_pl (t : TaskV) (s : Int) : usesB t s = usesP t.pl s := rfl
def ceilP (ts : List TT) (s : Int) : Int := ts.foldl (fun least t => if usesP t s = true ∧ t.period < least then t.period else least) 1099511627776
theorem ceilT_pl (ts : List TaskV) (s : Int) : ceilT ts s = ceilP (ts.map TaskV.pl) s := by
  unfold ceilT ceilP
  rw [List.foldl_map]; rfl
def levP (p : PP) (n : Int) : Int := match p.levels[n.toNat]? with | some l => l.P | none => 0
theorem levP_at {p : PlatV} {n : Nat} {l : LevelV} (h : p.levels.xs[n]? = some l) : levP p.pl (n : Int) = l.P := by
  unfold levP; simp only [Int.toNat_natCast, PlatV.pl, h]
theorem mapT_get {ts : List TaskV} {k : Nat} {t : TaskV} (h : ts[k]? = some t) : (ts.map TaskV.pl)[k]? = some t.pl := by rw [List.getElem?_map, h]; rfl
end Go.Proofs.YtflgnpidelkkpaaGreat
