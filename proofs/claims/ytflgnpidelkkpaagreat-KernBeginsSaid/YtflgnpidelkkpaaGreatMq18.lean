/- part 18 of the proof: contracts of the functions that the law reaches, and plain laws. -/
import Derived.Shelf.SlSortCmp.WholeK
import Derived.Ground.SlsfProg
import Derived.Test.YtflgnpidelkkpaaGreatProg
import Derived.Test.YtflgnpidelkkpaaGreatMq5
import Derived.Test.YtflgnpidelkkpaaGreatMq7
import Derived.Test.YtflgnpidelkkpaaGreatMq17
namespace Go.Proofs.YtflgnpidelkkpaaGreat
set_option maxRecDepth 8000
set_option linter.unusedVariables false
def heapOf (W : World) : Hp := ⟨fun b => W.heap[b]?⟩
theorem own_heap (W : World) : Own W (heapOf W) [] W := ⟨fun _ _ h => h, rfl, rfl, rfl, Nat.le_refl _⟩
theorem ext_of_own {W w' : World} {hs : List Hp} (h : Own W (heapOf W) hs w') : Ext W w' := by
  have s := h.sub
  have hb : ∀ k o, W.heap[k]? = some o → w'.heap[k]? = some o := fun k o e => s.heap k o e
  refine ⟨s.os, s.tape, s.output, ?_, fun k hk => ?_⟩
  · rcases Nat.eq_zero_or_pos W.heap.size with h0 | h0
    · omega
    · have := (Array.getElem?_eq_some_iff.1 (hb (W.heap.size - 1) _ (Array.getElem?_eq_getElem (by omega)))).1
      omega
  · rw [Array.getElem?_eq_getElem hk]
    exact hb k _ (Array.getElem?_eq_getElem hk)
theorem Spec.law {P : Program} {f : FuncId} {args : List Value} {W : World} {v : Value} (h : Spec P f args (heapOf W) [] fun u hs => u = v ∧ hs = []) : Calls P f args.toArray W fun e w' => e = .returned v ∧ Ext W w' :=
  (h W W (own_heap W)).mono fun e w' ⟨u, hs, e1, ⟨e2, _⟩, o⟩ => ⟨by rw [e1, e2], ext_of_own o⟩
theorem Row.at {W : World} {A : Option Addr} {cs : List Value} (h : Row W A cs) : RowAt (heapOf W) [] A cs := fun j v e => by
  obtain ⟨b, o, h1, h2⟩ := h j v e
  refine ⟨b, o, h1, ?_⟩
  simp only [World.cell?] at h2
  split at h2
  · next c t fz hb => exact ⟨c, t, fz, .ro hb, by simpa using h2⟩
  · cases h2
end Go.Proofs.YtflgnpidelkkpaaGreat
namespace Go.Proofs
open Go.Shelf
def Tryz.sortJ_ren : Go.Shelf.Ren := ⟨fun | 6 => 139 | 15 => 192 | 14 => 191 | 28 => 236 | 29 => 237 | 20 => 228 | 21 => 229 | 22 => 230 | 23 => 231 | 24 => 232 | 25 => 233 | 26 => 234 | 27 => 235 | 46 => 259 | 47 => 260 | 48 => 261 | 49 => 262 | 50 => 263 | 57 => 279 | n => n, fun | 22 => 78 | 24 => 142 | 25 => 197 | 3 => 3 | 39 => 236 | 0 => 0 | 53 => 261 | 55 => 263 | 4 => 4 | 46 => 255 | 45 => 254 | 50 => 109 | 5 => 5 | 9 => 9 | 66 => 272 | 70 => 276 | 76 => 282 | 77 => 283 | n => n, fun | n => n⟩
theorem Tryz.sortJ : Go.Proofs.SlLaysF0.n6 Tryz.prog Tryz.sortJ_ren := {
  mixed := by kernel_rfl
  f6 := ⟨Tryz.f139.name, by decide, Tryz.func139.trans (congrArg some (by kernel_rfl))⟩
  f14 := ⟨Tryz.f191.name, by decide, Tryz.func191.trans (congrArg some (by kernel_rfl))⟩
  f15 := Tryz.func192.trans (congrArg some (by kernel_rfl))
  f20 := ⟨Tryz.f228.name, by decide, Tryz.func228.trans (congrArg some (by kernel_rfl))⟩
  f21 := ⟨Tryz.f229.name, by decide, Tryz.func229.trans (congrArg some (by kernel_rfl))⟩
  f22 := ⟨Tryz.f230.name, by decide, Tryz.func230.trans (congrArg some (by kernel_rfl))⟩
  f23 := ⟨Tryz.f231.name, by decide, Tryz.func231.trans (congrArg some (by kernel_rfl))⟩
  f24 := ⟨Tryz.f232.name, by decide, Tryz.func232.trans (congrArg some (by kernel_rfl))⟩
  f25 := ⟨Tryz.f233.name, by decide, Tryz.func233.trans (congrArg some (by kernel_rfl))⟩
  f26 := ⟨Tryz.f234.name, by decide, Tryz.func234.trans (congrArg some (by kernel_rfl))⟩
  f27 := ⟨Tryz.f235.name, by decide, Tryz.func235.trans (congrArg some (by kernel_rfl))⟩
  f28 := Tryz.func236.trans (congrArg some (by kernel_rfl))
  f29 := Tryz.func237.trans (congrArg some (by kernel_rfl))
  f46 := ⟨Tryz.f259.name, by decide, Tryz.func259.trans (congrArg some (by kernel_rfl))⟩
  f47 := Tryz.func260.trans (congrArg some (by kernel_rfl))
  f48 := Tryz.func261.trans (congrArg some (by kernel_rfl))
  f49 := ⟨Tryz.f262.name, by decide, Tryz.func262.trans (congrArg some (by kernel_rfl))⟩
  f50 := ⟨Tryz.f263.name, by decide, Tryz.func263.trans (congrArg some (by kernel_rfl))⟩
  f57 := ⟨Tryz.f279.name, by decide, Tryz.func279.trans (congrArg some (by kernel_rfl))⟩
  t0 := Tryz.underlying0
  a0 := Tryz.isAgg0
  z0 := Tryz.sizeOf0
  v0 := Tryz.zeroValue0
  t3 := Tryz.underlying3
  a3 := Tryz.isAgg3
  z3 := Tryz.sizeOf3
  v3 := Tryz.zeroValue3
  t4 := Tryz.underlying4
  a4 := Tryz.isAgg4
  z4 := Tryz.sizeOf4
  v4 := Tryz.zeroValue4
  t5 := Tryz.underlying5
  a5 := Tryz.isAgg5
  z5 := Tryz.sizeOf5
  v5 := Tryz.zeroValue5
  t9 := Tryz.underlying9
  a9 := Tryz.isAgg9
  z9 := Tryz.sizeOf9
  v9 := Tryz.zeroValue9
  t22 := Tryz.underlying78
  a22 := Tryz.isAgg78
  z22 := Tryz.sizeOf78
  v22 := Tryz.zeroValue78
  t25 := Tryz.underlying197
  a25 := Tryz.isAgg197
  z25 := Tryz.sizeOf197
  v25 := Tryz.zeroValue197
  t39 := Tryz.underlying236
  a39 := Tryz.isAgg236
  z39 := Tryz.sizeOf236
  v39 := Tryz.zeroValue236
  t45 := Tryz.underlying254
  a45 := Tryz.isAgg254
  z45 := Tryz.sizeOf254
  v45 := Tryz.zeroValue254
  t46 := Tryz.underlying255
  a46 := Tryz.isAgg255
  z46 := Tryz.sizeOf255
  v46 := Tryz.zeroValue255
  t50 := Tryz.underlying109
  a50 := Tryz.isAgg109
  z50 := Tryz.sizeOf109
  v50 := Tryz.zeroValue109
  t53 := Tryz.underlying261
  a53 := Tryz.isAgg261
  z53 := Tryz.sizeOf261
  v53 := Tryz.zeroValue261
  t55 := Tryz.underlying263
  a55 := Tryz.isAgg263
  z55 := Tryz.sizeOf263
  v55 := Tryz.zeroValue263
  t66 := Tryz.underlying272
  a66 := Tryz.isAgg272
  z66 := Tryz.sizeOf272
  v66 := Tryz.zeroValue272
  t70 := Tryz.underlying276
  a70 := Tryz.isAgg276
  z70 := Tryz.sizeOf276
  v70 := Tryz.zeroValue276
  t76 := Tryz.underlying282
  a76 := Tryz.isAgg282
  z76 := Tryz.sizeOf282
  v76 := Tryz.zeroValue282
  t77 := Tryz.underlying283
  a77 := Tryz.isAgg283
  z77 := Tryz.sizeOf283
  v77 := Tryz.zeroValue283 }
end Go.Proofs
namespace Go.Proofs.YtflgnpidelkkpaaGreat
set_option maxRecDepth 8000
set_option maxHeartbeats 1000000
open Go.Shelf Go.Sort
set_option linter.unusedVariables false
set_option linter.unusedSimpArgs false
instance : Inhabited JobV := ⟨JobZ⟩
def cmpI (x y : Int) : Int := if x < y then -1 else if y < x then 1 else 0
def orI (x y : Int) : Int := if x = 0 then y else x
def cfJ (x y : JobV) : Int := orI (cmpI x.deadline y.deadline) (cmpI x.task y.task)
theorem ltJ (x y : JobV) : ltOf cfJ x y = ahead (toHJ x) (toHJ y) := by
  unfold ltOf cfJ orI cmpI ahead toHJ
  dsimp only
  by_cases h1 : x.deadline < y.deadline
  · simp [h1]
  · by_cases h2 : y.deadline < x.deadline
    · have : ¬ x.deadline = y.deadline := by omega
      simp [h1, h2, this]
    · have : x.deadline = y.deadline := by omega
      by_cases h3 : x.task < y.task
      · simp [this, h3]
      · by_cases h4 : y.task < x.task <;> simp [this, h3, h4]
theorem ltJ_iff (x y : JobV) : ltOf cfJ x y = true ↔ (x.deadline < y.deadline ∨ (x.deadline = y.deadline ∧ x.task < y.task)) := by
  rw [ltJ]; unfold ahead
  simp only [Bool.or_eq_true, Bool.and_eq_true, decide_eq_true_eq, beq_iff_eq]
  exact Iff.rfl
theorem ltJ_not (x y : JobV) : ltOf cfJ x y = false ↔ ¬ (x.deadline < y.deadline ∨ (x.deadline = y.deadline ∧ x.task < y.task)) := by
  rw [← ltJ_iff, Bool.not_eq_true]
theorem swoJ : SWO (ltOf cfJ) where
  irrefl x := by rw [ltJ_not]; omega
  trans x y z h1 h2 := by rw [ltJ_iff] at *; omega
  ntrans x y z h1 h2 := by rw [ltJ_not] at *; omega
theorem grown_of_own {W w' : World} {hs : List Hp} (h : Own W (heapOf W) hs w') : ∃ q os', w' = Sort.grow (W.drewN q) os' := by
  have s := h.sub
  have hb : ∀ k o, W.heap[k]? = some o → w'.heap[k]? = some o := fun k o e => s.heap k o e
  refine ⟨w'.drawn - W.drawn, w'.heap.extract W.heap.size w'.heap.size, ?_⟩
  have hd := s.drawn
  have h2 : w'.heap = W.heap ++ w'.heap.extract W.heap.size w'.heap.size := by
    have hsz : W.heap.size ≤ w'.heap.size := by
      rcases Nat.eq_zero_or_pos W.heap.size with h0 | h0
      · omega
      · have := (Array.getElem?_eq_some_iff.1 (hb (W.heap.size - 1) _ (Array.getElem?_eq_getElem (by omega)))).1
        omega
    refine Array.ext (by simp; omega) fun i h1 h2 => ?_
    rw [Array.getElem_append]
    split
    · next hi =>
      have := hb i _ (Array.getElem?_eq_getElem hi)
      rw [Array.getElem?_eq_getElem h1] at this
      exact Option.some.inj this
    · simp only [Array.getElem_extract]
      congr 1; omega
  have e0 := s.os
  have e1 := s.tape
  have e2 := s.output
  clear hb s h
  obtain ⟨hp, tp, dr, os, out⟩ := w'
  dsimp only at h2 e0 e1 e2 hd ⊢
  subst e0 e1 e2
  unfold Sort.grow World.drewN
  have hd2 : W.drawn + (dr - W.drawn) = dr := by omega
  generalize hp.extract W.heap.size hp.size = tl at h2 ⊢
  subst h2
  rw [hd2]
theorem Spec.run {P : Program} {f : FuncId} {args : List Value} {F : Hp} {hs : List Hp} {K : Value → List Hp → Prop} (h : Spec P f args F hs K) (B w : World) (o : Own B F hs w) : Calls P f args.toArray w (RR B F K) := h B w o
attribute [local irreducible] W X WL WA WB WG WO Rn Own one splice Arr Spec WQ WH Qn
theorem isnan_any (x : Int) (F : Hp) : Spec Tryz.prog 238 [.int .i64 x] F [] fun v hs => v = .bool false ∧ hs = [] := by
  refine Spec.enter Tryz.func238 rfl Tryz.ntmps238 rfl fun B => ?_
  repeat' (first | refine soA ?_ | refine sgA ?_ | refine sxA ?_ | refine sbA ?_ | refine fun (Q : Post) hQ => ?_ | refine fun (nb : Nat) => (?_ : WL _ _ _ _ _ _ _ _ _) | (refine WL.guard rfl rfl rfl (fun h => ?_) (fun h => ?_) <;> (try dsimp only at h)))
  ((refine seE ?_); refine ⟨[], Keep.nil, ?_⟩)
  exact ⟨by rw [bne_self_eq_false], rfl⟩
theorem compare_any (x y : Int) (F : Hp) : Spec Tryz.prog 194 [.int .i64 x, .int .i64 y] F [] fun v hs => v = .int .i64 (cmpI x y) ∧ hs = [] := by
  refine Spec.enter Tryz.func194 rfl Tryz.ntmps194 rfl fun B => ?_
  repeat' (first | ((refine WL.ex rfl (WO.call0 Tryz.func238 rfl (by kernel_rfl) rfl (fun G hG hh => isnan_any _ G) ?_); rintro v own' ⟨rfl, rfl⟩)) | (first | refine soA ?_ | refine sgA ?_ | refine sxA ?_ | refine sbA ?_ | refine fun (Q : Post) hQ => ?_ | refine fun (nb : Nat) => (?_ : WL _ _ _ _ _ _ _ _ _) | (refine WL.guard rfl rfl rfl (fun h => ?_) (fun h => ?_) <;> (try dsimp only at h))))
  refine W.cond rfl (fun h => ?_) (fun h => ?_) <;> (try simp only [beq_iff_eq, bne_iff_ne, decide_eq_true_eq, decide_eq_false_iff_not, beq_eq_false_iff_ne, bne_eq_false_iff_eq, Bool.not_true, Bool.not_false, ne_eq, Int.not_lt, Int.not_le, Bool.not_eq_true', Bool.not_eq_false', Bool.not_eq_eq_eq_not] at h)
  · skip
    repeat' (first | refine soA ?_ | refine sgA ?_ | refine sxA ?_ | refine sbA ?_ | refine fun (Q : Post) hQ => ?_ | refine fun (nb : Nat) => (?_ : WL _ _ _ _ _ _ _ _ _) | (refine WL.guard rfl rfl rfl (fun h => ?_) (fun h => ?_) <;> (try dsimp only at h)))
    ((refine seE ?_); refine ⟨[], Keep.nil, ?_⟩)
    exact ⟨by unfold cmpI; rw [if_pos h], rfl⟩
  · skip
    repeat' (first | refine soA ?_ | refine sgA ?_ | refine sxA ?_ | refine sbA ?_ | refine fun (Q : Post) hQ => ?_ | refine fun (nb : Nat) => (?_ : WL _ _ _ _ _ _ _ _ _) | (refine WL.guard rfl rfl rfl (fun h => ?_) (fun h => ?_) <;> (try dsimp only at h)))
    refine W.cond rfl (fun h1 => ?_) (fun h1 => ?_)
    · skip
      repeat' (first | refine soA ?_ | refine sgA ?_ | refine sxA ?_ | refine sbA ?_ | refine fun (Q : Post) hQ => ?_ | refine fun (nb : Nat) => (?_ : WL _ _ _ _ _ _ _ _ _) | (refine WL.guard rfl rfl rfl (fun h => ?_) (fun h => ?_) <;> (try dsimp only at h)))
      ((refine seE ?_); refine ⟨[], Keep.nil, ?_⟩)
      have : y < x := by simpa using h1
      exact ⟨by unfold cmpI; rw [if_neg (by omega), if_pos this], rfl⟩
    · skip
      repeat' (first | refine soA ?_ | refine sgA ?_ | refine sxA ?_ | refine sbA ?_ | refine fun (Q : Post) hQ => ?_ | refine fun (nb : Nat) => (?_ : WL _ _ _ _ _ _ _ _ _) | (refine WL.guard rfl rfl rfl (fun h => ?_) (fun h => ?_) <;> (try dsimp only at h)))
      ((refine seE ?_); refine ⟨[], Keep.nil, ?_⟩)
      have : ¬ y < x := by simpa using h1
      exact ⟨by unfold cmpI; rw [if_neg (by omega), if_neg this], rfl⟩
theorem or_any (a b : Int) (A : Option Addr) (c : Nat) (F : Hp) (h0 : RowAt F [] A [.int .i64 a, .int .i64 b]) : Spec Tryz.prog 193 [.slice A 2 c] F [] fun v hs => v = .int .i64 (orI a b) ∧ hs = [] := by
  have h1 : RowAt F [] A ([a, b].flatMap fun x => [Value.int .i64 x]) := h0
  obtain ⟨g, o, rfl, g0⟩ := h1.elem 1 (fun _ => rfl) (by omega) 0 a rfl
  obtain ⟨g', o', e, g1⟩ := h1.elem 1 (fun _ => rfl) (by omega) 1 b rfl
  obtain ⟨rfl, rfl⟩ : g = g' ∧ o = o' := by cases e; exact ⟨rfl, rfl⟩
  refine Spec.enter Tryz.func193 rfl Tryz.ntmps193 rfl fun B => ?_
  repeat' (first | refine soA ?_ | refine sgA ?_ | refine sxA ?_ | refine sbA ?_ | refine fun (Q : Post) hQ => ?_ | refine fun (nb : Nat) => (?_ : WL _ _ _ _ _ _ _ _ _) | (refine WL.guard rfl rfl rfl (fun h => ?_) (fun h => ?_) <;> (try dsimp only at h)))
  refine W.loopK (σ := Nat) ⟨fun k => k = 0 ∨ (k = 1 ∧ a = 0) ∨ (k = 2 ∧ a = 0 ∧ b = 0), fun k => [(8, some (.int .i64 (k : Nat))), (7, some (.int .i64 (2 : Nat))), (6, some (.slice (some ⟨g, o, none⟩) 2 c)), (3, some (.int .i64 0))], fun _ => [], fun k => 2 - k⟩ 0 (.inl rfl) ⟨rfl, rfl, rfl, rfl, trivial⟩ Keep.nil fun k hk Q hL => ?_
  dsimp only at hk ⊢
  rcases hk with rfl | ⟨rfl, ha⟩ | ⟨rfl, ha, hb⟩
  · skip
    repeat' (first | ((apply WL.rd; (exact rfl); (exact Rn.indexAddr 0 rfl rfl rfl (by omega)))) | ((apply WL.rd; (exact rfl); (apply Rn.load; (exact rfl); exact (CellsAt.weak g0 (by simp)) 0 _ rfl))) | (first | refine soA ?_ | refine sgA ?_ | refine sxA ?_ | refine sbA ?_ | refine fun (Q : Post) hQ => ?_ | refine fun (nb : Nat) => (?_ : WL _ _ _ _ _ _ _ _ _) | (refine WL.guard rfl rfl rfl (fun h => ?_) (fun h => ?_) <;> (try dsimp only at h))))
    refine W.cond rfl (fun h => ?_) (fun h => ?_)
    · skip
      repeat' (first | refine soA ?_ | refine sgA ?_ | refine sxA ?_ | refine sbA ?_ | refine fun (Q : Post) hQ => ?_ | refine fun (nb : Nat) => (?_ : WL _ _ _ _ _ _ _ _ _) | (refine WL.guard rfl rfl rfl (fun h => ?_) (fun h => ?_) <;> (try dsimp only at h)))
      ((refine seE ?_); refine ⟨[], Keep.nil, ?_⟩)
      have : a ≠ 0 := by simpa using h
      exact ⟨by unfold orI; rw [if_neg this], rfl⟩
    · skip
      have ha : a = 0 := by simpa using h
      repeat' (first | refine soA ?_ | refine sgA ?_ | refine sxA ?_ | refine sbA ?_ | refine fun (Q : Post) hQ => ?_ | refine fun (nb : Nat) => (?_ : WL _ _ _ _ _ _ _ _ _) | (refine WL.guard rfl rfl rfl (fun h => ?_) (fun h => ?_) <;> (try dsimp only at h)))
      exact hL.nx 1 _ _ (.inr (.inl ⟨rfl, ha⟩)) (by dsimp only; omega) ⟨rfl, rfl, rfl, rfl, trivial⟩ Keep.nil
  · skip
    repeat' (first | ((apply WL.rd; (exact rfl); (exact Rn.indexAddr 1 rfl rfl rfl (by omega)))) | ((apply WL.rd; (exact rfl); (apply Rn.load; (exact rfl); exact (CellsAt.weak g1 (by simp)) 0 _ rfl))) | (first | refine soA ?_ | refine sgA ?_ | refine sxA ?_ | refine sbA ?_ | refine fun (Q : Post) hQ => ?_ | refine fun (nb : Nat) => (?_ : WL _ _ _ _ _ _ _ _ _) | (refine WL.guard rfl rfl rfl (fun h => ?_) (fun h => ?_) <;> (try dsimp only at h))))
    refine W.cond rfl (fun h => ?_) (fun h => ?_)
    · skip
      repeat' (first | refine soA ?_ | refine sgA ?_ | refine sxA ?_ | refine sbA ?_ | refine fun (Q : Post) hQ => ?_ | refine fun (nb : Nat) => (?_ : WL _ _ _ _ _ _ _ _ _) | (refine WL.guard rfl rfl rfl (fun h => ?_) (fun h => ?_) <;> (try dsimp only at h)))
      ((refine seE ?_); refine ⟨[], Keep.nil, ?_⟩)
      exact ⟨by unfold orI; rw [if_pos ha], rfl⟩
    · skip
      have hb : b = 0 := by simpa using h
      repeat' (first | refine soA ?_ | refine sgA ?_ | refine sxA ?_ | refine sbA ?_ | refine fun (Q : Post) hQ => ?_ | refine fun (nb : Nat) => (?_ : WL _ _ _ _ _ _ _ _ _) | (refine WL.guard rfl rfl rfl (fun h => ?_) (fun h => ?_) <;> (try dsimp only at h)))
      exact hL.nx 2 _ _ (.inr (.inr ⟨rfl, ha, hb⟩)) (by dsimp only; omega) ⟨rfl, rfl, rfl, rfl, trivial⟩ Keep.nil
  · skip
    repeat' (first | refine soA ?_ | refine sgA ?_ | refine sxA ?_ | refine sbA ?_ | refine fun (Q : Post) hQ => ?_ | refine fun (nb : Nat) => (?_ : WL _ _ _ _ _ _ _ _ _) | (refine WL.guard rfl rfl rfl (fun h => ?_) (fun h => ?_) <;> (try dsimp only at h)))
    ((refine seE ?_); refine ⟨[], Keep.nil, ?_⟩)
    exact ⟨by unfold orI; rw [if_pos ha, hb], rfl⟩
set_option maxHeartbeats 4000000 in
theorem order_any (x y : JobV) (F : Hp) : Spec Tryz.prog 140 [.agg x.enc.toArray, .agg y.enc.toArray] F [] fun v hs => v = .int .i64 (cfJ x y) ∧ hs = [] := by
  refine Spec.enter Tryz.func140 rfl Tryz.ntmps140 rfl fun B => ?_
  repeat' (first | refine soA ?_ | refine sgA ?_ | refine sxA ?_ | refine sbA ?_ | refine fun (Q : Post) hQ => ?_ | refine fun (nb : Nat) => (?_ : WL _ _ _ _ _ _ _ _ _) | (refine WL.guard rfl rfl rfl (fun h => ?_) (fun h => ?_) <;> (try dsimp only at h)))
  refine dra [(2, []), (3, [])] [] ?_
  refine drp 13 0 1 ?_
  refine drl 13 1 0 3 ?_
  refine drp 13 2 7 ?_
  refine drl 13 3 1 15 ?_
  refine drp 13 5 47 ?_
  refine drl 13 6 0 111 ?_
  refine drp 13 7 239 ?_
  refine drl 13 8 1 495 ?_
  refine dr1 4 ?_
  refine dre 13 4 511 ?_
  (refine WO.callN Tryz.func194 rfl (by kernel_rfl) rfl Takes.nil (fun G hG hh => compare_any _ _ G) ?_; rintro v own' ⟨rfl, rfl⟩)
  refine ⟨piA, ?_⟩
  refine dr1 9 ?_
  refine dre 13 9 1023 ?_
  (refine WO.callN Tryz.func194 rfl (by kernel_rfl) rfl Takes.nil (fun G hG hh => compare_any _ _ G) ?_; rintro v own' ⟨rfl, rfl⟩)
  refine ⟨piA, ?_⟩
  refine dr1 10 ?_
  refine dre 13 10 2047 ?_
  (apply WO.buildSlice; (exact rfl); (exact rfl); (exact fpA); intro nb)
  refine ⟨piA, ?_⟩
  refine dr1 11 ?_
  refine dre 13 11 4095 ?_
  (refine WO.callN Tryz.func193 rfl (by kernel_rfl) rfl Takes.nil (fun G hG hh => or_any (cmpI x.deadline y.deadline) (cmpI x.task y.task) _ 2 G (RowAt.cells (At.ro (hh _ (.head _) _ _ (one_get _ _))))) ?_; rintro v own' ⟨rfl, rfl⟩)
  refine ⟨piA, ?_⟩
  refine drp 13 12 8191 ?_
  refine drz ?_
  repeat' (first | refine soA ?_ | refine sgA ?_ | refine sxA ?_ | refine sbA ?_ | refine fun (Q : Post) hQ => ?_ | refine fun (nb : Nat) => (?_ : WL _ _ _ _ _ _ _ _ _) | (refine WL.guard rfl rfl rfl (fun h => ?_) (fun h => ?_) <;> (try dsimp only at h)))
  ((refine seE ?_); refine ⟨[], Keep.nil, ?_⟩)
  exact ⟨rfl, rfl⟩
theorem cmpJ (blk off size : Nat) (w : World) : CmpLays Tryz.prog 140 #[] JobV.enc 6 cfJ blk off size w := fun m os dk hs x y => by
  generalize sortWorldK JobV.enc 6 w blk off m dk os = W0
  refine ((order_any x y (heapOf W0)).run W0 W0 (own_heap W0)).mono fun e w' ⟨v, hs', e1, ⟨e2, _⟩, o⟩ => ⟨by rw [e1, e2], grown_of_own o⟩
end Go.Proofs.YtflgnpidelkkpaaGreat
namespace Go.Proofs.YtflgnpidelkkpaaGreat
set_option maxRecDepth 8000
set_option maxHeartbeats 1000000
open Go.Shelf Go.Sort
set_option linter.unusedVariables false
set_option linter.unusedSimpArgs false
def SrtJ (l : List JobV) : Prop := l.Pairwise fun x y => Go.Proofs.YtflgnpidelkkpaaGreat.ahead (toHJ y) (toHJ x) = false
theorem flatK_list (d : List JobV) : flatK JobV.enc 6 d.toArray = (d.flatMap JobV.enc).toArray := by
  have hl := flat_len JobV.enc 6 JobV.enc_len d
  refine Array.ext_getElem? fun t => ?_
  by_cases ht : t < d.length * 6
  · have h1 : t < (flatK JobV.enc 6 d.toArray).size := by rw [size_flatK]; simpa using ht
    have hi : t / 6 < d.length := by omega
    have hx : d[t / 6]? = some d[t / 6] := List.getElem?_eq_getElem hi
    have hj : t % 6 < (d[t / 6].enc).length := by rw [JobV.enc_len]; omega
    have hv := flat_get JobV.enc 6 JobV.enc_len d (t / 6) (t % 6) _ _ hx (List.getElem?_eq_getElem hj)
    have e : t / 6 * 6 + t % 6 = t := by omega
    rw [e] at hv
    have hg := get_flatK JobV.enc 6 d.toArray t (by simpa using ht)
    rw [getElem!_pos _ t h1] at hg
    have e2 : d.toArray[t / 6]! = d[t / 6] := by
      rw [getElem!_pos _ (t / 6) (by simpa using hi)]; simp
    rw [e2, getElem!_pos _ (t % 6) hj] at hg
    rw [Array.getElem?_eq_getElem h1, hg]
    simpa using hv.symm
  · rw [Array.getElem?_eq_none (by rw [size_flatK]; simpa using ht), Array.getElem?_eq_none (by simp [hl]; omega)]
theorem putCells_list (x a sp : List Value) (h : a.length = x.length) : putCells id 0 a.toArray (x ++ sp).toArray = (a ++ sp).toArray := by
  refine Array.ext (by simp [putCells, h]) fun i h1 h2 => ?_
  simp only [putCells, Array.getElem_mapIdx, Nat.zero_le, true_and, Nat.zero_add, List.size_toArray, Nat.sub_zero, id_eq, List.getElem_toArray]
  split
  · next hi =>
    rw [List.getElem_append_left hi, getElem!_pos _ i (by simpa using hi)]
    simp
  · next hi =>
    rw [List.getElem_append_right (by omega), List.getElem_append_right (by omega)]
    congr 1; omega
theorem sort_any (l : List JobV) (A : Option Addr) (c : Nat) (h : Hp) (ha : Arr 142 6 l.length (l.flatMap JobV.enc) A c h) (hA : A ≠ none) (hlen : l.length < 4611686018427387904) (F : Hp) :
    Spec Tryz.prog 139 [.slice A l.length c, .func (.func 140) #[] #[]] F [h] fun v hs => v = .tuple #[] ∧ ∃ l' h', l'.Perm l ∧ SrtJ l' ∧ Arr 142 6 l'.length (l'.flatMap JobV.enc) A c h' ∧ hs = [h'] := by
  intro B w ho
  obtain ⟨ha1, ⟨e1, _⟩ | ⟨g, sp, rfl, rfl, ha2, ha3, ha4⟩⟩ := ha
  · exact absurd e1 hA
  have hg : w.heap[g]? = some (cells (l.flatMap JobV.enc ++ sp) 142) := ho.all _ (.head _) _ _ (one_get _ _)
  have hfl := flat_len JobV.enc 6 JobV.enc_len l
  have hH : HoldsK JobV.enc 6 w g 0 l.toArray := by
    unfold HoldsK
    rw [flatK_list]
    intro j hj
    have hj : j < (l.flatMap JobV.enc).length := by simpa using hj
    constructor
    · simp only [World.cell?, hg, Nat.zero_add, id_eq]
      rw [getElem!_pos _ j (by simpa using hj)]
      simp [List.getElem?_append_left hj, List.getElem?_eq_getElem hj]
    · simp only [World.frozen?, hg, Nat.zero_add]
      simp
  have hb : g < w.heap.size := (Array.getElem?_eq_some_iff.1 hg).1
  have eg : ∀ args w, (callFunc 140 args).run Tryz.prog w = .ok (.enter 140 args) w := enters_of Tryz.func140 (by kernel_rfl) rfl
  have hcon := AnyQ.slices_SortFunc Tryz.sortJ 6 Tryz.isAgg142 Tryz.sizeOf142 JobV.enc JobV.enc_len (fun x v hv => by simp [JobV.enc] at hv; rcases hv with rfl | rfl | rfl | rfl | rfl | rfl <;> rfl) cfJ swoJ 140 #[] g 0 c l.toArray w eg (cmpJ g 0 _ w) hH hb (by simpa using hlen)
  have hs : l.toArray.size = l.length := by simp
  rw [hs] at hcon
  refine Calls.mono hcon ?_
  rintro e w' ⟨rfl, d', n, os, hp, hso, rfl⟩
  obtain ⟨hp1, _, hp3⟩ := hp
  have hd : d'.toList.length = l.length := by simpa using hp1
  have hperm : d'.toList.Perm l := by
    have e1 : d'.extract 0 l.length = d' := by rw [← hd]; simp
    have e2 : l.toArray.extract 0 l.length = l.toArray := by simp
    rw [e1, e2] at hp3
    simpa using hp3
  have hfl' := flat_len JobV.enc 6 JobV.enc_len d'.toList
  have hsrt : SrtJ d'.toList := by
    unfold SrtJ
    rw [List.pairwise_iff_getElem]
    intro i j hi hj hij
    have := hso i j (Nat.zero_le _) hij (by omega)
    rw [ltJ] at this
    rw [getElem!_pos _ j (by simpa using hj), getElem!_pos _ i (by simpa using hi)] at this
    simpa using this
  have hw : putRowK JobV.enc 6 (Sort.ahead w n) g 0 d' = mapBlock (Sort.ahead w n) g (putCells id 0 (d'.toList.flatMap JobV.enc).toArray) := by
    unfold putRowK putRow
    rw [← flatK_list]
  have hw' : (sortWorldK JobV.enc 6 w g 0 n d' os).heap = w.heap.modify g (onCells (putCells id 0 (d'.toList.flatMap JobV.enc).toArray)) ++ os := by
    unfold sortWorldK; rw [hw]; rfl
  refine ⟨_, _, rfl, ⟨rfl, d'.toList, one g (cells (d'.toList.flatMap JobV.enc ++ sp) 142), hperm, hsrt, Arr.mk (by rw [hfl']) (by rw [List.length_append, hfl', hd, ← hfl, ← List.length_append]; exact ha2) (by omega) ha4, rfl⟩, ?_⟩
  refine ho.grown (fun k hk hn => ?_) (fun k o hk => ?_) (by unfold sortWorldK; rw [hw]; rfl) (by unfold sortWorldK; rw [hw]; rfl) (by unfold sortWorldK; rw [hw]; rfl) (by unfold sortWorldK; rw [hw]; exact Nat.le_add_right _ _)
  · have hkg : g ≠ k := by
      intro e; subst e; rw [one_get] at hn; cases hn
    rw [hw', Array.getElem?_append_left (by simpa using hk), Array.getElem?_modify, if_neg hkg]
  · obtain ⟨rfl, rfl⟩ := one_inv hk
    refine ⟨?_, .inl (by rw [one_get]; simp)⟩
    rw [hw', Array.getElem?_append_left (by simpa using hb), Array.getElem?_modify, if_pos rfl, hg]
    simp only [Option.map_some, onCells]
    rw [putCells_list _ _ _ (by rw [hfl', hfl, hd])]
end Go.Proofs.YtflgnpidelkkpaaGreat
namespace Go.Proofs.YtflgnpidelkkpaaGreat
set_option maxRecDepth 8000
set_option maxHeartbeats 1000000
set_option linter.unusedVariables false
set_option linter.unusedSimpArgs false
def jv (l : List JobV) (k : Int) : JobV := (l.find? fun x => x.task == k).getD JobZ
structure LiS where
  ys : List KV
  n : Nat
  A : Option Addr
  c : Nat
  h : Hp
theorem jv_at {l : List JobV} (h : (l.map (·.task)).Nodup) {x : JobV} (hx : x ∈ l) : jv l x.task = x := by
  unfold jv; rw [jobD_at h hx]; rfl
theorem look_mem {xs : List KV} (d1 : (xs.map (·.1)).Nodup) {y : KV} (hy : y ∈ xs) : look xs y.1 = some y.2.1 := by
  unfold look
  cases hf : xs.find? (fun x => x.1 == y.1) with
  | none => exact absurd (beq_self_eq_true y.1) (List.find?_eq_none.1 hf y hy)
  | some w =>
    have hw : w.1 = y.1 := by simpa using List.find?_some hf
    rw [uniqJ d1 (List.mem_of_find?_eq_some hf) hy hw]; rfl
theorem val_at {l : List JobV} {xs : List KV} (d1 : (xs.map (·.1)).Nodup) (hD : ∀ k, look xs k = jobD l k) {y : KV} (hy : y ∈ xs) : y.2.1 = .agg (jv l y.1).enc.toArray := by
  have h := look_mem d1 hy
  rw [hD] at h
  unfold jobD at h
  unfold jv
  cases hf : l.find? (fun x => x.task == y.1) with
  | none => rw [hf] at h; cases h
  | some x => rw [hf] at h; exact (Option.some.inj h).symm
theorem keys_perm {l : List JobV} (hn : (l.map (·.task)).Nodup) {xs : List KV} (d1 : (xs.map (·.1)).Nodup) (hD : ∀ k, look xs k = jobD l k) : (xs.map (·.1)).Perm (l.map (·.task)) := by
  refine (List.perm_ext_iff_of_nodup d1 hn).2 fun k => ?_
  have h := hD k
  constructor
  · intro hk
    obtain ⟨y, hy, rfl⟩ := List.mem_map.1 hk
    rw [look_mem d1 hy] at h
    unfold jobD at h
    cases hf : l.find? (fun x => x.task == y.1) with
    | none => rw [hf] at h; cases h
    | some x =>
      have : x.task = y.1 := by simpa using List.find?_some hf
      exact List.mem_map.2 ⟨x, List.mem_of_find?_eq_some hf, this⟩
  · intro hk
    obtain ⟨x, hx, rfl⟩ := List.mem_map.1 hk
    unfold jobD at h
    rw [jobD_at hn hx] at h
    cases hq : look xs x.task with
    | none => rw [hq] at h; cases h
    | some v =>
      by_cases hin : x.task ∈ xs.map (·.1)
      · exact hin
      · have := look_none.2 (fun y hy e => hin (List.mem_map.2 ⟨y, hy, e⟩) : ∀ y ∈ xs, y.1 ≠ x.task)
        rw [this] at hq; cases hq
theorem list_perm {l : List JobV} (hn : (l.map (·.task)).Nodup) {xs ys : List KV} (d1 : (xs.map (·.1)).Nodup) (d2 : (xs.map (·.2.2)).Nodup) (hD : ∀ k, look xs k = jobD l k)
    (hy : ∀ y ∈ ys, y ∈ xs) (hyn : (ys.map (·.2.2)).Nodup) (hall : ∀ x ∈ xs, x.2.2 ∈ ys.map (·.2.2)) : (ys.map fun y => jv l y.1).Perm l := by
  have p1 : ys.Perm xs := by
    refine (List.perm_ext_iff_of_nodup (List.Pairwise.of_map _ (fun a b h e => h (by rw [e])) hyn) (List.Pairwise.of_map _ (fun a b h e => h (by rw [e])) d2)).2 fun y => ⟨hy y, fun hx => ?_⟩
    obtain ⟨z, hz, e⟩ := List.mem_map.1 (hall y hx)
    rw [← uniqJ d2 (hy z hz) hx e]; exact hz
  have p2 : (ys.map fun y => jv l y.1).Perm ((l.map (·.task)).map (jv l)) := by
    have := ((p1.map (·.1)).trans (keys_perm hn d1 hD)).map (jv l)
    rwa [List.map_map] at this
  have e : (l.map (·.task)).map (jv l) = l := by
    rw [List.map_map]
    conv => rhs; rw [← List.map_id l]
    exact List.map_congr_left fun x hx => jv_at hn hx
  rwa [e] at p2
theorem KV.len {l : List JobV} (hn : (l.map (·.task)).Nodup) {xs : List KV} (d1 : (xs.map (·.1)).Nodup) (hD : ∀ k, look xs k = jobD l k) : xs.length = l.length := by
  have := (keys_perm hn d1 hD).length_eq
  simpa using this
theorem ys_le {xs ys : List KV} (hy : ∀ y ∈ ys, y ∈ xs) (hyn : (ys.map (·.2.2)).Nodup) : ys.length ≤ xs.length :=
  (List.Nodup.length_le_of_subset (List.Pairwise.of_map _ (fun a b h e => h (by rw [e])) hyn) hy)
theorem Arr.solid {e : TypeId} {sz n c : Nat} {cs : List Value} {A : Option Addr} {h : Hp} (a : Arr e sz n cs A c h) (hn : 0 < n) : A ≠ none := by
  obtain ⟨g, sp, h0, _⟩ := a.some hn
  rw [h0]; simp
theorem sort_anyN (l : List JobV) (n : Nat) (hn : l.length = n) (A : Option Addr) (c : Nat) (h : Hp) (ha : Arr 142 6 l.length (l.flatMap JobV.enc) A c h) (hA : A ≠ none) (hlen : l.length < 4611686018427387904) (F : Hp) :
    Spec Tryz.prog 139 [.slice A n c, .func (.func 140) #[] #[]] F [h] fun v hs => v = .tuple #[] ∧ ∃ l' h', l'.Perm l ∧ SrtJ l' ∧ Arr 142 6 l'.length (l'.flatMap JobV.enc) A c h' ∧ hs = [h'] := by
  subst hn; exact sort_any l A c h ha hA hlen F
attribute [local irreducible] W X WL WA WB WG WO Rn Own one splice Arr Spec WQ WH Qn
set_option maxHeartbeats 4000000 in
theorem rylist_any (b : Nat) (l : List JobV) (hl : l.length * 48 ≤ 140737488355328) (F : Hp) (hs : List Hp) (ho : RdyC b l hs) : Spec Tryz.prog 88 [.pointer (some ⟨b, 0, none⟩)] F hs fun v hs' => ∃ l' A c h, v = .slice A l'.length c ∧ l'.Perm l ∧ SrtJ l' ∧ Arr 142 6 l'.length (l'.flatMap JobV.enc) A c h ∧ hs' = h :: hs := by
  have hnd := ho.nd
  obtain ⟨hb, m, hm, p, q, r, rfl, hc, hmi⟩ := ho
  obtain ⟨xs, ck, rfl, d1, d2, d3, hD⟩ := hmi.out
  have hxl := KV.len hnd d1 hD
  refine Spec.enter Tryz.func88 rfl Tryz.ntmps88 rfl fun B => ?_
  repeat' (first | ((apply WL.rd; (exact rfl); (exact Rn.lenMap (t := 172) (m := m) (ck := ck) (xs := xs) rfl (by simp)))) | ((apply WL.ex; (exact rfl); refine WO.makeSlice 0 xs.length rfl rfl rfl rfl (Nat.zero_le _) (by omega) (by omega) rfl ?_; intro nb)) | ((apply WL.ex; (exact rfl); refine WO.range (t := 172) (m := m) (ck := ck) (xs := xs) rfl (by simp) ?_; intro ri)) | (first | refine soA ?_ | refine sgA ?_ | refine sxA ?_ | refine sbA ?_ | refine fun (Q : Post) hQ => ?_ | refine fun (nb : Nat) => (?_ : WL _ _ _ _ _ _ _ _ _) | (refine WL.guard rfl rfl rfl (fun h => ?_) (fun h => ?_) <;> (try dsimp only at h))))
  have h0 : Arr 142 6 0 [] (some ⟨nb, 0, none⟩) xs.length (one nb (cells (zrow [.int .i64 0, .int .i64 0, .int .i64 0, .int .i64 0, .int .i64 0, .bool false] xs.length) 142)) := by
    have hz : (zrow [Value.int .i64 0, .int .i64 0, .int .i64 0, .int .i64 0, .int .i64 0, .bool false] xs.length).length = xs.length * 6 := by rw [zrow_len]; rfl
    exact Arr.mk (cs := []) rfl hz (Nat.zero_le _) (by unfold maxLen; omega)
  refine W.loopK (σ := LiS) ⟨fun s => (∀ y ∈ s.ys, y ∈ xs) ∧ (s.ys.map (·.2.2)).Nodup ∧ s.A ≠ none ∧ s.n = s.ys.length ∧ Arr 142 6 s.n ((s.ys.map fun y => jv l y.1).flatMap JobV.enc) s.A s.c s.h, fun s => [(3, some (.slice s.A s.n s.c)), (18, some (.pointer (some ⟨ri, 0, none⟩))), (0, some (.pointer (some ⟨b, 0, none⟩)))], fun s => s.h :: one ri (iterO m ck (s.ys.map (·.2.2)).toArray) :: [one b (cells [.pointer (some ⟨hb, 0, none⟩), .map (some m)] 174), one m (mapO xs ck), p, q, r], fun s => xs.length - s.ys.length⟩ ⟨[], 0, some ⟨nb, 0, none⟩, xs.length, _⟩ ⟨(fun _ h => nomatch h), List.nodup_nil, Option.some_ne_none _, rfl, h0⟩ ⟨rfl, rfl, rfl, trivial⟩ (by (exact keA)) ?_
  rintro ⟨ys, n, A, c, h⟩ ⟨hy, hyn, hA, hn, ha⟩ Q hL
  dsimp only at hy hyn hA hn ha ⊢
  subst hn
  have hyl := ys_le hy hyn
  refine W.seqK fun Q hQ => ?_
  refine W.region ?_
  apply WL.ex
  · exact rfl
  refine WO.next (m := m) (ck := ck) (r := ri) (seen := (ys.map (·.2.2)).toArray) (xs := xs) rfl (.there .here) (by simp) d3 (fun hall => ?_) (fun y hyx hny => ?_)
  · have hall2 : ∀ x ∈ xs, x.2.2 ∈ ys.map (·.2.2) := fun x hx => by simpa using hall x hx
    have hp := list_perm hnd d1 d2 hD hy hyn hall2
    have hln : (ys.map fun y => jv l y.1).length = ys.length := by simp
    rw [← hln] at ha
    have hlx := hp.length_eq
    repeat' (first | ((apply WL.ex; (exact rfl); refine WO.callN Tryz.func139 rfl (by kernel_rfl) rfl (own := [h]) (by (exact tsA)) (fun G hG hh => sort_anyN (ys.map fun y => jv l y.1) ys.length hln A c h ha hA (by omega) G) ?_; rintro v own' ⟨rfl, l', h', hp2, hs2, ha2, rfl⟩)) | (first | refine soA ?_ | refine sgA ?_ | refine sxA ?_ | refine sbA ?_ | refine fun (Q : Post) hQ => ?_ | refine fun (nb : Nat) => (?_ : WL _ _ _ _ _ _ _ _ _) | (refine WL.guard rfl rfl rfl (fun h => ?_) (fun h => ?_) <;> (try dsimp only at h))))
    (refine seE ?_)
    refine ⟨[h', one b (cells [.pointer (some ⟨hb, 0, none⟩), .map (some m)] 174), one m (mapO xs ck), p, q, r], (by (exact keA)), l', A, c, h', ?_, hp2.trans hp, hs2, ha2, rfl⟩
    rw [hp2.length_eq, hln]
  · obtain ⟨k, v, id⟩ := y
    have hv := val_at d1 hD hyx
    dsimp only at hv hny ⊢
    subst hv
    have e : (ys.map (·.2.2)).toArray.push id = ((ys ++ [((k, .agg (jv l k).enc.toArray, id) : KV)]).map (·.2.2)).toArray := by simp
    have hny2 : id ∉ ys.map (·.2.2) := fun h => hny (by simpa using h)
    have hyn2 : ((ys ++ [((k, .agg (jv l k).enc.toArray, id) : KV)]).map (·.2.2)).Nodup := by
      rw [List.map_append, List.nodup_append]
      refine ⟨hyn, by simp, ?_⟩
      rintro a ha b hb rfl
      simp only [List.map_cons, List.map_nil, List.mem_singleton] at hb
      subst hb; exact hny2 ha
    have hy2 : ∀ y ∈ ys ++ [((k, .agg (jv l k).enc.toArray, id) : KV)], y ∈ xs := fun y h => by
      rcases List.mem_append.1 h with h | h
      · exact hy y h
      · rw [List.mem_singleton] at h; subst h; exact hyx
    have hyl2 := ys_le hy2 hyn2
    have hyl3 : ys.length + 1 ≤ xs.length := by simpa using hyl2
    repeat' (first | ((apply WL.rd; (exact rfl); (exact Rn.entry (m := m) (ck := ck) (r := ri) (seen := (ys.map (·.2.2)).toArray) (xs := xs) (y := (k, .agg (jv l k).enc.toArray, id)) rfl (by simp) (by simp) hyx d2))) | ((apply WL.ex; (exact rfl); apply WO.append (h := h) (news := (jv l k).enc) (m := 1); (exact rfl); (exact rfl); (exact tkA); (exact ha); (exact rfl); (decide); (exact rfl); (apply RowAt.cells; (exact atA)); (exact rfl); (first | omega | (simp; omega) | simp); (first | omega | (simp; omega) | simp); intro A' c' h' hap)) | (first | refine soA ?_ | refine sgA ?_ | refine sxA ?_ | refine sbA ?_ | refine fun (Q : Post) hQ => ?_ | refine fun (nb : Nat) => (?_ : WL _ _ _ _ _ _ _ _ _) | (refine WL.guard rfl rfl rfl (fun h => ?_) (fun h => ?_) <;> (try dsimp only at h))))
    rw [e]
    exact hL.nx ⟨ys ++ [(k, .agg (jv l k).enc.toArray, id)], ys.length + 1, A', c', h'⟩ _ _ ⟨hy2, hyn2, Arr.solid hap (Nat.succ_pos _), by simp, by simpa using hap⟩ (by dsimp only; simp; omega) ⟨rfl, rfl, rfl, trivial⟩ (by (exact keA))
end Go.Proofs.YtflgnpidelkkpaaGreat
namespace Go.Proofs.YtflgnpidelkkpaaGreat
set_option maxRecDepth 8000
set_option maxHeartbeats 1000000
set_option linter.unusedVariables false
set_option linter.unusedSimpArgs false
attribute [local irreducible] W X WL WA WB WG WO Rn Own one splice Arr Spec WQ WH Qn
theorem JobV.eqL_refl (x : JobV) : eqL x.enc x.enc = true := by simp [JobV.enc, eqL, eqV]
set_option maxHeartbeats 2000000 in
theorem sameJ_yes (A A' : Option Addr) (c c' : Nat) (xs : List JobV) (F : Hp) (h0 : RowAt F [] A (xs.flatMap JobV.enc)) (h' : RowAt F [] A' (xs.flatMap JobV.enc)) (hm : xs.length ≤ 4611686018427387904) :
    Spec Tryz.prog 85 [.slice A xs.length c, .slice A' xs.length c'] F [] fun v hs => v = .bool true ∧ hs = [] := by
  refine Spec.enter Tryz.func85 rfl Tryz.ntmps85 rfl fun B => ?_
  repeat' (first | refine soA ?_ | refine sgA ?_ | refine sxA ?_ | refine sbA ?_ | refine fun (Q : Post) hQ => ?_ | refine fun (nb : Nat) => (?_ : WL _ _ _ _ _ _ _ _ _) | (refine WL.guard rfl rfl rfl (fun h => ?_) (fun h => ?_) <;> (try dsimp only at h)))
  refine W.cond rfl (fun h => ?_) (fun h => ?_)
  · exfalso; simp at h
  repeat' (first | refine soA ?_ | refine sgA ?_ | refine sxA ?_ | refine sbA ?_ | refine fun (Q : Post) hQ => ?_ | refine fun (nb : Nat) => (?_ : WL _ _ _ _ _ _ _ _ _) | (refine WL.guard rfl rfl rfl (fun h => ?_) (fun h => ?_) <;> (try dsimp only at h)))
  refine W.loopK (σ := Nat) ⟨fun k => k ≤ xs.length, fun k => [(5, some (.int .i64 (k : Nat))), (0, some (.slice A xs.length c)), (1, some (.slice A' xs.length c'))], fun _ => [], fun k => xs.length - k⟩ 0 (Nat.zero_le _) ⟨rfl, rfl, rfl, trivial⟩ Keep.nil fun k hk Q hL => ?_
  dsimp only at hk ⊢
  repeat' (first | refine soA ?_ | refine sgA ?_ | refine sxA ?_ | refine sbA ?_ | refine fun (Q : Post) hQ => ?_ | refine fun (nb : Nat) => (?_ : WL _ _ _ _ _ _ _ _ _) | (refine WL.guard rfl rfl rfl (fun h => ?_) (fun h => ?_) <;> (try dsimp only at h)))
  refine W.cond rfl (fun h => ?_) (fun h => ?_) <;> (try simp only [beq_iff_eq, bne_iff_ne, decide_eq_true_eq, decide_eq_false_iff_not, beq_eq_false_iff_ne, bne_eq_false_iff_eq, Bool.not_true, Bool.not_false, ne_eq, Int.not_lt, Int.not_le, Bool.not_eq_true', Bool.not_eq_false', Bool.not_eq_eq_eq_not] at h)
  · have hlt : k < xs.length := by omega
    obtain ⟨b, o, rfl, g1⟩ := h0.elem 6 JobV.enc_len (by omega) k xs[k] (List.getElem?_eq_getElem hlt)
    obtain ⟨b', o', rfl, g2⟩ := h'.elem 6 JobV.enc_len (by omega) k xs[k] (List.getElem?_eq_getElem hlt)
    repeat' (first | refine soA ?_ | refine sgA ?_ | refine sxA ?_ | refine sbA ?_ | refine fun (Q : Post) hQ => ?_ | refine fun (nb : Nat) => (?_ : WL _ _ _ _ _ _ _ _ _) | (refine WL.guard rfl rfl rfl (fun h => ?_) (fun h => ?_) <;> (try dsimp only at h)))
    refine dra [] [] ?_
    refine drp 9 0 1 ?_
    refine drp 9 1 3 ?_
    refine drp 9 2 7 (hy := by (exact Rn.indexAddr k rfl rfl rfl hlt)) ?_
    refine drp 9 3 15 (hy := by (apply Rn.loadS; (exact rfl); (exact g1); (exact rfl))) ?_
    refine drp 9 4 31 ?_
    refine drp 9 5 63 ?_
    refine drp 9 6 127 (hy := by (exact Rn.indexAddr k rfl rfl rfl hlt)) ?_
    refine drp 9 7 255 (hy := by (apply Rn.loadS; (exact rfl); (exact g2); (exact rfl))) ?_
    refine drp 9 8 511 ?_
    refine drz ?_
    repeat' (first | refine soA ?_ | refine sgA ?_ | refine sxA ?_ | refine sbA ?_ | refine fun (Q : Post) hQ => ?_ | refine fun (nb : Nat) => (?_ : WL _ _ _ _ _ _ _ _ _) | (refine WL.guard rfl rfl rfl (fun h => ?_) (fun h => ?_) <;> (try dsimp only at h)))
    refine W.cond rfl (fun h => ?_) (fun h => ?_)
    · rw [JobV.eqL_refl] at h; cases h
    repeat' (first | refine soA ?_ | refine sgA ?_ | refine sxA ?_ | refine sbA ?_ | refine fun (Q : Post) hQ => ?_ | refine fun (nb : Nat) => (?_ : WL _ _ _ _ _ _ _ _ _) | (refine WL.guard rfl rfl rfl (fun h => ?_) (fun h => ?_) <;> (try dsimp only at h)))
    exact hL.nx (k + 1) _ _ (by dsimp only; omega) (by dsimp only; omega) ⟨rfl, rfl, rfl, trivial⟩ Keep.nil
  · skip
    repeat' (first | refine soA ?_ | refine sgA ?_ | refine sxA ?_ | refine sbA ?_ | refine fun (Q : Post) hQ => ?_ | refine fun (nb : Nat) => (?_ : WL _ _ _ _ _ _ _ _ _) | (refine WL.guard rfl rfl rfl (fun h => ?_) (fun h => ?_) <;> (try dsimp only at h)))
    ((refine seE ?_); refine ⟨[], Keep.nil, ?_⟩)
    exact ⟨rfl, rfl⟩
end Go.Proofs.YtflgnpidelkkpaaGreat
