/- the law TaskLeast, walked. -/
import Derived.Test.YtmfphojmegfanabAns09
import Derived.Deep.RegionLaw
namespace Go.Proofs.Ytmfphojmegfanab
open Go.RowKit
set_option linter.unusedVariables false
theorem task_flat (xs : List TaskV) : (xs.flatMap TaskV.enc).length = xs.length * 4 := by
  induction xs with
  | nil => rfl
  | cons a l ih => rw [List.flatMap_cons, List.length_append, ih, List.length_cons, TaskV.enc_len]; omega
theorem task_one (xs : List TaskV) : ∀ u ∈ xs.flatMap TaskV.enc, u.oneCell' = true := by
  intro u hu
  obtain ⟨x, _, hx⟩ := List.mem_flatMap.1 hu
  simp only [TaskV.enc, List.mem_cons, List.not_mem_nil, or_false] at hx
  rcases hx with rfl | rfl | rfl | rfl <;> rfl
theorem task_info : (Try.prog.info? 24).map (fun i => (i.zero, i.size, i.bytes)) = some (some (.agg #[.int .i64 0, .int .i64 0, .slice none 0 0, .slice none 0 0]), 4, 64) := by kernel_rfl
theorem drew_block {w : World} {k : Nat} {o : Obj} (h : w.heap[k]? = some o) : w.drew.heap[k]? = some o := h
theorem grown_block {w w' : World} {g k : Nat} {o : Obj} (hg : w.grownBy w' (some g)) (h : w.heap[k]? = some o) (hne : k ≠ g) : w'.heap[k]? = some o :=
  (hg.block k (Array.getElem?_eq_some_iff.1 h).1 (by simpa using hne)).trans h
def hitS (s c : Int) (x : TaskV) : Bool := usesB x s && (x.period == c)
theorem ceil_le (s : Int) (ts : List TaskV) : ∀ b, ts.foldl (ceilS s) b ≤ b ∧ (∀ x ∈ ts, usesB x s = true → ts.foldl (ceilS s) b ≤ x.period) ∧ (ts.foldl (ceilS s) b = b ∨ ts.any (hitS s (ts.foldl (ceilS s) b)) = true) := by
  induction ts with
  | nil => intro b; exact ⟨Int.le_refl _, fun x hx => by simp at hx, Or.inl rfl⟩
  | cons a l ih =>
    intro b
    obtain ⟨h1, h2, h3⟩ := ih (ceilS s b a)
    rw [List.foldl_cons]
    have hb : ceilS s b a ≤ b ∧ (usesB a s = true → ceilS s b a ≤ a.period) ∧ (ceilS s b a = b ∨ (usesB a s = true ∧ ceilS s b a = a.period)) := by
      unfold ceilS
      by_cases hu : usesB a s = true
      · rw [if_pos hu]; exact ⟨by omega, fun _ => by omega, by rcases Int.le_total b a.period with h | h; exact Or.inl (Int.min_eq_left h); exact Or.inr ⟨hu, Int.min_eq_right h⟩⟩
      · rw [if_neg hu]; exact ⟨Int.le_refl _, fun h => absurd h hu, Or.inl rfl⟩
    refine ⟨by omega, fun x hx hu => ?_, ?_⟩
    · rcases List.mem_cons.1 hx with rfl | hx
      · have := hb.2.1 hu; omega
      · exact h2 x hx hu
    · rcases h3 with h3 | h3
      · rcases hb.2.2 with h | ⟨hu, h⟩
        · exact Or.inl (h3.trans h)
        · refine Or.inr ?_
          rw [List.any_cons, hitS, hu, h3, h]
          simp
      · exact Or.inr (by rw [List.any_cons, h3, Bool.or_true])
theorem hit_snoc (s c : Int) (ts : List TaskV) (k : Nat) (hk : k < ts.length) : (ts.take (k + 1)).any (hitS s c) = ((ts.take k).any (hitS s c) || hitS s c ts[k]) := by
  rw [List.take_succ_eq_append_getElem hk, List.any_append, List.any_cons, List.any_nil, Bool.or_false]
set_option maxHeartbeats 1000000 in
theorem walk_TaskLeast (ts : Sl TaskV) (t : TaskV) (s : Int) (w : World) (ha : ts.Ok TaskV.enc TaskV.Arg 64 w ∧ ts.c * 64 ≤ 140737488351232) (ht : t.Arg w) (hs : I64 s) :
    Calls Try.prog 6 #[ts.val, t.val, .int .i64 s] w fun e w' => e = .returned (.bool true) ∧ Ext w w' := by
  have hrow := ha.1.row
  have heach := fun x hx => (ha.1.each x hx).ok
  have hfit := ha.1.fit
  have hto := ht.ok
  clear ha ht hs
  obtain ⟨A, c, xs⟩ := ts
  dsimp only at hrow heach hfit
  have HE := Lib.hid heach
  obtain ⟨p1, p2, p3⟩ := ceil_le s xs 1099511627776
  have C1 := fun w' (h : Ext w w') => ceiling_row A c xs s w' (hrow.ext h) (fun x hx => (HE.out x hx).ext h) (by omega)
  have hc0 : xs.foldl (ceilS s) 1099511627776 = ceilF xs s := rfl
  rw [hc0] at p1 p2 p3
  clear hc0 heach
  have P2 := Lib.hid p2; have P3 := Lib.hid p3; clear p2 p3
  have C2 := fun (A' : Option Addr) c' w' (h : Ext w w') (hr : Row w' A' ((xs ++ [t]).flatMap TaskV.enc)) => ceiling_row A' c' (xs ++ [t]) s w' hr (fun x hx => by
    rcases List.mem_append.1 hx with hx | hx
    · exact (HE.out x hx).ext h
    · rw [List.mem_singleton.1 hx]; exact hto.ext h) (by simp; omega)
  have hcn : ceilF (xs ++ [t]) s = ceilS s (ceilF xs s) t := by unfold ceilF; rw [List.foldl_append]; rfl
  rw [hcn] at C2
  simp only [List.length_append, List.length_cons, List.length_nil, Nat.zero_add] at C2
  clear hcn
  have C3 := fun w' (h : Ext w w') => uses_any t s w' (hto.ext h)
  generalize ceilF xs s = u at C1 C2 P2 P3
  have HT := Lib.hid hto; clear hto
  obtain ⟨q0, q1, q2, q3⟩ := TaskV.boxed w t 24
  have hw0 : Ext w (w.alloc (.cells t.arr 24)) := (Ext.refl w).alloc _
  unfold TaskV.val Sl.val
  dsimp only
  go_enter Try.func6, Try.ntmps6
  go_wp2_with fail
  refine (C1 _ hw0).mono ?_
  rintro e w1 ⟨rfl, hb1⟩
  have q0 := hb1.cell q0
  have q1 := hb1.cell q1
  have q2 := hb1.cell q2
  have q3 := hb1.cell q3
  have hlt := hb1.lt
  have hw1 : Ext w w1 := hw0.trans hb1
  clear hb1 hw0 C1
  have hl : xs.length ≤ 4611686018427387904 := by omega
  go_wp2
  go_loopw [8, 9] (fun v i wr => ∃ (k : Nat) (b : Bool), k ≤ xs.length ∧ i = .int .i64 k ∧ v = .bool b ∧ Hid (b = ((u == 1099511627776) || (xs.take k).any (hitS s u))) ∧ Ext w1 wr) (fun _ i _ => xs.length - (intOf i).toNat)
  case atStart => exact ⟨0, _, by omega, rfl, rfl, Lib.hid (by simp), Ext.refl _⟩
  case round =>
    obtain ⟨k, b, hk, rfl, rfl, HB, hb⟩ := hrel
    have hw := hw1.trans hb
    by_cases hlt2 : k < xs.length
    · obtain ⟨b1, o, rfl, ub, u0, u1, u2, u3⟩ := TaskV.row (hrow.ext hw) k hlt2
      have hx : xs[k].Ok w := HE.out _ (List.getElem_mem hlt2)
      have HX := Lib.hid hx; clear hx
      have hsn := hit_snoc s u xs k hlt2
      have HS := Lib.hid hsn; clear hsn
      cases hm : usesB xs[k] s
      · have HM := Lib.hid hm; clear hm
        go_wp2_with fail
        refine (uses_any xs[k] s _ (HX.out.ext hw)).mono ?_
        rw [HM.out]
        rintro e w2 ⟨rfl, hb2⟩
        go_wp2
        go_roundw
        case rel => exact ⟨k + 1, b, by omega, by go_num, rfl, Lib.hid (by rw [HS.out, hitS, HM.out, Bool.false_and, Bool.or_false]; exact HB.out), hb.trans hb2⟩
        case measure => simp [intOf]; omega
      · have hp := P2.out _ (List.getElem_mem hlt2) hm
        have hd : decide (xs[k].period < u) = false := decide_eq_false (by omega)
        have HM := Lib.hid hm; clear hm hp
        obtain ⟨e, he⟩ : ∃ e, e = (xs[k].period == u) := ⟨_, rfl⟩
        have HEQ := Lib.hid he
        go_wp2_with fail
        refine (uses_any xs[k] s _ (HX.out.ext hw)).mono ?_
        rw [HM.out]
        rintro e2 w2 ⟨rfl, hb2⟩
        obtain ⟨hc2, hf2, hs2⟩ := hb2.rules
        cases b
        · go_wp2
          go_roundw
          case rel => exact ⟨k + 1, e, by omega, by go_num, by rw [he], Lib.hid (by rw [HS.out, hitS, HM.out, Bool.true_and, ← HEQ.out, ← Bool.or_assoc, ← HB.out, Bool.false_or]), hb.trans hb2⟩
          case measure => simp [intOf]; omega
        · go_wp2
          go_roundw
          case rel => exact ⟨k + 1, true, by omega, by go_num, rfl, Lib.hid (by rw [HS.out, ← Bool.or_assoc, ← HB.out, Bool.true_or]), hb.trans hb2⟩
          case measure => simp [intOf]; omega
    · have hks : k = xs.length := by omega
      subst hks
      have hbt : b = true := by
        have h1 := HB.out
        rw [List.take_length] at h1
        rcases P3.out with h3 | h3
        · rw [h1, h3]; rfl
        · rw [h1, h3, Bool.or_true]
      subst hbt
      obtain ⟨i0, hi0, hz0, hz1, hz2⟩ := info_parts task_info
      have hr0 := hrow.ext hw
      go_wp2
      go_cut [10] (fun v wc => ∃ A' c', v = .slice A' (xs.length + 1) c' ∧ Row wc A' ((xs ++ [t]).flatMap TaskV.enc) ∧ Ext wr wc)
      case first =>
        have q0 := hb.cell q0
        have q1 := hb.cell q1
        have q2 := hb.cell q2
        have q3 := hb.cell q3
        have hq : w.heap.size < wr.heap.size := by have := hb.size; omega
        go_region_law (first
          | (refine step_append_row _ rfl (.tmp 47) (.tmp 48) 30 rfl wr.heap.size 24 i0 _ 4 64 Try.underlying30 hi0 hz0 hz1 hz2 rfl (by omega) (.slice (some ⟨wr.heap.size, 0, none⟩) 0 0) 0 [] rfl (empty_own (g := wr.heap.size) (by repeat (first | with_reducible exact new_block _ _ _ (by simp) | with_reducible refine old_block ?_ | with_reducible refine drew_block ?_ | refine Ext.block (by assumption) ?_ | refine grown_block (by assumption) ?_ (by omega))) (by omega)) A xs.length c (xs.flatMap TaskV.enc) rfl (hr0.ext (by repeat (first | with_reducible exact Ext.refl _ | assumption | with_reducible refine Ext.drew ?_ | with_reducible refine Ext.drewN ?_ _ | with_reducible refine Ext.alloc ?_ _ | with_reducible refine Ext.set ?_ (by first | (simp only [World.size_alloc, World.size_drew]; omega) | omega) _ | refine Ext.trans ?_ (by assumption)))) (task_flat xs) (task_one xs) (by simp only [maxLen]; omega) (by omega) (by first | omega | (simp only [World.size_alloc, World.size_drew]; omega)) ?_; intro v1 w3 hown1 hg1 hat1; have hx1 : Ext wr w3 := Ext.grown (by repeat (first | with_reducible exact Ext.refl _ | assumption | with_reducible refine Ext.drew ?_ | with_reducible refine Ext.drewN ?_ _ | with_reducible refine Ext.alloc ?_ _ | with_reducible refine Ext.set ?_ (by first | (simp only [World.size_alloc, World.size_drew]; omega) | omega) _ | refine Ext.trans ?_ (by assumption))) hg1 (by rintro k hk; simp [Value.ownBlock] at hk; omega); have hz3 := hg1.size; simp only [World.size_alloc, World.size_drew] at hz3; have k0 := hx1.cell q0; have k1 := hx1.cell q1; have k2 := hx1.cell q2; have k3 := hx1.cell q3; have hq3 : w.heap.size < w3.heap.size := by omega)
          | (refine step_append_row _ rfl (.tmp 47) (.tmp 48) 30 rfl wr.heap.size 24 i0 _ 4 64 Try.underlying30 hi0 hz0 hz1 hz2 rfl (by omega) (.slice (some ⟨(wr.heap.size + 1), 0, none⟩) 0 0) 0 [] rfl (empty_own (g := (wr.heap.size + 1)) (by repeat (first | with_reducible exact new_block _ _ _ (by simp) | with_reducible refine old_block ?_ | with_reducible refine drew_block ?_ | refine Ext.block (by assumption) ?_ | refine grown_block (by assumption) ?_ (by omega))) (by omega)) A xs.length c (xs.flatMap TaskV.enc) rfl (hr0.ext (by repeat (first | with_reducible exact Ext.refl _ | assumption | with_reducible refine Ext.drew ?_ | with_reducible refine Ext.drewN ?_ _ | with_reducible refine Ext.alloc ?_ _ | with_reducible refine Ext.set ?_ (by first | (simp only [World.size_alloc, World.size_drew]; omega) | omega) _ | refine Ext.trans ?_ (by assumption)))) (task_flat xs) (task_one xs) (by simp only [maxLen]; omega) (by omega) (by first | omega | (simp only [World.size_alloc, World.size_drew]; omega)) ?_; intro v1 w3 hown1 hg1 hat1; have hx1 : Ext wr w3 := Ext.grown (by repeat (first | with_reducible exact Ext.refl _ | assumption | with_reducible refine Ext.drew ?_ | with_reducible refine Ext.drewN ?_ _ | with_reducible refine Ext.alloc ?_ _ | with_reducible refine Ext.set ?_ (by first | (simp only [World.size_alloc, World.size_drew]; omega) | omega) _ | refine Ext.trans ?_ (by assumption))) hg1 (by rintro k hk; simp [Value.ownBlock] at hk; omega); have hz3 := hg1.size; simp only [World.size_alloc, World.size_drew] at hz3; have k0 := hx1.cell q0; have k1 := hx1.cell q1; have k2 := hx1.cell q2; have k3 := hx1.cell q3; have hq3 : w.heap.size < w3.heap.size := by omega)
          | (refine step_append_row _ rfl (.tmp 49) (.tmp 51) 30 rfl wr.heap.size 24 i0 _ 4 64 Try.underlying30 hi0 hz0 hz1 hz2 rfl (by omega) v1 (0 + xs.length) ([] ++ xs.flatMap TaskV.enc) rfl (hown1.alloc _) (some ⟨wr.heap.size, 0, none⟩) 1 1 t.enc rfl (Row.of_block (cs := #[.int .i64 t.period, .int .i64 t.cycles, .slice t.sec.A t.sec.xs.length t.sec.c, .slice t.devs.A t.devs.xs.length t.devs.c]) (t := 24) (fr := (0, 0)) (by repeat (first | with_reducible exact new_block _ _ _ (by simp) | with_reducible refine old_block ?_ | with_reducible refine drew_block ?_ | refine Ext.block (by assumption) ?_ | refine grown_block (by assumption) ?_ (by omega)))) rfl (by simpa using task_one [t]) (by simp only [maxLen]; omega) (by omega) (by first | omega | (simp only [World.size_alloc, World.size_drew]; omega)) ?_; intro v2 w4 hown2 hg2 hat2)
          | (refine step_append_row _ rfl (.tmp 49) (.tmp 51) 30 rfl wr.heap.size 24 i0 _ 4 64 Try.underlying30 hi0 hz0 hz1 hz2 rfl (by omega) v1 (0 + xs.length) ([] ++ xs.flatMap TaskV.enc) rfl hown1 (some ⟨wr.heap.size, 0, none⟩) 1 1 t.enc rfl (Row.of_block (cs := #[.int .i64 t.period, .int .i64 t.cycles, .slice t.sec.A t.sec.xs.length t.sec.c, .slice t.devs.A t.devs.xs.length t.devs.c]) (t := 24) (fr := (0, 0)) (grown_block (show World.grownBy _ _ (some _) from hg1) (by repeat (first | with_reducible exact new_block _ _ _ (by simp) | with_reducible refine old_block ?_ | with_reducible refine drew_block ?_ | refine Ext.block (by assumption) ?_ | refine grown_block (by assumption) ?_ (by omega))) (by first | omega | simp))) rfl (by simpa using task_one [t]) (by simp only [maxLen]; omega) (by omega) (by first | omega | (simp only [World.size_alloc, World.size_drew]; omega)) ?_; intro v2 w4 hown2 hg2 hat2)
          | (refine step_append_row _ rfl (.tmp 49) (.tmp 51) 30 rfl wr.heap.size 24 i0 _ 4 64 Try.underlying30 hi0 hz0 hz1 hz2 rfl (by omega) v1 (0 + xs.length) ([] ++ xs.flatMap TaskV.enc) rfl hown1 (some ⟨wr.heap.size, 0, none⟩) 1 1 t.enc rfl (Row.of_block (cs := #[.int .i64 t.period, .int .i64 t.cycles, .slice t.sec.A t.sec.xs.length t.sec.c, .slice t.devs.A t.devs.xs.length t.devs.c]) (t := 24) (fr := (0, 0)) (by repeat (first | with_reducible exact new_block _ _ _ (by simp) | with_reducible refine old_block ?_ | with_reducible refine drew_block ?_ | refine Ext.block (by assumption) ?_ | refine grown_block (by assumption) ?_ (by omega)))) rfl (by simpa using task_one [t]) (by simp only [maxLen]; omega) (by omega) (by first | omega | (simp only [World.size_alloc, World.size_drew]; omega)) ?_; intro v2 w4 hown2 hg2 hat2)
          | (refine step_append_row _ rfl (.tmp 49) (.tmp 51) 30 rfl wr.heap.size 24 i0 _ 4 64 Try.underlying30 hi0 hz0 hz1 hz2 rfl (by omega) v1 (0 + xs.length) ([] ++ xs.flatMap TaskV.enc) rfl (hown1.alloc _) (some ⟨(wr.heap.size + 1), 0, none⟩) 1 1 t.enc rfl (Row.of_block (cs := #[.int .i64 t.period, .int .i64 t.cycles, .slice t.sec.A t.sec.xs.length t.sec.c, .slice t.devs.A t.devs.xs.length t.devs.c]) (t := 24) (fr := (0, 0)) (by repeat (first | with_reducible exact new_block _ _ _ (by simp) | with_reducible refine old_block ?_ | with_reducible refine drew_block ?_ | refine Ext.block (by assumption) ?_ | refine grown_block (by assumption) ?_ (by omega)))) rfl (by simpa using task_one [t]) (by simp only [maxLen]; omega) (by omega) (by first | omega | (simp only [World.size_alloc, World.size_drew]; omega)) ?_; intro v2 w4 hown2 hg2 hat2)
          | (refine step_append_row _ rfl (.tmp 49) (.tmp 51) 30 rfl wr.heap.size 24 i0 _ 4 64 Try.underlying30 hi0 hz0 hz1 hz2 rfl (by omega) v1 (0 + xs.length) ([] ++ xs.flatMap TaskV.enc) rfl hown1 (some ⟨(wr.heap.size + 1), 0, none⟩) 1 1 t.enc rfl (Row.of_block (cs := #[.int .i64 t.period, .int .i64 t.cycles, .slice t.sec.A t.sec.xs.length t.sec.c, .slice t.devs.A t.devs.xs.length t.devs.c]) (t := 24) (fr := (0, 0)) (grown_block (show World.grownBy _ _ (some _) from hg1) (by repeat (first | with_reducible exact new_block _ _ _ (by simp) | with_reducible refine old_block ?_ | with_reducible refine drew_block ?_ | refine Ext.block (by assumption) ?_ | refine grown_block (by assumption) ?_ (by omega))) (by first | omega | simp))) rfl (by simpa using task_one [t]) (by simp only [maxLen]; omega) (by omega) (by first | omega | (simp only [World.size_alloc, World.size_drew]; omega)) ?_; intro v2 w4 hown2 hg2 hat2)
          | (refine step_append_row _ rfl (.tmp 49) (.tmp 51) 30 rfl wr.heap.size 24 i0 _ 4 64 Try.underlying30 hi0 hz0 hz1 hz2 rfl (by omega) v1 (0 + xs.length) ([] ++ xs.flatMap TaskV.enc) rfl hown1 (some ⟨(wr.heap.size + 1), 0, none⟩) 1 1 t.enc rfl (Row.of_block (cs := #[.int .i64 t.period, .int .i64 t.cycles, .slice t.sec.A t.sec.xs.length t.sec.c, .slice t.devs.A t.devs.xs.length t.devs.c]) (t := 24) (fr := (0, 0)) (by repeat (first | with_reducible exact new_block _ _ _ (by simp) | with_reducible refine old_block ?_ | with_reducible refine drew_block ?_ | refine Ext.block (by assumption) ?_ | refine grown_block (by assumption) ?_ (by omega)))) rfl (by simpa using task_one [t]) (by simp only [maxLen]; omega) (by omega) (by first | omega | (simp only [World.size_alloc, World.size_drew]; omega)) ?_; intro v2 w4 hown2 hg2 hat2)
          | (refine step_append_row _ rfl (.tmp 49) (.tmp 51) 30 rfl wr.heap.size 24 i0 _ 4 64 Try.underlying30 hi0 hz0 hz1 hz2 rfl (by omega) v1 (0 + xs.length) ([] ++ xs.flatMap TaskV.enc) rfl (hown1.alloc _) (some ⟨w3.heap.size, 0, none⟩) 1 1 t.enc rfl (Row.of_block (cs := #[.int .i64 t.period, .int .i64 t.cycles, .slice t.sec.A t.sec.xs.length t.sec.c, .slice t.devs.A t.devs.xs.length t.devs.c]) (t := 24) (fr := (0, 0)) (by repeat (first | with_reducible exact new_block _ _ _ (by simp) | with_reducible refine old_block ?_ | with_reducible refine drew_block ?_ | refine Ext.block (by assumption) ?_ | refine grown_block (by assumption) ?_ (by omega)))) rfl (by simpa using task_one [t]) (by simp only [maxLen]; omega) (by omega) (by first | omega | (simp only [World.size_alloc, World.size_drew]; omega)) ?_; intro v2 w4 hown2 hg2 hat2)
          | (refine step_append_row _ rfl (.tmp 49) (.tmp 51) 30 rfl wr.heap.size 24 i0 _ 4 64 Try.underlying30 hi0 hz0 hz1 hz2 rfl (by omega) v1 (0 + xs.length) ([] ++ xs.flatMap TaskV.enc) rfl hown1 (some ⟨w3.heap.size, 0, none⟩) 1 1 t.enc rfl (Row.of_block (cs := #[.int .i64 t.period, .int .i64 t.cycles, .slice t.sec.A t.sec.xs.length t.sec.c, .slice t.devs.A t.devs.xs.length t.devs.c]) (t := 24) (fr := (0, 0)) (grown_block (show World.grownBy _ _ (some _) from hg1) (by repeat (first | with_reducible exact new_block _ _ _ (by simp) | with_reducible refine old_block ?_ | with_reducible refine drew_block ?_ | refine Ext.block (by assumption) ?_ | refine grown_block (by assumption) ?_ (by omega))) (by first | omega | simp))) rfl (by simpa using task_one [t]) (by simp only [maxLen]; omega) (by omega) (by first | omega | (simp only [World.size_alloc, World.size_drew]; omega)) ?_; intro v2 w4 hown2 hg2 hat2)
          | (refine step_append_row _ rfl (.tmp 49) (.tmp 51) 30 rfl wr.heap.size 24 i0 _ 4 64 Try.underlying30 hi0 hz0 hz1 hz2 rfl (by omega) v1 (0 + xs.length) ([] ++ xs.flatMap TaskV.enc) rfl hown1 (some ⟨w3.heap.size, 0, none⟩) 1 1 t.enc rfl (Row.of_block (cs := #[.int .i64 t.period, .int .i64 t.cycles, .slice t.sec.A t.sec.xs.length t.sec.c, .slice t.devs.A t.devs.xs.length t.devs.c]) (t := 24) (fr := (0, 0)) (by repeat (first | with_reducible exact new_block _ _ _ (by simp) | with_reducible refine old_block ?_ | with_reducible refine drew_block ?_ | refine Ext.block (by assumption) ?_ | refine grown_block (by assumption) ?_ (by omega)))) rfl (by simpa using task_one [t]) (by simp only [maxLen]; omega) (by omega) (by first | omega | (simp only [World.size_alloc, World.size_drew]; omega)) ?_; intro v2 w4 hown2 hg2 hat2))
        all_goals
          obtain ⟨A2, c2, rfl⟩ := own_form hown2
          go_wp2_with fail
          go_meet
          case rel =>
            refine ⟨A2, c2, by rw [Nat.zero_add], ?_, Ext.grown (by repeat (first | with_reducible exact Ext.refl _ | assumption | with_reducible refine Ext.drew ?_ | with_reducible refine Ext.drewN ?_ _ | with_reducible refine Ext.alloc ?_ _ | with_reducible refine Ext.set ?_ (by first | (simp only [World.size_alloc, World.size_drew]; omega) | omega) _ | refine Ext.trans ?_ (by assumption))) hg2 ?_⟩
            · have hm := (Mine.of_own hown2).row
              rw [List.flatMap_append, List.flatMap_cons, List.flatMap_nil, List.append_nil]
              simpa using hm
            · rintro k hk; rcases hat1 with h | h <;> rw [h] at hk <;> simp [Value.ownBlock] at hk <;> omega
      case rest =>
        obtain ⟨A', c', rfl, hrw, hx⟩ := hcut
        have hwc : Ext w wc := hw.trans hx
        have q0 := hx.cell (hb.cell q0)
        have q1 := hx.cell (hb.cell q1)
        have q2 := hx.cell (hb.cell q2)
        have q3 := hx.cell (hb.cell q3)
        have hq : w.heap.size < wc.heap.size := by have := hb.size; have := hx.size; omega
        have K2 := C2 A' c' wc hwc hrw
        clear C2 hrw hr0 hx hb
        by_cases hh : usesB t s = true ∧ t.period < u
        · have hc : ceilS s u t = t.period := by unfold ceilS; rw [if_pos hh.1]; omega
          rw [hc] at K2
          have hu := hh.1
          rw [hu] at C3
          have d1 : decide (t.period ≤ u) = true := decide_eq_true (by omega)
          have d2 : (t.period == u) = false := by have := hh.2; simp; omega
          clear hh hc hu
          go_wp2_with fail
          refine K2.mono ?_
          rintro e w5 ⟨rfl, hb5⟩
          go_wp2_with fail
          refine (answers09 _).mono ?_
          rintro e w6 ⟨rfl, hb6⟩
          have q0 := hb6.cell (hb5.cell q0)
          have q1 := hb6.cell (hb5.cell q1)
          have q2 := hb6.cell (hb5.cell q2)
          have q3 := hb6.cell (hb5.cell q3)
          have hw6 : Ext w w6 := (hwc.trans hb5).trans hb6
          clear hb5 hb6
          go_wp2_with fail
          refine (C3 _ hw6).mono ?_
          rintro e w7 ⟨rfl, hb7⟩
          have q0 := hb7.cell q0
          go_wp2
          go_ret
          exact ⟨rfl, hw6.trans hb7⟩
        · have hc : ceilS s u t = u := by
            unfold ceilS
            by_cases hu : usesB t s = true
            · rw [if_pos hu]; have : ¬ t.period < u := fun h => hh ⟨hu, h⟩; omega
            · rw [if_neg hu]
          rw [hc] at K2
          clear hh hc
          go_wp2_with fail
          refine K2.mono ?_
          rintro e w5 ⟨rfl, hb5⟩
          go_wp2_with fail
          refine (answers09 _).mono ?_
          rintro e w6 ⟨rfl, hb6⟩
          go_wp2
          go_ret
          exact ⟨rfl, (hwc.trans hb5).trans hb6⟩
end Go.Proofs.Ytmfphojmegfanab
