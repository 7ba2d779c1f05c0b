/- task.Own. -/
import Derived.Test.YtmfphojmegfanabClone
import Derived.Deep.RegionLaw
namespace Go.Proofs.Ytmfphojmegfanab
open Go.RowKit
set_option linter.unusedVariables false
def Apart (A B : Option Addr) (xs ys : List Int) : Prop := xs ≠ [] → ys ≠ [] → ∀ g h, A = some ⟨g, 0, none⟩ → B = some ⟨h, 0, none⟩ → g ≠ h
structure OwnPost (t : TaskV) (w : World) (e : Ending) (w' : World) : Prop where
  get : ∃ A B, e = .returned (TaskV.val ⟨t.period, t.cycles, ⟨A, t.sec.xs.length, t.sec.xs⟩, ⟨B, t.devs.xs.length, t.devs.xs⟩⟩) ∧ Mine w' w.heap.size 3 A (t.sec.xs.flatMap encI) ∧ Mine w' w.heap.size 3 B (t.devs.xs.flatMap encI) ∧ Apart A B t.sec.xs t.devs.xs ∧ Ext w w'
theorem setCell_far (w : World) {p : Addr} (u : Value) {k : Nat} (h : k ≠ p.block) : (w.setCell p u).heap[k]? = w.heap[k]? := Below.heap_setCell _ _ _ _ h
theorem Mine.ext {w w' : World} {base : Nat} {e : TypeId} {A : Option Addr} {cs : List Value} (h : Mine w base e A cs) (hb : Ext w w') : Mine w' base e A cs := by
  rcases h with h | ⟨g, cur, h1, h2, h3, h4⟩
  · exact Or.inl h
  · exact Or.inr ⟨g, cur, h1, h2, hb.block h3, h4⟩
theorem Mine.mono {w : World} {base base' : Nat} {e : TypeId} {A : Option Addr} {cs : List Value} (h : Mine w base e A cs) (hb : base' ≤ base) : Mine w base' e A cs := by
  rcases h with h | ⟨g, cur, h1, h2, h3, h4⟩
  · exact Or.inl h
  · exact Or.inr ⟨g, cur, h1, by omega, h3, h4⟩
theorem Mine.set {w : World} {base : Nat} {e : TypeId} {A : Option Addr} {cs : List Value} (h : Mine w base e A cs) {p : Addr} (hp : p.block < base) (u : Value) : Mine (w.setCell p u) base e A cs := by
  rcases h with h | ⟨g, cur, h1, h2, h3, h4⟩
  · exact Or.inl h
  · exact Or.inr ⟨g, cur, h1, h2, by rw [setCell_far w u (by omega)]; exact h3, h4⟩
theorem flat_nil {xs : List Int} (h : xs.flatMap encI = []) : xs = [] := by
  cases xs with
  | nil => rfl
  | cons a l => simp [List.flatMap_cons, encI] at h
theorem Mine.apart {w1 w2 : World} {b1 : Nat} {e : TypeId} {A B : Option Addr} {xs ys : List Int} (h : Mine w1 b1 e A (xs.flatMap encI)) (k : Mine w2 w1.heap.size e B (ys.flatMap encI)) : Apart A B xs ys := by
  intro hx hy g h' hA hB
  rcases h with h | ⟨g1, cur, h1, h2, h3, h4⟩
  · exact absurd (flat_nil h) hx
  · rcases k with k | ⟨g2, cur2, k1, k2, k3, k4⟩
    · exact absurd (flat_nil k) hy
    · subst h1; subst k1; cases hA; cases hB
      have := (Array.getElem?_eq_some_iff.1 h3).1
      omega
theorem frozen_of {w : World} {b i : Nat} {cs : Array Value} {t : TypeId} (h : w.heap[b]? = some (.cells cs t)) : w.frozen? ⟨b, i, none⟩ = false := by
  simp only [World.frozen?, h]
  simp
theorem boxF (t : TaskV) (ty : TypeId) (cs : Array Value) {w w1 : World} (h : Ext ((w.alloc (.cells t.arr ty)).alloc (.cells cs ty)) w1) :
    w1.cell? ⟨w.heap.size, 0, none⟩ = some (.int .i64 t.period) ∧ w1.cell? ⟨w.heap.size, 1, none⟩ = some (.int .i64 t.cycles) ∧
    w1.cell? ⟨w.heap.size, 2, none⟩ = some (.slice t.sec.A t.sec.xs.length t.sec.c) ∧ w1.cell? ⟨w.heap.size, 3, none⟩ = some (.slice t.devs.A t.devs.xs.length t.devs.c) ∧
    (∀ i, w1.frozen? ⟨w.heap.size, i, none⟩ = false ∧ w1.frozen? ⟨w.heap.size + 1, i, none⟩ = false) ∧ (∀ i u, cs[i]? = some u → w1.cell? ⟨w.heap.size + 1, i, none⟩ = some u) ∧ w.heap.size + 1 < w1.heap.size := by
  obtain ⟨p0, p1, p2, p3⟩ := TaskV.boxed w t ty
  have hx : Ext (w.alloc (.cells t.arr ty)) w1 := ((Ext.refl _).alloc _).trans h
  have h1 : w1.heap[w.heap.size]? = some (.cells t.arr ty) := hx.block (heap_alloc_new w _)
  have h2 : w1.heap[w.heap.size + 1]? = some (.cells cs ty) := h.block (by have := heap_alloc_new (w.alloc (.cells t.arr ty)) (.cells cs ty); simpa only [World.size_alloc] using this)
  refine ⟨hx.cell p0, hx.cell p1, hx.cell p2, hx.cell p3, fun i => ⟨frozen_of h1, frozen_of h2⟩, fun i u hu => by simp only [World.cell?, h2]; simpa using hu, ?_⟩
  have := h.size
  simp only [World.size_alloc] at this
  omega
set_option maxHeartbeats 1000000 in
theorem own_any (t : TaskV) (w : World) (ht : t.Ok w) : Calls Try.prog 12 #[t.val] w (OwnPost t w) := by
  have hfs := ht.sec.fit
  have hfd := ht.devs.fit
  have hrs := ht.sec.row
  have hrd := ht.devs.row
  clear ht
  unfold TaskV.val
  have C1 := fun w' (h : Ext w w') => clone_any t.sec.A t.sec.c t.sec.xs w' (hrs.ext h) hfs
  have C2 := fun w' (h : Ext w w') => clone_any t.devs.A t.devs.c t.devs.xs w' (hrd.ext h) hfd
  have C3 := fun A c w' (h : t.sec.xs.length ≤ c) => clip_any A t.sec.xs.length c w' h (by omega)
  have C4 := fun A c w' (h : t.devs.xs.length ≤ c) => clip_any A t.devs.xs.length c w' h (by omega)
  clear hfs hfd hrs hrd
  go_enter Try.func12, Try.ntmps12
  go_upto_region 1 with fail
  go_region_law (first
    | (go_simp; go_at_call 19; with_reducible refine Calls.mono (C1 _ ?hx) ?_; (case hx => exact (by repeat (first | exact Ext.refl _ | assumption | refine Ext.alloc ?_ _ | refine Ext.drew ?_ | refine Ext.drewN ?_ _ | refine Ext.trans ?_ (by assumption)))); rintro e w1 ⟨A1, c1, rfl, hm1, hc1, hb1⟩; have HB1 : Ext ((w.alloc (.cells #[.int .i64 t.period, .int .i64 t.cycles, .slice t.sec.A t.sec.xs.length t.sec.c, .slice t.devs.A t.devs.xs.length t.devs.c] 24)).alloc (.cells #[.int .i64 0, .int .i64 0, .slice none 0 0, .slice none 0 0] 24)) w1 := Ext.trans (by (repeat (first | with_reducible exact Ext.refl _ | assumption | with_reducible refine Ext.drew ?_ | with_reducible refine Ext.drewN ?_ _ | with_reducible refine Ext.alloc ?_ _ | with_reducible refine Ext.set ?_ (by first | (simp only [World.size_alloc, World.size_drew]; omega) | omega) _ | refine Ext.trans ?_ (by assumption))) <;> fail) hb1; obtain ⟨b0, b1, b2, b3, bf0, bg, b4⟩ := boxF t _ _ HB1)
    | (go_simp; go_at_call 19; with_reducible refine Calls.mono (C2 _ ?hx) ?_; (case hx => exact (by repeat (first | exact Ext.refl _ | assumption | refine Ext.alloc ?_ _ | refine Ext.drew ?_ | refine Ext.drewN ?_ _ | refine Ext.trans ?_ (by assumption)))); rintro e w2 ⟨A2, c2, rfl, hm2, hc2, hb2⟩; have HB2 : Ext ((w.alloc (.cells #[.int .i64 t.period, .int .i64 t.cycles, .slice t.sec.A t.sec.xs.length t.sec.c, .slice t.devs.A t.devs.xs.length t.devs.c] 24)).alloc (.cells #[.int .i64 0, .int .i64 0, .slice none 0 0, .slice none 0 0] 24)) w2 := Ext.trans (by (repeat (first | with_reducible exact Ext.refl _ | assumption | with_reducible refine Ext.drew ?_ | with_reducible refine Ext.drewN ?_ _ | with_reducible refine Ext.alloc ?_ _ | with_reducible refine Ext.set ?_ (by first | (simp only [World.size_alloc, World.size_drew]; omega) | omega) _ | refine Ext.trans ?_ (by assumption))) <;> fail) hb2; obtain ⟨d0, d1, d2, d3, df0, dg, d4⟩ := boxF t _ _ HB2)
    | (go_simp; go_at_call 18; with_reducible refine Calls.mono (C3 A1 c1 _ hc1) ?_; rintro e w9 ⟨rfl, rfl⟩)
    | (go_simp; go_at_call 18; with_reducible refine Calls.mono (C4 A2 c2 _ hc2) ?_; rintro e w9 ⟨rfl, rfl⟩))
  all_goals
    go_wp2
    have e0 := dg 0 _ rfl
    have e1 := dg 1 _ rfl
    have e2 := dg 2 _ rfl
    have e3 := dg 3 _ rfl
    have hz : (w.heap.size : Nat) + 2 ≤ w1.heap.size := by have := HB1.size; simp only [World.size_alloc] at this; omega
    have hm1' : Mine w2 (w.heap.size + 2) 3 A1 (t.sec.xs.flatMap encI) := (hm1.ext hb2).mono (by simp only [World.size_drew, World.size_alloc]; omega)
    have hm2' : Mine w2 (w.heap.size + 2) 3 A2 (t.devs.xs.flatMap encI) := hm2.mono (by first | omega | (simp only [World.size_drew]; omega))
    have hap : Apart A1 A2 t.sec.xs t.devs.xs := hm1.apart hm2
    have hext : Ext w w2 := ((((Ext.refl w).alloc _).alloc _)).trans HB2
    clear C1 C2 C3 C4 hm1 hm2 hb1 hb2 HB1 HB2 b0 b1 b2 b3 bf0 bg dg
    refine bodyPost_ret (v := TaskV.val ⟨t.period, t.cycles, ⟨A1, t.sec.xs.length, t.sec.xs⟩, ⟨A2, t.devs.xs.length, t.devs.xs⟩⟩) (by simp [results, Try.results12, go_sem, TaskV.val, e0, e1, e2, e3]) rfl ⟨A1, A2, rfl, ?_, ?_, hap, ?_⟩
    · exact ((((((hm1'.set (by simp) _).set (by simp) _).set (by simp) _).set (by simp) _).set (by simp) _).set (by simp) _).mono (by omega)
    · exact ((((((hm2'.set (by simp) _).set (by simp) _).set (by simp) _).set (by simp) _).set (by simp) _).set (by simp) _).mono (by omega)
    · exact ((((((hext.set (by simp) _).set (by simp) _).set (by simp) _).set (by simp) _).set (by simp) _).set (by simp) _)
end Go.Proofs.Ytmfphojmegfanab
