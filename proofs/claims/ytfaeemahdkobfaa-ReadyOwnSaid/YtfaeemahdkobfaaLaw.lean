/- From a contract to the walk that a law's row asks for. -/
import Derived.Test.YtfaeemahdkobfaaOps4
namespace Go.Proofs.Ytfaeemahdkobfaa
set_option linter.unusedVariables false
/-- all of memory -/
def heapOf (W : World) : Hp := ⟨fun b => W.heap[b]?⟩
theorem own_heap (W : World) : Own W (heapOf W) [] W := ⟨fun _ _ h => h, rfl, rfl, rfl, Nat.le_refl _⟩
theorem ext_of_own {W w' : World} {hs : List Hp} (h : Own W (heapOf W) hs w') : Ext W w' := by
  have s := h.sub
  have hb : ∀ k o, W.heap[k]? = some o → w'.heap[k]? = some o := fun k o e => s.heap k o e
  refine ⟨s.os, s.tape, s.output, ?_, fun k hk => ?_⟩
  · rcases Nat.eq_zero_or_pos W.heap.size with h0 | h0
    · omega
    · have := (Array.getElem?_eq_some_iff.1 (hb (W.heap.size - 1) _ (Array.getElem?_eq_getElem (by omega)))).1
      omega
  · rw [Array.getElem?_eq_getElem hk]
    exact hb k _ (Array.getElem?_eq_getElem hk)
theorem Spec.law {P : Program} {f : FuncId} {args : List Value} {W : World} {v : Value} (h : Spec P f args (heapOf W) [] fun u hs => u = v ∧ hs = []) : Calls P f args.toArray W fun e w' => e = .returned v ∧ Ext W w' :=
  (h W W (own_heap W)).mono fun e w' ⟨u, hs, e1, ⟨e2, _⟩, o⟩ => ⟨by rw [e1, e2], ext_of_own o⟩
theorem Row.at {W : World} {A : Option Addr} {cs : List Value} (h : Row W A cs) : RowAt (heapOf W) [] A cs := fun j v e => by
  obtain ⟨b, o, h1, h2⟩ := h j v e
  refine ⟨b, o, h1, ?_⟩
  simp only [World.cell?] at h2
  split at h2
  · next c t fz hb => exact ⟨c, t, fz, .ro hb, by simpa using h2⟩
  · cases h2
end Go.Proofs.Ytfaeemahdkobfaa
