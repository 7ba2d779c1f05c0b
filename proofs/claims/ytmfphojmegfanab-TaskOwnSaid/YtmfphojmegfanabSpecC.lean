/- From contracts told of worlds to contracts of the engine. -/
import Derived.Test.YtmfphojmegfanabLaw
namespace Go.Proofs.Ytmfphojmegfanab
set_option linter.unusedVariables false
theorem Own.ext {B : World} : ∀ {hs : List Hp} {F : Hp} {w w' : World}, Own B F hs w → Ext w w' → Own B F hs w'
  | [], _, _, _, h, e => ⟨fun b o hb => Ext.block e (h.heap b o hb), (Go.RowKit.Below.os e).trans h.os, (Go.RowKit.Below.tape e).trans h.tape, (Go.RowKit.Below.output e).trans h.output⟩
  | _ :: _, _, _, _, ⟨h1, h2⟩, e => ⟨h1, Own.ext h2 e⟩
theorem Spec.ofCalls {P : Program} {f : FuncId} {args : List Value} {F : Hp} {hs : List Hp} {K0 : Value → Prop} (h : ∀ B w, Own B F hs w → Calls P f args.toArray w fun e w' => ∃ v, e = .returned v ∧ K0 v ∧ Ext w w') : Spec P f args F hs fun v hs' => K0 v ∧ hs' = hs :=
  fun B w ho => (h B w ho).mono fun e w' ⟨v, e1, e2, e3⟩ => ⟨v, hs, e1, ⟨e2, rfl⟩, ho.ext e3⟩
/-- W's memory with the outside of w -/
def atW (W w : World) : World := { W with os := w.os, tape := w.tape, output := w.output }
theorem ext_at {W w B : World} {G : Hp} {hs : List Hp} (hG : (heapOf W).le G) (H : Own B G hs w) : Ext (atW W w) w := by
  have s := H.sub
  have hb : ∀ k o, W.heap[k]? = some o → w.heap[k]? = some o := fun k o e => s.heap k o (hG k o e)
  refine ⟨rfl, rfl, rfl, ?_, fun k hk => ?_⟩
  · show W.heap.size ≤ w.heap.size
    rcases Nat.eq_zero_or_pos W.heap.size with h0 | h0
    · omega
    · have := (Array.getElem?_eq_some_iff.1 (hb (W.heap.size - 1) _ (Array.getElem?_eq_getElem (by omega)))).1
      omega
  · have hk : k < W.heap.size := hk
    show w.heap[k]? = W.heap[k]?
    rw [Array.getElem?_eq_getElem hk]
    exact hb k _ (Array.getElem?_eq_getElem hk)
end Go.Proofs.Ytmfphojmegfanab
