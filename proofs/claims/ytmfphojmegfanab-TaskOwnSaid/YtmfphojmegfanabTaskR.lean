/- which tasks may be: the reference's Task. -/
import Derived.Test.YtmfphojmegfanabTask
import Derived.BigQuiet
import Derived.Deep.QuietTactic
namespace Go.Proofs.Ytmfphojmegfanab
open Go.RowKit
set_option linter.unusedVariables false

def taskP1 (p : PlatV) (t : TaskV) : Prop := 1 ≤ t.period ∧ t.period ≤ p.horizon ∧ 1 ≤ t.cycles ∧ t.cycles ≤ 4096 ∧ (t.sec.xs.length : Int) ≤ p.sems
def secP (t : TaskV) : Prop := ∀ x ∈ t.sec.xs, 0 ≤ x ∧ x ≤ t.cycles
def devOk (nd : Nat) (xs : List Int) (k : Nat) : Prop := ∀ x, xs[k]? = some x → 0 ≤ x ∧ x < nd ∧ ∀ m a, k = m + 1 → xs[m]? = some a → a < x
def devsP (nd : Nat) (xs : List Int) : Prop := ∀ k, k < xs.length → devOk nd xs k
def taskP (p : PlatV) (t : TaskV) : Prop := taskP1 p t ∧ secP t ∧ devsP p.devices.xs.length t.devs.xs
open Classical in
noncomputable def taskB (p : PlatV) (t : TaskV) : Bool := decide (taskP p t)
theorem taskB_iff {p : PlatV} {t : TaskV} : taskB p t = true ↔ taskP p t := by simp [taskB]
theorem taskB_no {p : PlatV} {t : TaskV} (h : ¬ taskP p t) : false = taskB p t := by simp [taskB, h]
theorem taskB_yes {p : PlatV} {t : TaskV} (h : taskP p t) : true = taskB p t := (taskB_iff.2 h).symm
theorem devOk_zero {nd : Nat} {xs : List Int} (hk : 0 < xs.length) (h1 : 0 ≤ xs[0]) (h2 : xs[0] < nd) : devOk nd xs 0 := fun x hx => by
  rw [List.getElem?_eq_getElem hk] at hx
  cases hx
  exact ⟨h1, h2, fun m a h => by omega⟩
theorem devOk_succ {nd : Nat} {xs : List Int} {k : Nat} (hk : k + 1 < xs.length) (h1 : 0 ≤ xs[k + 1]) (h2 : xs[k + 1] < nd) (h3 : xs[k] < xs[k + 1]) : devOk nd xs (k + 1) := fun x hx => by
  rw [List.getElem?_eq_getElem hk] at hx
  cases hx
  refine ⟨h1, h2, fun m a h ha => ?_⟩
  obtain rfl : k = m := by omega
  rw [List.getElem?_eq_getElem (by omega)] at ha
  cases ha
  exact h3
theorem devOk_at {nd : Nat} {xs : List Int} {k : Nat} (hk : k < xs.length) (h : devOk nd xs k) : 0 ≤ xs[k] ∧ xs[k] < nd := ⟨(h _ (List.getElem?_eq_getElem hk)).1, (h _ (List.getElem?_eq_getElem hk)).2.1⟩
theorem devOk_step {nd : Nat} {xs : List Int} {k : Nat} (hk : k + 1 < xs.length) (h : devOk nd xs (k + 1)) : xs[k] < xs[k + 1] := (h _ (List.getElem?_eq_getElem hk)).2.2 k _ rfl (List.getElem?_eq_getElem (by omega))

end Go.Proofs.Ytmfphojmegfanab
