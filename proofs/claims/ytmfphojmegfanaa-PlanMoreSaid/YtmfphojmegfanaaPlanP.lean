/- what untilF says: plain. -/
import Derived.Test.YtmfphojmegfanaaPlan
namespace Go.Proofs.Ytmfphojmegfanaa
open Go.RowKit
def cond (d : Int) (x : TaskV × Int) : Prop := 0 < x.1.period ∧ memB d x.1.devs.xs = true
theorem step_eq (d now u : Int) (x : TaskV × Int) : (cond d x ∧ stepT d now u x = min u (max x.2 now)) ∨ (¬ cond d x ∧ stepT d now u x = u) := by
  unfold stepT cond
  by_cases h : 0 < x.1.period ∧ memB d x.1.devs.xs = true
  · exact .inl ⟨h, by rw [if_pos h]⟩
  · exact .inr ⟨h, by rw [if_neg h]⟩
theorem fold_le (d now : Int) (l : List (TaskV × Int)) : ∀ u, l.foldl (stepT d now) u ≤ u ∧ ∀ x ∈ l, cond d x → l.foldl (stepT d now) u ≤ max x.2 now := by
  induction l with
  | nil => intro u; exact ⟨Int.le_refl _, fun x hx => by simp at hx⟩
  | cons y ys ih =>
    intro u
    obtain ⟨a, b⟩ := ih (stepT d now u y)
    rw [List.foldl_cons]
    refine ⟨?_, fun x hx hc => ?_⟩
    · rcases step_eq d now u y with ⟨_, e⟩ | ⟨_, e⟩ <;> rw [e] at a ⊢ <;> omega
    · rcases List.mem_cons.1 hx with rfl | hx
      · rcases step_eq d now u x with ⟨_, e⟩ | ⟨hn, e⟩
        · rw [e] at a ⊢; omega
        · exact absurd hc hn
      · exact b x hx hc
theorem fold_cases (d now : Int) (l : List (TaskV × Int)) : ∀ u, l.foldl (stepT d now) u = u ∨ ∃ x ∈ l, cond d x ∧ l.foldl (stepT d now) u = max x.2 now := by
  induction l with
  | nil => intro u; exact .inl rfl
  | cons y ys ih =>
    intro u
    rw [List.foldl_cons]
    rcases ih (stepT d now u y) with h | ⟨x, hx, hc, h⟩
    · rcases step_eq d now u y with ⟨hc, e⟩ | ⟨_, e⟩
      · rw [h, e]
        by_cases hm : u ≤ max y.2 now
        · exact .inl (by omega)
        · exact .inr ⟨y, List.mem_cons_self, hc, by omega⟩
      · exact .inl (by rw [h, e])
    · exact .inr ⟨x, List.mem_cons_of_mem _ hx, hc, h⟩
theorem fold_ge (d now : Int) (l : List (TaskV × Int)) (u : Int) (h : now ≤ u) : now ≤ l.foldl (stepT d now) u := by
  rcases fold_cases d now l u with e | ⟨x, _, _, e⟩ <;> rw [e] <;> omega
theorem zip_mem {ts : List TaskV} {next : List Int} (hl : next.length = ts.length) {x : TaskV × Int} (hx : x ∈ ts.zip next) : ∃ (k : Nat) (h : k < ts.length), x = (ts[k], next[k]) := by
  obtain ⟨k, hk, rfl⟩ := List.mem_iff_getElem.1 hx
  rw [List.length_zip] at hk
  exact ⟨k, by omega, List.getElem_zip⟩
theorem zip_in {ts : List TaskV} {next : List Int} (hl : next.length = ts.length) (k : Nat) (h : k < ts.length) : (ts[k], next[k]) ∈ ts.zip next := by
  rw [← zip_at ts next hl k h]; exact List.getElem_mem _
end Go.Proofs.Ytmfphojmegfanaa
