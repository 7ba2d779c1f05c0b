/- one more task does not make Until later: plain. -/
import Derived.Test.YtmfphojmegfanaaPlanP
namespace Go.Proofs.Ytmfphojmegfanaa
set_option linter.unusedVariables false
theorem need_more {ts : List TaskV} {t : TaskV} {js : List JobV} {d : Int} (h : JobsIn ts js) : js.any (needAt (ts ++ [t]) d) = js.any (needAt ts d) := by
  have e : ∀ j ∈ js, needAt (ts ++ [t]) d j = needAt ts d j := fun j hj => by
    have h1 := h.lo j hj
    have h2 := h.hi j hj
    unfold needAt
    rw [List.getElem?_append_left (by omega)]
  clear h
  induction js with
  | nil => rfl
  | cons j js ih => rw [List.any_cons, List.any_cons, e j (List.mem_cons_self ..), ih fun k hk => e k (List.mem_cons_of_mem _ hk)]
theorem until_more {ts : List TaskV} {next : List Int} {t : TaskV} {n : Int} {js : List JobV} {d now : Int} (hl : next.length = ts.length) (h : JobsIn ts js) :
    untilF (ts ++ [t]) (next ++ [n]) js d now ≤ untilF ts next js d now ∧ (memB d t.devs.xs = false → untilF (ts ++ [t]) (next ++ [n]) js d now = untilF ts next js d now) := by
  unfold untilF
  rw [need_more h]
  split
  · exact ⟨Int.le_refl _, fun _ => rfl⟩
  · have e : untilT (ts ++ [t]) (next ++ [n]) d now = stepT d now (untilT ts next d now) (t, n) := by
      unfold untilT
      rw [List.zip_append hl.symm, List.foldl_append]; rfl
    rw [e]
    unfold stepT
    split
    · next hc => exact ⟨Int.min_le_left _ _, fun hm => by rw [hm] at hc; cases hc.2⟩
    · exact ⟨Int.le_refl _, fun _ => rfl⟩
end Go.Proofs.Ytmfphojmegfanaa
