/- Engine: append onto an empty literal. -/
import Derived.Test.YtfaeemahdkobfaaOps5
namespace Go.Proofs.Ytfaeemahdkobfaa
set_option linter.unusedVariables false
set_option linter.unusedSimpArgs false
theorem arr_zero {e : TypeId} {sz g : Nat} : Arr e sz 0 [] (some ⟨g, 0, none⟩) 0 (one g (cells [] e)) :=
  ⟨by simp, .inr ⟨g, [], rfl, rfl, by simp, Nat.le_refl 0, by simp [maxLen]⟩⟩
theorem WO.append0 {P : Program} {n : Nat} {B : World} {F : Hp} {hs : List Hp} {env : Env} {ty : TypeId} {K : Value → List Hp → Prop} {t e sz by' g : Nat} {z : Value} {zl news : List Value} {s x : Operand} {A2 : Option Addr} {m c2 : Nat} {r : List Hp} [hu : UT P t (.slice e)] [hz : SZ P e sz by'] [hzr : ZR P e z zl]
    (hs1 : ev env s = some (.slice (some ⟨g, 0, none⟩) 0 0)) (hx : ev env x = some (.slice A2 m c2)) (ht : Take hs (one g (cells [] e)) r) (hzl : zl.length = sz) (hpos : 0 < sz) (hl : news.length = m * sz) (hr : RowAt F hs A2 news) (h1c : news.all (·.oneCell') = true)
    (hfit : m * by' ≤ 140737488355328) (hmax : m ≤ 9223372036854775807) (k : ∀ A' c' h', Arr e sz m news A' c' h' → K (.slice A' m c') (h' :: r)) : WO P n B F (.call ⟨.builtin .append, #[s, x], #[t, t]⟩) ty env hs K :=
  WO.append hs1 hx ht arr_zero hzl hpos hl hr h1c (by rw [Nat.zero_add]; exact hfit) (by rw [Nat.zero_add]; exact hmax) (fun A' c' h' ha => by
    have e : 0 + m = m := Nat.zero_add m
    rw [e] at ha ⊢
    exact k A' c' h' ha)
theorem Arr.rowX {e : TypeId} {sz m c : Nat} {vs : List Value} {A : Option Addr} {h G : Hp} (a : Arr e sz m vs A c h) (g : h.le G) : RowAt G [] A vs := fun j v ej => by
  obtain ⟨b, sp, h1, h2, h3⟩ := a.row j v ej
  exact ⟨b, 0, h1, CellAt.mk (At.ofF (g _ _ h2)) (by rw [Nat.zero_add]; exact h3)⟩
theorem Takes.skip1 {α : Type} {t s w : List α} {h : α} (k : Takes t s w) : Takes (h :: t) s (h :: w) := by
  induction k with
  | nil => exact .nil
  | cons a b ih => exact .cons (.there a) ih
end Go.Proofs.Ytfaeemahdkobfaa
