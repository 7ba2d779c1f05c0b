/- The law KernBegins holds: for every input it returns true, and each argument reads afterwards as before. No condition. -/
import Derived.Test.YtflgnpidelkkpaaGreatRows
import Derived.WalkKit
import Derived.ProofKit
import Derived.OpenShut
import Derived.ShutString
import Derived.ChangeOld
import Derived.Below
import Derived.SizedLaws
import Derived.Test.YtflgnpidelkkpaaGreatMqRowFKernBegins
import Derived.Test.YtflgnpidelkkpaaGreatMq1
import Derived.Test.YtflgnpidelkkpaaGreatMqWalkKernBegins
namespace Go.Proofs.YtflgnpidelkkpaaGreat.RowKernBegins
open Go.ChangeShapes Go.WideShapes Go.ChangeAt Go.RowKit
open Go.ChangeMaps (open_string shut_string)
set_option linter.unusedVariables false
theorem own : ownKnob Tryz.prog.godebug = none := by kernel_rfl
theorem laidOut : laidOutB Tryz.prog = true := by kernel_rfl
set_option maxRecDepth 100000 in
theorem lifted (os : Os) (started : os.Started) (H : Type) (enc : TypeId × Value → H) :
    ReturnsInHanded {} Tryz.checked os 9 .any (Rows.kernBeginsSpec.pre6 enc Tryz.prog Tryz.f9 Rows.kernBeginsRow.domain false) (Rows.kernBeginsSpec.post enc Tryz.prog Tryz.f9 false true false false) := by
  refine returnsInHanded_of_change_sized (C := Tryz.checked) own started (by kernel_rfl) Tryz.func9
    (ChangeSpec.witness6 (enc := enc) (C := Tryz.checked) false ⟨#[], #[.agg #[.slice none 0 0, .slice none 0 0, .slice none 0 0, .int .i64 0, .int .i64 0, .int .i64 0, .int .i64 0, .int .i64 0, .int .i64 0]], []⟩ 16 (by kernel_rfl) (by kernel_rfl) (by kernel_rfl) (by kernel_rfl)) ?_
  intro W base args ds gs before hval0 hW hcnd hsz0 _
  have hval : ∀ (j : Nat) t v, Tryz.f9.params[j]? = some t → args[j]? = some v → Value.okWide Tryz.prog W .any base t v := hval0
  have hW' := hW
  obtain ⟨p, q, hA0, hV, rfl, hfz, hnd⟩ := hW
  have hA : DataW.TrodAll enc Tryz.prog W 0 (fun _ => true) true Tryz.f9.params.toList args.toList ds p := hA0
  have hsz : (DataW.weightsEach Tryz.prog (Tryz.f9.params.toList ++ Rows.kernBeginsSpec.plain.varTypes Tryz.prog) (ds ++ gs)).all (· ≤ reachBytes) = true := hsz0
  rw [Tryz.params9] at hA hval hsz
  obtain ⟨v0, vs0, d0, ds0, p0, q0, hargs, rfl, rfl, h0, r0⟩ := trodAll_cons hA
  obtain ⟨rfl, rfl, rfl⟩ := trodAll_nil r0
  obtain rfl : args = #[v0] := by cases args; simp_all
  obtain ⟨rfl, rfl⟩ := trodVars_none hV
  have k0 := h0
  have lt0 : ∀ x ∈ p0, x.block < W.heap.size := by obtain ⟨m, hm⟩ := k0; exact DataW.trod_lt m _ _ _ hm
  obtain ⟨fuel0, hf0⟩ := h0
  have hz0 := each_all hsz (j := 0) (t := 26) (d := d0) rfl rfl
  obtain ⟨cs0, rfl, hs0⟩ := okWide_struct Tryz.underlying26 (hval 0 26 _ rfl rfl)
  obtain ⟨a0, e0, ok0⟩ := opens_PlatV H enc W fuel0 _ _ hf0 hz0
  have e0 := agg_of_cells e0
  clear hA0 hval0
  have key := walk_KernBegins a0 W ok0
  have E0 : Value.agg cs0 = a0.val := e0
  rw [E0]
  refine key.mono fun e W' ⟨he, bel⟩ => ?_
  subst he
  rw [← E0]
  exact ⟨_, rfl, _, _, _, [], _, [], hW', trodAll_mk1 (shut_bool Tryz.underlying4 _), (trodAll_cons_mk (Below.trod laidOut (by kernel_rfl) (of_decide_eq_true (by kernel_rfl)) k0 bel lt0) trodAll_mk0), rfl, bel.frame _, fun h => by cases h⟩
theorem over : Rows.kernBeginsRow.holds Tryz.pinned (OpenSpec.ofChange Rows.kernBeginsSpec) :=
  OpenClaim.holds_of_wide 9 Tryz.f9 rfl rfl rfl rfl rfl rfl rfl ⟨rfl, rfl, rfl, rfl, rfl⟩ rfl rfl rfl rfl rfl RowFKernBegins.named Tryz.func9 RowFKernBegins.closed
    RowFKernBegins.inst RowFKernBegins.wrap
    (fun os started H enc _ => lifted os started H enc)
theorem proved : Rows.KernBeginsSaid := over
#print axioms proved
end Go.Proofs.YtflgnpidelkkpaaGreat.RowKernBegins
