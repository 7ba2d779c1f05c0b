/- The law KernNone holds: for every input it returns true, and each argument reads afterwards as before. No condition. -/
import Derived.Test.YtflgnpidelkkpaaGreatRows
import Derived.WalkKit
import Derived.ProofKit
import Derived.OpenShut
import Derived.ShutString
import Derived.ChangeOld
import Derived.Below
import Derived.SizedLaws
import Derived.Test.YtflgnpidelkkpaaGreatMqRowFKernNone
import Derived.Test.YtflgnpidelkkpaaGreatMq1
import Derived.Test.YtflgnpidelkkpaaGreatMqWalkKernNone
namespace Go.Proofs.YtflgnpidelkkpaaGreat.RowKernNone
open Go.ChangeShapes Go.WideShapes Go.ChangeAt Go.RowKit
open Go.ChangeMaps (open_string shut_string)
set_option linter.unusedVariables false
theorem own : ownKnob Tryz.prog.godebug = none := by kernel_rfl
theorem laidOut : laidOutB Tryz.prog = true := by kernel_rfl
set_option maxRecDepth 100000 in
theorem lifted (os : Os) (started : os.Started) (H : Type) (enc : TypeId × Value → H) :
    ReturnsInHanded {} Tryz.checked os 11 .any (Rows.kernNoneSpec.pre6 enc Tryz.prog Tryz.f11 Rows.kernNoneRow.domain false) (Rows.kernNoneSpec.post enc Tryz.prog Tryz.f11 false true false false) := by
  refine returnsInHanded_of_change_sized (C := Tryz.checked) own started (by kernel_rfl) Tryz.func11
    (ChangeSpec.witness6 (enc := enc) (C := Tryz.checked) false ⟨#[], #[.agg #[.int .i64 0, .int .i64 0, .int .i64 0, .int .i64 0, .int .i64 0, .int .i64 0, .slice none 0 0, .slice none 0 0], .int .i64 0], []⟩ 16 (by kernel_rfl) (by kernel_rfl) (by kernel_rfl) (by kernel_rfl)) ?_
  intro W base args ds gs before hval0 hW hcnd hsz0 _
  have hval : ∀ (j : Nat) t v, Tryz.f11.params[j]? = some t → args[j]? = some v → Value.okWide Tryz.prog W .any base t v := hval0
  have hW' := hW
  obtain ⟨p, q, hA0, hV, rfl, hfz, hnd⟩ := hW
  have hA : DataW.TrodAll enc Tryz.prog W 0 (fun _ => true) true Tryz.f11.params.toList args.toList ds p := hA0
  have hsz : (DataW.weightsEach Tryz.prog (Tryz.f11.params.toList ++ Rows.kernNoneSpec.plain.varTypes Tryz.prog) (ds ++ gs)).all (· ≤ reachBytes) = true := hsz0
  rw [Tryz.params11] at hA hval hsz
  obtain ⟨v0, vs0, d0, ds0, p0, q0, hargs, rfl, rfl, h0, r0⟩ := trodAll_cons hA
  obtain ⟨v1, vs1, d1, ds1, p1, q1, rfl, rfl, rfl, h1, r1⟩ := trodAll_cons r0
  obtain ⟨rfl, rfl, rfl⟩ := trodAll_nil r1
  obtain rfl : args = #[v0, v1] := by cases args; simp_all
  obtain ⟨rfl, rfl⟩ := trodVars_none hV
  have k0 := h0
  have lt0 : ∀ x ∈ p0, x.block < W.heap.size := by obtain ⟨m, hm⟩ := k0; exact DataW.trod_lt m _ _ _ hm
  obtain ⟨fuel0, hf0⟩ := h0
  have hz0 := each_all hsz (j := 0) (t := 35) (d := d0) rfl rfl
  obtain ⟨cs0, rfl, hs0⟩ := okWide_struct Tryz.underlying35 (hval 0 35 _ rfl rfl)
  obtain ⟨a0, e0, ok0⟩ := opens_StepV H enc W fuel0 _ _ hf0 hz0
  have e0 := agg_of_cells e0
  have k1 := h1
  have lt1 : ∀ x ∈ p1, x.block < W.heap.size := by obtain ⟨m, hm⟩ := k1; exact DataW.trod_lt m _ _ _ hm
  obtain ⟨fuel1, hf1⟩ := h1
  have hz1 := each_all hsz (j := 1) (t := 3) (d := d1) rfl rfl
  obtain ⟨a1, rfl, _, _, w1⟩ := open_int Tryz.underlying3 (hval 1 3 _ rfl rfl) k1
  clear hA0 hval0
  have key := walk_KernNone a0 a1 W ok0 (i64_of_wf w1)
  have E0 : Value.agg cs0 = a0.val := e0
  rw [E0]
  refine key.mono fun e W' ⟨he, bel⟩ => ?_
  subst he
  rw [← E0]
  exact ⟨_, rfl, _, _, _, [], _, [], hW', trodAll_mk1 (shut_bool Tryz.underlying4 _), (trodAll_cons_mk (Below.trod laidOut (by kernel_rfl) (of_decide_eq_true (by kernel_rfl)) k0 bel lt0) (trodAll_cons_mk (Below.trod laidOut (by kernel_rfl) (of_decide_eq_true (by kernel_rfl)) k1 bel lt1) trodAll_mk0)), rfl, bel.frame _, fun h => by cases h⟩
theorem over : Rows.kernNoneRow.holds Tryz.pinned (OpenSpec.ofChange Rows.kernNoneSpec) :=
  OpenClaim.holds_of_wide 11 Tryz.f11 rfl rfl rfl rfl rfl rfl rfl ⟨rfl, rfl, rfl, rfl, rfl⟩ rfl rfl rfl rfl rfl RowFKernNone.named Tryz.func11 RowFKernNone.closed
    RowFKernNone.inst RowFKernNone.wrap
    (fun os started H enc _ => lifted os started H enc)
theorem proved : Rows.KernNoneSaid := over
#print axioms proved
end Go.Proofs.YtflgnpidelkkpaaGreat.RowKernNone
