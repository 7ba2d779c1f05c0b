/- closed facts of the law KernNone. -/
import Derived.Test.YtflgnpidelkkpaaGreatRows
import Derived.WalkKit
import Derived.JoinedOf
import Derived.SizedLaws
namespace Go.Proofs.YtflgnpidelkkpaaGreat.RowFKernNone
open Go
theorem named : Tryz.pinned.checked.prog.funcNamed Rows.kernNoneRow.func = some 11 := by kernel_rfl
theorem c1 : Rows.kernNoneRow.wf (OpenSpec.ofChange Rows.kernNoneSpec) = true := by kernel_rfl
theorem c2 : laidOutB Tryz.pinned.checked.prog = true := by kernel_rfl
theorem c3 : mapsRowed Tryz.pinned.checked.prog = true := by kernel_rfl
theorem c4 : Tryz.f11.params.all (Tryz.pinned.checked.prog.readableRec ·) = true := by kernel_rfl
theorem c5 : namedTie Tryz.pinned.checked.prog Rows.kernNoneRow.named Rows.kernNoneSpec.vars = true := by kernel_rfl
theorem c6 : (Rows.kernNoneRow.stops == []) = true := by kernel_rfl
theorem c7 : (Tryz.pinned.checked.prog.stops == []) = true := by kernel_rfl
theorem c8 : (Rows.kernNoneRow.knobs == []) = true := by kernel_rfl
theorem c9 : (Tryz.pinned.checked.prog.stopKnobs == []) = true := by kernel_rfl
theorem c10 : (Rows.kernNoneRow.inPlace == Tryz.pinned.checked.prog.inPlace 11) = true := by kernel_rfl
theorem c11 : (Rows.kernNoneRow.unfollowed == Tryz.pinned.checked.prog.unfollowed 11) = true := by kernel_rfl
theorem c12 : (Rows.kernNoneRow.recurses == Tryz.pinned.checked.prog.recurses 11) = true := by kernel_rfl
theorem c13 : (Rows.kernNoneRow.named == Tryz.pinned.checked.prog.varsNamed 11) = true := by kernel_rfl
theorem c14 : (Rows.kernNoneRow.maps == (Tryz.f11.params.toList ++ Rows.kernNoneSpec.plain.varTypes Tryz.pinned.checked.prog).any (Tryz.pinned.checked.prog.mapsRec ·)) = true := by kernel_rfl
theorem c15 : (Rows.kernNoneRow.ifaces == (Tryz.f11.params.toList ++ Rows.kernNoneSpec.plain.varTypes Tryz.pinned.checked.prog).any (Tryz.pinned.checked.prog.ifacesRec ·)) = true := by kernel_rfl
theorem c16 : (Rows.kernNoneRow.mapsOut == Tryz.pinned.checked.prog.mapsAmong Tryz.f11.resultTypes.toList) = true := by kernel_rfl
theorem c17 : (Rows.kernNoneRow.loops == (Tryz.f11.params.toList ++ Rows.kernNoneSpec.plain.varTypes Tryz.pinned.checked.prog).any (Tryz.pinned.checked.prog.loopsFrom ·)) = true := by kernel_rfl
theorem c18 : (Rows.kernNoneRow.wideKeys == (Tryz.f11.params.toList ++ Rows.kernNoneSpec.plain.varTypes Tryz.pinned.checked.prog ++ Tryz.f11.resultTypes.toList).any (Tryz.pinned.checked.prog.wideKeysFrom ·)) = true := by kernel_rfl
theorem c19 : Rows.kernNoneSpec.vars.all (Tryz.pinned.checked.prog.varReadable ·) = true := by kernel_rfl
theorem c20 : Tryz.f11.resultTypes.all (fun t => Tryz.pinned.checked.prog.readableRec t && decide (t < Tryz.pinned.checked.prog.types.size)) = true := by kernel_rfl
theorem c21 : (Rows.kernNoneRow.ifacesOut == Tryz.f11.resultTypes.toList.any (Tryz.pinned.checked.prog.ifacesRec ·)) = true := by kernel_rfl
theorem c22 : (Rows.kernNoneRow.loopsOut == Tryz.f11.resultTypes.toList.any (Tryz.pinned.checked.prog.loopsFrom ·)) = true := by kernel_rfl
theorem c23 : (Rows.kernNoneRow.plainKeys == Tryz.pinned.checked.prog.plainKeys) = true := by kernel_rfl
theorem c24 : Rows.kernNoneRow.shortTexts.isNone = true := by kernel_rfl
theorem c25 : Tryz.pinned.checked.prog.stopsHeard = true := by kernel_rfl
theorem c26 : Tryz.pinned.checked.prog.mayEnter = true := by kernel_rfl
theorem c27 : (Rows.kernNoneRow.lifted == Tryz.pinned.checked.prog.liftsFinal) = true := by kernel_rfl
theorem c28 : (Tryz.pinned.checked.prog.make == some Rows.kernNoneRow.make) = true := by kernel_rfl
theorem c29 : (Rows.kernNoneRow.kinds == (if Rows.kernNoneRow.domain.isEmpty then [] else Tryz.f11.params.toList.map fun t => match Tryz.pinned.checked.prog.underlying t with | some (.int k) => some k | _ => none)) = true := by kernel_rfl
theorem c30 : (Rows.kernNoneRow.pinned == Rows.kernNoneRow.pinnedBy) = true := by kernel_rfl
theorem c31 : (Rows.kernNoneRow.veiled == (Tryz.f11.params.toList ++ Rows.kernNoneSpec.plain.varTypes Tryz.pinned.checked.prog ++ Tryz.f11.resultTypes.toList).any (Tryz.pinned.checked.prog.veiledRec ·)) = true := by kernel_rfl
theorem c32 : Rows.kernNoneRow.veiledFits Tryz.pinned.checked.prog Tryz.f11.params.toList (Tryz.f11.params.toList ++ Rows.kernNoneSpec.plain.varTypes Tryz.pinned.checked.prog ++ Tryz.f11.resultTypes.toList) = true := by kernel_rfl
set_option maxRecDepth 100000 in
theorem closed : joinedFacts Tryz.pinned.checked.prog 11 Tryz.f11 Rows.kernNoneSpec Rows.kernNoneRow = true := by
  unfold joinedFacts
  exact (Bool.and_eq_true_iff.2 ⟨(Bool.and_eq_true_iff.2 ⟨(Bool.and_eq_true_iff.2 ⟨(Bool.and_eq_true_iff.2 ⟨(Bool.and_eq_true_iff.2 ⟨(Bool.and_eq_true_iff.2 ⟨(Bool.and_eq_true_iff.2 ⟨(Bool.and_eq_true_iff.2 ⟨(Bool.and_eq_true_iff.2 ⟨(Bool.and_eq_true_iff.2 ⟨(Bool.and_eq_true_iff.2 ⟨(Bool.and_eq_true_iff.2 ⟨(Bool.and_eq_true_iff.2 ⟨(Bool.and_eq_true_iff.2 ⟨(Bool.and_eq_true_iff.2 ⟨(Bool.and_eq_true_iff.2 ⟨(Bool.and_eq_true_iff.2 ⟨(Bool.and_eq_true_iff.2 ⟨(Bool.and_eq_true_iff.2 ⟨(Bool.and_eq_true_iff.2 ⟨(Bool.and_eq_true_iff.2 ⟨(Bool.and_eq_true_iff.2 ⟨(Bool.and_eq_true_iff.2 ⟨(Bool.and_eq_true_iff.2 ⟨(Bool.and_eq_true_iff.2 ⟨(Bool.and_eq_true_iff.2 ⟨(Bool.and_eq_true_iff.2 ⟨(Bool.and_eq_true_iff.2 ⟨(Bool.and_eq_true_iff.2 ⟨(Bool.and_eq_true_iff.2 ⟨(Bool.and_eq_true_iff.2 ⟨c1, c2⟩), c3⟩), c4⟩), c5⟩), c6⟩), c7⟩), c8⟩), c9⟩), c10⟩), c11⟩), c12⟩), c13⟩), c14⟩), c15⟩), c16⟩), c17⟩), c18⟩), c19⟩), c20⟩), c21⟩), c22⟩), c23⟩), c24⟩), c25⟩), c26⟩), c27⟩), c28⟩), c29⟩), c30⟩), c31⟩), c32⟩)
theorem inst : Tryz.f11.isInstance Tryz.pinned.checked.prog Rows.kernNoneRow.origin Rows.kernNoneRow.targs := of_decide_eq_true (by kernel_rfl)
theorem wrap : Tryz.f11.isWrapper Tryz.pinned.checked.prog Rows.kernNoneRow.wrapper Rows.kernNoneRow.mainSum := by unfold Func.isWrapper; rw [if_neg (of_decide_eq_false (by kernel_rfl))]; exact ⟨rfl, rfl⟩
end Go.Proofs.YtflgnpidelkkpaaGreat.RowFKernNone
