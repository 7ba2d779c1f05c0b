/- closed facts of the law KernBegins. -/
import Derived.Test.YtflgnpidelkkpaaGreatRows
import Derived.WalkKit
import Derived.JoinedOf
import Derived.SizedLaws
namespace Go.Proofs.YtflgnpidelkkpaaGreat.RowFKernBegins
open Go
theorem named : Tryz.pinned.checked.prog.funcNamed Rows.kernBeginsRow.func = some 9 := by kernel_rfl
theorem c1 : Rows.kernBeginsRow.wf (OpenSpec.ofChange Rows.kernBeginsSpec) = true := by kernel_rfl
theorem c2 : laidOutB Tryz.pinned.checked.prog = true := by kernel_rfl
theorem c3 : mapsRowed Tryz.pinned.checked.prog = true := by kernel_rfl
theorem c4 : Tryz.f9.params.all (Tryz.pinned.checked.prog.readableRec ·) = true := by kernel_rfl
theorem c5 : namedTie Tryz.pinned.checked.prog Rows.kernBeginsRow.named Rows.kernBeginsSpec.vars = true := by kernel_rfl
theorem c6 : (Rows.kernBeginsRow.stops == []) = true := by kernel_rfl
theorem c7 : (Tryz.pinned.checked.prog.stops == []) = true := by kernel_rfl
theorem c8 : (Rows.kernBeginsRow.knobs == []) = true := by kernel_rfl
theorem c9 : (Tryz.pinned.checked.prog.stopKnobs == []) = true := by kernel_rfl
theorem c10 : (Rows.kernBeginsRow.inPlace == Tryz.pinned.checked.prog.inPlace 9) = true := by kernel_rfl
theorem c11 : (Rows.kernBeginsRow.unfollowed == Tryz.pinned.checked.prog.unfollowed 9) = true := by kernel_rfl
theorem c12 : (Rows.kernBeginsRow.recurses == Tryz.pinned.checked.prog.recurses 9) = true := by kernel_rfl
theorem c13 : (Rows.kernBeginsRow.named == Tryz.pinned.checked.prog.varsNamed 9) = true := by kernel_rfl
theorem c14 : (Rows.kernBeginsRow.maps == (Tryz.f9.params.toList ++ Rows.kernBeginsSpec.plain.varTypes Tryz.pinned.checked.prog).any (Tryz.pinned.checked.prog.mapsRec ·)) = true := by kernel_rfl
theorem c15 : (Rows.kernBeginsRow.ifaces == (Tryz.f9.params.toList ++ Rows.kernBeginsSpec.plain.varTypes Tryz.pinned.checked.prog).any (Tryz.pinned.checked.prog.ifacesRec ·)) = true := by kernel_rfl
theorem c16 : (Rows.kernBeginsRow.mapsOut == Tryz.pinned.checked.prog.mapsAmong Tryz.f9.resultTypes.toList) = true := by kernel_rfl
theorem c17 : (Rows.kernBeginsRow.loops == (Tryz.f9.params.toList ++ Rows.kernBeginsSpec.plain.varTypes Tryz.pinned.checked.prog).any (Tryz.pinned.checked.prog.loopsFrom ·)) = true := by kernel_rfl
theorem c18 : (Rows.kernBeginsRow.wideKeys == (Tryz.f9.params.toList ++ Rows.kernBeginsSpec.plain.varTypes Tryz.pinned.checked.prog ++ Tryz.f9.resultTypes.toList).any (Tryz.pinned.checked.prog.wideKeysFrom ·)) = true := by kernel_rfl
theorem c19 : Rows.kernBeginsSpec.vars.all (Tryz.pinned.checked.prog.varReadable ·) = true := by kernel_rfl
theorem c20 : Tryz.f9.resultTypes.all (fun t => Tryz.pinned.checked.prog.readableRec t && decide (t < Tryz.pinned.checked.prog.types.size)) = true := by kernel_rfl
theorem c21 : (Rows.kernBeginsRow.ifacesOut == Tryz.f9.resultTypes.toList.any (Tryz.pinned.checked.prog.ifacesRec ·)) = true := by kernel_rfl
theorem c22 : (Rows.kernBeginsRow.loopsOut == Tryz.f9.resultTypes.toList.any (Tryz.pinned.checked.prog.loopsFrom ·)) = true := by kernel_rfl
theorem c23 : (Rows.kernBeginsRow.plainKeys == Tryz.pinned.checked.prog.plainKeys) = true := by kernel_rfl
theorem c24 : Rows.kernBeginsRow.shortTexts.isNone = true := by kernel_rfl
theorem c25 : Tryz.pinned.checked.prog.stopsHeard = true := by kernel_rfl
theorem c26 : Tryz.pinned.checked.prog.mayEnter = true := by kernel_rfl
theorem c27 : (Rows.kernBeginsRow.lifted == Tryz.pinned.checked.prog.liftsFinal) = true := by kernel_rfl
theorem c28 : (Tryz.pinned.checked.prog.make == some Rows.kernBeginsRow.make) = true := by kernel_rfl
theorem c29 : (Rows.kernBeginsRow.kinds == (if Rows.kernBeginsRow.domain.isEmpty then [] else Tryz.f9.params.toList.map fun t => match Tryz.pinned.checked.prog.underlying t with | some (.int k) => some k | _ => none)) = true := by kernel_rfl
theorem c30 : (Rows.kernBeginsRow.pinned == Rows.kernBeginsRow.pinnedBy) = true := by kernel_rfl
theorem c31 : (Rows.kernBeginsRow.veiled == (Tryz.f9.params.toList ++ Rows.kernBeginsSpec.plain.varTypes Tryz.pinned.checked.prog ++ Tryz.f9.resultTypes.toList).any (Tryz.pinned.checked.prog.veiledRec ·)) = true := by kernel_rfl
theorem c32 : Rows.kernBeginsRow.veiledFits Tryz.pinned.checked.prog Tryz.f9.params.toList (Tryz.f9.params.toList ++ Rows.kernBeginsSpec.plain.varTypes Tryz.pinned.checked.prog ++ Tryz.f9.resultTypes.toList) = true := by kernel_rfl
set_option maxRecDepth 100000 in
theorem closed : joinedFacts Tryz.pinned.checked.prog 9 Tryz.f9 Rows.kernBeginsSpec Rows.kernBeginsRow = true := by
  unfold joinedFacts
  exact (Bool.and_eq_true_iff.2 ⟨(Bool.and_eq_true_iff.2 ⟨(Bool.and_eq_true_iff.2 ⟨(Bool.and_eq_true_iff.2 ⟨(Bool.and_eq_true_iff.2 ⟨(Bool.and_eq_true_iff.2 ⟨(Bool.and_eq_true_iff.2 ⟨(Bool.and_eq_true_iff.2 ⟨(Bool.and_eq_true_iff.2 ⟨(Bool.and_eq_true_iff.2 ⟨(Bool.and_eq_true_iff.2 ⟨(Bool.and_eq_true_iff.2 ⟨(Bool.and_eq_true_iff.2 ⟨(Bool.and_eq_true_iff.2 ⟨(Bool.and_eq_true_iff.2 ⟨(Bool.and_eq_true_iff.2 ⟨(Bool.and_eq_true_iff.2 ⟨(Bool.and_eq_true_iff.2 ⟨(Bool.and_eq_true_iff.2 ⟨(Bool.and_eq_true_iff.2 ⟨(Bool.and_eq_true_iff.2 ⟨(Bool.and_eq_true_iff.2 ⟨(Bool.and_eq_true_iff.2 ⟨(Bool.and_eq_true_iff.2 ⟨(Bool.and_eq_true_iff.2 ⟨(Bool.and_eq_true_iff.2 ⟨(Bool.and_eq_true_iff.2 ⟨(Bool.and_eq_true_iff.2 ⟨(Bool.and_eq_true_iff.2 ⟨(Bool.and_eq_true_iff.2 ⟨(Bool.and_eq_true_iff.2 ⟨c1, c2⟩), c3⟩), c4⟩), c5⟩), c6⟩), c7⟩), c8⟩), c9⟩), c10⟩), c11⟩), c12⟩), c13⟩), c14⟩), c15⟩), c16⟩), c17⟩), c18⟩), c19⟩), c20⟩), c21⟩), c22⟩), c23⟩), c24⟩), c25⟩), c26⟩), c27⟩), c28⟩), c29⟩), c30⟩), c31⟩), c32⟩)
theorem inst : Tryz.f9.isInstance Tryz.pinned.checked.prog Rows.kernBeginsRow.origin Rows.kernBeginsRow.targs := of_decide_eq_true (by kernel_rfl)
theorem wrap : Tryz.f9.isWrapper Tryz.pinned.checked.prog Rows.kernBeginsRow.wrapper Rows.kernBeginsRow.mainSum := by unfold Func.isWrapper; rw [if_neg (of_decide_eq_false (by kernel_rfl))]; exact ⟨rfl, rfl⟩
end Go.Proofs.YtflgnpidelkkpaaGreat.RowFKernBegins
