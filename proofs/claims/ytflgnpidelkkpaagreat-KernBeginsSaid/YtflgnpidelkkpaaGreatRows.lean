/-
  No cell of these rows narrows 'for every input' (looked for: loops, veiled, ifaces, maps, wideKeys, modest, calm, conditions, laid).
  DERIVED. THE GIVEN ROWS OF THIS SEAT. 12 by the template 'for every input the law returns true; each argument reads behind the call as it read before'; 0 by the template 'total and deterministic' (their statements: YtflgnpidelkkpaaGreatTotals.lean).
  GIVEN WITH THE SEED: the statements are not yours to turn. If you find one false, say at which input.
  Laid BY PROGRAM, IN A SANDBOX (cutbox-rows.mjs): the forced cells as the released guide's own fill.sh prints them over the translation bfaa44db2225ce02… (all of the seat's roots in one cut). By AI agents, Wed Nov 11 2026. No macro, syntax, notation, axiom, sorry.
-/
import Derived.Test.YtflgnpidelkkpaaGreatChecked
import GoSem.Claim
import GoSem.ClaimJoined
import GoSem.ClaimMapViews
import Derived.JoinedTies
import Derived.KernelRfl
namespace Go.Proofs.YtflgnpidelkkpaaGreat
/- THE CELL 'sum', in the pinned program and in every row, IS THE sha256 OF THE DUMP (.gsa) THAT YtflgnpidelkkpaaGreatProg.lean LOADS. Nothing in Lean hashes anything: it is a label: what it is worth is what the hold of that sum in a sandbox is worth. -/
noncomputable def Tryz.pinned : Pinned := { name := "ytflgnpidelkkpaagreat", sum := "bfaa44db2225ce02c4ccb876b915988cbff0fb25aa10ed181b86a82103c6dfe4", checked := Tryz.checked }
namespace Rows
def none {H : Type} : Left H := { results := [], args := [] }

/-- 'dormousetop.WholeEarliest': WHATEVER THE INPUT: true; the input reads as it did. -/
def wholeEarliestSpec : ChangeSpec := { name := "wholeEarliest", fn := fun _ => fun
  | [d1, d2] => { results := [.lit (.bool true)], args := [d1, d2] }
  | _ => none }
def wholeEarliestRow : OpenClaim := { program := "ytflgnpidelkkpaagreat", sum := "bfaa44db2225ce02c4ccb876b915988cbff0fb25aa10ed181b86a82103c6dfe4", func := "dormouse/dormousetop.WholeEarliest", spec := "wholeEarliest", unfollowed := true, recurses := true, apart := false }
def WholeEarliestSaid : Prop := wholeEarliestRow.holds Tryz.pinned (OpenSpec.ofChange wholeEarliestSpec)

/-- ITS FALSE NEIGHBOUR: 'it returns false'. Refute it at one input. -/
def wholeEarliestWrong : ChangeSpec := { name := "wholeEarliest", fn := fun _ => fun
  | [d1, d2] => { results := [.lit (.bool false)], args := [d1, d2] }
  | _ => none }
def WholeEarliestWrongFalsely : Prop := wholeEarliestRow.holds Tryz.pinned (OpenSpec.ofChange wholeEarliestWrong)

/-- 'dormousetop.WholeParts': WHATEVER THE INPUT: true; the input reads as it did. -/
def wholePartsSpec : ChangeSpec := { name := "wholeParts", fn := fun _ => fun
  | [d1, d2] => { results := [.lit (.bool true)], args := [d1, d2] }
  | _ => none }
def wholePartsRow : OpenClaim := { program := "ytflgnpidelkkpaagreat", sum := "bfaa44db2225ce02c4ccb876b915988cbff0fb25aa10ed181b86a82103c6dfe4", func := "dormouse/dormousetop.WholeParts", spec := "wholeParts", unfollowed := true, recurses := true, apart := false }
def WholePartsSaid : Prop := wholePartsRow.holds Tryz.pinned (OpenSpec.ofChange wholePartsSpec)

/-- ITS FALSE NEIGHBOUR: 'it returns false'. Refute it at one input. -/
def wholePartsWrong : ChangeSpec := { name := "wholeParts", fn := fun _ => fun
  | [d1, d2] => { results := [.lit (.bool false)], args := [d1, d2] }
  | _ => none }
def WholePartsWrongFalsely : Prop := wholePartsRow.holds Tryz.pinned (OpenSpec.ofChange wholePartsWrong)

/-- 'dormousetop.WholeSlept': WHATEVER THE INPUT: true; the input reads as it did. -/
def wholeSleptSpec : ChangeSpec := { name := "wholeSlept", fn := fun _ => fun
  | [d1, d2] => { results := [.lit (.bool true)], args := [d1, d2] }
  | _ => none }
def wholeSleptRow : OpenClaim := { program := "ytflgnpidelkkpaagreat", sum := "bfaa44db2225ce02c4ccb876b915988cbff0fb25aa10ed181b86a82103c6dfe4", func := "dormouse/dormousetop.WholeSlept", spec := "wholeSlept", unfollowed := true, recurses := true, apart := false }
def WholeSleptSaid : Prop := wholeSleptRow.holds Tryz.pinned (OpenSpec.ofChange wholeSleptSpec)

/-- ITS FALSE NEIGHBOUR: 'it returns false'. Refute it at one input. -/
def wholeSleptWrong : ChangeSpec := { name := "wholeSlept", fn := fun _ => fun
  | [d1, d2] => { results := [.lit (.bool false)], args := [d1, d2] }
  | _ => none }
def WholeSleptWrongFalsely : Prop := wholeSleptRow.holds Tryz.pinned (OpenSpec.ofChange wholeSleptWrong)

/-- 'dormouselaw20.KernOne': WHATEVER THE INPUT: true; the input reads as it did. -/
def kernOneSpec : ChangeSpec := { name := "kernOne", fn := fun _ => fun
  | [d1, d2, d3, d4] => { results := [.lit (.bool true)], args := [d1, d2, d3, d4] }
  | _ => none }
def kernOneRow : OpenClaim := { program := "ytflgnpidelkkpaagreat", sum := "bfaa44db2225ce02c4ccb876b915988cbff0fb25aa10ed181b86a82103c6dfe4", func := "dormouse/dormouselaw20.KernOne", spec := "kernOne", unfollowed := true, recurses := true, apart := false }
def KernOneSaid : Prop := kernOneRow.holds Tryz.pinned (OpenSpec.ofChange kernOneSpec)

/-- ITS FALSE NEIGHBOUR: 'it returns false'. Refute it at one input. -/
def kernOneWrong : ChangeSpec := { name := "kernOne", fn := fun _ => fun
  | [d1, d2, d3, d4] => { results := [.lit (.bool false)], args := [d1, d2, d3, d4] }
  | _ => none }
def KernOneWrongFalsely : Prop := kernOneRow.holds Tryz.pinned (OpenSpec.ofChange kernOneWrong)

/-- 'dormouselaw20.KernNumbers': WHATEVER THE INPUT: true; the input reads as it did. -/
def kernNumbersSpec : ChangeSpec := { name := "kernNumbers", fn := fun _ => fun
  | [d1, d2, d3] => { results := [.lit (.bool true)], args := [d1, d2, d3] }
  | _ => none }
def kernNumbersRow : OpenClaim := { program := "ytflgnpidelkkpaagreat", sum := "bfaa44db2225ce02c4ccb876b915988cbff0fb25aa10ed181b86a82103c6dfe4", func := "dormouse/dormouselaw20.KernNumbers", spec := "kernNumbers", unfollowed := true, recurses := true, apart := false }
def KernNumbersSaid : Prop := kernNumbersRow.holds Tryz.pinned (OpenSpec.ofChange kernNumbersSpec)

/-- ITS FALSE NEIGHBOUR: 'it returns false'. Refute it at one input. -/
def kernNumbersWrong : ChangeSpec := { name := "kernNumbers", fn := fun _ => fun
  | [d1, d2, d3] => { results := [.lit (.bool false)], args := [d1, d2, d3] }
  | _ => none }
def KernNumbersWrongFalsely : Prop := kernNumbersRow.holds Tryz.pinned (OpenSpec.ofChange kernNumbersWrong)

/-- 'dormouselaw20.KernPlays': WHATEVER THE INPUT: true; the input reads as it did. -/
def kernPlaysSpec : ChangeSpec := { name := "kernPlays", fn := fun _ => fun
  | [d1, d2] => { results := [.lit (.bool true)], args := [d1, d2] }
  | _ => none }
def kernPlaysRow : OpenClaim := { program := "ytflgnpidelkkpaagreat", sum := "bfaa44db2225ce02c4ccb876b915988cbff0fb25aa10ed181b86a82103c6dfe4", func := "dormouse/dormouselaw20.KernPlays", spec := "kernPlays", unfollowed := true, recurses := true, apart := false }
def KernPlaysSaid : Prop := kernPlaysRow.holds Tryz.pinned (OpenSpec.ofChange kernPlaysSpec)

/-- ITS FALSE NEIGHBOUR: 'it returns false'. Refute it at one input. -/
def kernPlaysWrong : ChangeSpec := { name := "kernPlays", fn := fun _ => fun
  | [d1, d2] => { results := [.lit (.bool false)], args := [d1, d2] }
  | _ => none }
def KernPlaysWrongFalsely : Prop := kernPlaysRow.holds Tryz.pinned (OpenSpec.ofChange kernPlaysWrong)

/-- 'dormouselaw20.KernBegins': WHATEVER THE INPUT: true; the input reads as it did. -/
def kernBeginsSpec : ChangeSpec := { name := "kernBegins", fn := fun _ => fun
  | [d] => { results := [.lit (.bool true)], args := [d] }
  | _ => none }
def kernBeginsRow : OpenClaim := { program := "ytflgnpidelkkpaagreat", sum := "bfaa44db2225ce02c4ccb876b915988cbff0fb25aa10ed181b86a82103c6dfe4", func := "dormouse/dormouselaw20.KernBegins", spec := "kernBegins", unfollowed := true, recurses := true, apart := false }
def KernBeginsSaid : Prop := kernBeginsRow.holds Tryz.pinned (OpenSpec.ofChange kernBeginsSpec)

/-- ITS FALSE NEIGHBOUR: 'it returns false'. Refute it at one input. -/
def kernBeginsWrong : ChangeSpec := { name := "kernBegins", fn := fun _ => fun
  | [d] => { results := [.lit (.bool false)], args := [d] }
  | _ => none }
def KernBeginsWrongFalsely : Prop := kernBeginsRow.holds Tryz.pinned (OpenSpec.ofChange kernBeginsWrong)

/-- 'dormouselaw20.KernOwn': WHATEVER THE INPUT: true; the input reads as it did. -/
def kernOwnSpec : ChangeSpec := { name := "kernOwn", fn := fun _ => fun
  | [d1, d2] => { results := [.lit (.bool true)], args := [d1, d2] }
  | _ => none }
def kernOwnRow : OpenClaim := { program := "ytflgnpidelkkpaagreat", sum := "bfaa44db2225ce02c4ccb876b915988cbff0fb25aa10ed181b86a82103c6dfe4", func := "dormouse/dormouselaw20.KernOwn", spec := "kernOwn", unfollowed := true, recurses := true, apart := false }
def KernOwnSaid : Prop := kernOwnRow.holds Tryz.pinned (OpenSpec.ofChange kernOwnSpec)

/-- ITS FALSE NEIGHBOUR: 'it returns false'. Refute it at one input. -/
def kernOwnWrong : ChangeSpec := { name := "kernOwn", fn := fun _ => fun
  | [d1, d2] => { results := [.lit (.bool false)], args := [d1, d2] }
  | _ => none }
def KernOwnWrongFalsely : Prop := kernOwnRow.holds Tryz.pinned (OpenSpec.ofChange kernOwnWrong)

/-- 'dormouselaw20.KernNone': WHATEVER THE INPUT: true; the input reads as it did. -/
def kernNoneSpec : ChangeSpec := { name := "kernNone", fn := fun _ => fun
  | [d1, d2] => { results := [.lit (.bool true)], args := [d1, d2] }
  | _ => none }
def kernNoneRow : OpenClaim := { program := "ytflgnpidelkkpaagreat", sum := "bfaa44db2225ce02c4ccb876b915988cbff0fb25aa10ed181b86a82103c6dfe4", func := "dormouse/dormouselaw20.KernNone", spec := "kernNone", unfollowed := true, recurses := true, apart := false }
def KernNoneSaid : Prop := kernNoneRow.holds Tryz.pinned (OpenSpec.ofChange kernNoneSpec)

/-- ITS FALSE NEIGHBOUR: 'it returns false'. Refute it at one input. -/
def kernNoneWrong : ChangeSpec := { name := "kernNone", fn := fun _ => fun
  | [d1, d2] => { results := [.lit (.bool false)], args := [d1, d2] }
  | _ => none }
def KernNoneWrongFalsely : Prop := kernNoneRow.holds Tryz.pinned (OpenSpec.ofChange kernNoneWrong)

/-- 'dormousetop.WholeRefused': WHATEVER THE INPUT: true; the input reads as it did. -/
def wholeRefusedSpec : ChangeSpec := { name := "wholeRefused", fn := fun _ => fun
  | [d1, d2] => { results := [.lit (.bool true)], args := [d1, d2] }
  | _ => none }
def wholeRefusedRow : OpenClaim := { program := "ytflgnpidelkkpaagreat", sum := "bfaa44db2225ce02c4ccb876b915988cbff0fb25aa10ed181b86a82103c6dfe4", func := "dormouse/dormousetop.WholeRefused", spec := "wholeRefused", unfollowed := true, recurses := true, apart := false }
def WholeRefusedSaid : Prop := wholeRefusedRow.holds Tryz.pinned (OpenSpec.ofChange wholeRefusedSpec)

/-- ITS FALSE NEIGHBOUR: 'it returns false'. Refute it at one input. -/
def wholeRefusedWrong : ChangeSpec := { name := "wholeRefused", fn := fun _ => fun
  | [d1, d2] => { results := [.lit (.bool false)], args := [d1, d2] }
  | _ => none }
def WholeRefusedWrongFalsely : Prop := wholeRefusedRow.holds Tryz.pinned (OpenSpec.ofChange wholeRefusedWrong)

/-- 'dormousetop.WholeHorizon': WHATEVER THE INPUT: true; the input reads as it did. -/
def wholeHorizonSpec : ChangeSpec := { name := "wholeHorizon", fn := fun _ => fun
  | [d1, d2, d3] => { results := [.lit (.bool true)], args := [d1, d2, d3] }
  | _ => none }
def wholeHorizonRow : OpenClaim := { program := "ytflgnpidelkkpaagreat", sum := "bfaa44db2225ce02c4ccb876b915988cbff0fb25aa10ed181b86a82103c6dfe4", func := "dormouse/dormousetop.WholeHorizon", spec := "wholeHorizon", unfollowed := true, recurses := true, apart := false }
def WholeHorizonSaid : Prop := wholeHorizonRow.holds Tryz.pinned (OpenSpec.ofChange wholeHorizonSpec)

/-- ITS FALSE NEIGHBOUR: 'it returns false'. Refute it at one input. -/
def wholeHorizonWrong : ChangeSpec := { name := "wholeHorizon", fn := fun _ => fun
  | [d1, d2, d3] => { results := [.lit (.bool false)], args := [d1, d2, d3] }
  | _ => none }
def WholeHorizonWrongFalsely : Prop := wholeHorizonRow.holds Tryz.pinned (OpenSpec.ofChange wholeHorizonWrong)

/-- 'dormousetop.WholeGrows': WHATEVER THE INPUT: true; the input reads as it did. -/
def wholeGrowsSpec : ChangeSpec := { name := "wholeGrows", fn := fun _ => fun
  | [d1, d2] => { results := [.lit (.bool true)], args := [d1, d2] }
  | _ => none }
def wholeGrowsRow : OpenClaim := { program := "ytflgnpidelkkpaagreat", sum := "bfaa44db2225ce02c4ccb876b915988cbff0fb25aa10ed181b86a82103c6dfe4", func := "dormouse/dormousetop.WholeGrows", spec := "wholeGrows", unfollowed := true, recurses := true, apart := false }
def WholeGrowsSaid : Prop := wholeGrowsRow.holds Tryz.pinned (OpenSpec.ofChange wholeGrowsSpec)

/-- ITS FALSE NEIGHBOUR: 'it returns false'. Refute it at one input. -/
def wholeGrowsWrong : ChangeSpec := { name := "wholeGrows", fn := fun _ => fun
  | [d1, d2] => { results := [.lit (.bool false)], args := [d1, d2] }
  | _ => none }
def WholeGrowsWrongFalsely : Prop := wholeGrowsRow.holds Tryz.pinned (OpenSpec.ofChange wholeGrowsWrong)

/- THE SECOND FORM. 'bulk': how many values and letters a reading holds, each counted each time it is reached (what is shared counts as often as it is met; a slice's spare places count too). A statement '..UptoSaid' is the law's where the arguments, and the package variables that the reading takes, are together of bulk at most 1048576: NARROWER than '..Said'. Prove '..Said' where nothing that the law and all that it calls make is longer than what came in: it says more and counts as full. Else prove '..UptoSaid'. A law counts once. -/
mutual
def uptoBulk {H : Type} : DataW H → Nat
  | .lit (.string bytes) => bytes.length + 1
  | .lit _ => 1
  | .nil => 1
  | .ptr d => uptoBulk d + 1
  | .slice elems spare => uptoBulkAll elems + uptoBulkAll spare + 1
  | .agg parts => uptoBulkAll parts + 1
  | .iface _ d => uptoBulk d + 1
  | .map entries => uptoBulkEntries entries + 1
  | .held _ => 1
def uptoBulkAll {H : Type} : List (DataW H) → Nat
  | [] => 0
  | d :: r => uptoBulk d + uptoBulkAll r
def uptoBulkEntries {H : Type} : List (Lit × DataW H) → Nat
  | [] => 0
  | x :: r => uptoBulkEntry x + uptoBulkEntries r
def uptoBulkEntry {H : Type} : Lit × DataW H → Nat
  | (.string bytes, d) => bytes.length + uptoBulk d + 1
  | (_, d) => uptoBulk d + 1
 end
def uptoSmall : (H : Type) → List (DataW H) → Bool := fun _ ds => decide (uptoBulkAll ds ≤ 1048576)
def OpenSpec.upto (s : _root_.Go.ChangeSpec) : _root_.Go.OpenSpec := { _root_.Go.OpenSpec.ofChange s with cond := some uptoSmall }

/-- 'dormousetop.WholeEarliest', WHERE WHAT IT READS IS OF BULK AT MOST 1048576: true; the input reads as it did. -/
def wholeEarliestUptoRow : OpenClaim := { program := "ytflgnpidelkkpaagreat", sum := "bfaa44db2225ce02c4ccb876b915988cbff0fb25aa10ed181b86a82103c6dfe4", func := "dormouse/dormousetop.WholeEarliest", spec := "wholeEarliest", unfollowed := true, recurses := true, apart := false, narrowed := true }
def WholeEarliestUptoSaid : Prop := wholeEarliestUptoRow.holds Tryz.pinned (OpenSpec.upto wholeEarliestSpec)

/-- 'dormousetop.WholeParts', WHERE WHAT IT READS IS OF BULK AT MOST 1048576: true; the input reads as it did. -/
def wholePartsUptoRow : OpenClaim := { program := "ytflgnpidelkkpaagreat", sum := "bfaa44db2225ce02c4ccb876b915988cbff0fb25aa10ed181b86a82103c6dfe4", func := "dormouse/dormousetop.WholeParts", spec := "wholeParts", unfollowed := true, recurses := true, apart := false, narrowed := true }
def WholePartsUptoSaid : Prop := wholePartsUptoRow.holds Tryz.pinned (OpenSpec.upto wholePartsSpec)

/-- 'dormousetop.WholeSlept', WHERE WHAT IT READS IS OF BULK AT MOST 1048576: true; the input reads as it did. -/
def wholeSleptUptoRow : OpenClaim := { program := "ytflgnpidelkkpaagreat", sum := "bfaa44db2225ce02c4ccb876b915988cbff0fb25aa10ed181b86a82103c6dfe4", func := "dormouse/dormousetop.WholeSlept", spec := "wholeSlept", unfollowed := true, recurses := true, apart := false, narrowed := true }
def WholeSleptUptoSaid : Prop := wholeSleptUptoRow.holds Tryz.pinned (OpenSpec.upto wholeSleptSpec)

/-- 'dormouselaw20.KernOne', WHERE WHAT IT READS IS OF BULK AT MOST 1048576: true; the input reads as it did. -/
def kernOneUptoRow : OpenClaim := { program := "ytflgnpidelkkpaagreat", sum := "bfaa44db2225ce02c4ccb876b915988cbff0fb25aa10ed181b86a82103c6dfe4", func := "dormouse/dormouselaw20.KernOne", spec := "kernOne", unfollowed := true, recurses := true, apart := false, narrowed := true }
def KernOneUptoSaid : Prop := kernOneUptoRow.holds Tryz.pinned (OpenSpec.upto kernOneSpec)

/-- 'dormouselaw20.KernNumbers', WHERE WHAT IT READS IS OF BULK AT MOST 1048576: true; the input reads as it did. -/
def kernNumbersUptoRow : OpenClaim := { program := "ytflgnpidelkkpaagreat", sum := "bfaa44db2225ce02c4ccb876b915988cbff0fb25aa10ed181b86a82103c6dfe4", func := "dormouse/dormouselaw20.KernNumbers", spec := "kernNumbers", unfollowed := true, recurses := true, apart := false, narrowed := true }
def KernNumbersUptoSaid : Prop := kernNumbersUptoRow.holds Tryz.pinned (OpenSpec.upto kernNumbersSpec)

/-- 'dormouselaw20.KernPlays', WHERE WHAT IT READS IS OF BULK AT MOST 1048576: true; the input reads as it did. -/
def kernPlaysUptoRow : OpenClaim := { program := "ytflgnpidelkkpaagreat", sum := "bfaa44db2225ce02c4ccb876b915988cbff0fb25aa10ed181b86a82103c6dfe4", func := "dormouse/dormouselaw20.KernPlays", spec := "kernPlays", unfollowed := true, recurses := true, apart := false, narrowed := true }
def KernPlaysUptoSaid : Prop := kernPlaysUptoRow.holds Tryz.pinned (OpenSpec.upto kernPlaysSpec)

/-- 'dormouselaw20.KernBegins', WHERE WHAT IT READS IS OF BULK AT MOST 1048576: true; the input reads as it did. -/
def kernBeginsUptoRow : OpenClaim := { program := "ytflgnpidelkkpaagreat", sum := "bfaa44db2225ce02c4ccb876b915988cbff0fb25aa10ed181b86a82103c6dfe4", func := "dormouse/dormouselaw20.KernBegins", spec := "kernBegins", unfollowed := true, recurses := true, apart := false, narrowed := true }
def KernBeginsUptoSaid : Prop := kernBeginsUptoRow.holds Tryz.pinned (OpenSpec.upto kernBeginsSpec)

/-- 'dormouselaw20.KernOwn', WHERE WHAT IT READS IS OF BULK AT MOST 1048576: true; the input reads as it did. -/
def kernOwnUptoRow : OpenClaim := { program := "ytflgnpidelkkpaagreat", sum := "bfaa44db2225ce02c4ccb876b915988cbff0fb25aa10ed181b86a82103c6dfe4", func := "dormouse/dormouselaw20.KernOwn", spec := "kernOwn", unfollowed := true, recurses := true, apart := false, narrowed := true }
def KernOwnUptoSaid : Prop := kernOwnUptoRow.holds Tryz.pinned (OpenSpec.upto kernOwnSpec)

/-- 'dormouselaw20.KernNone', WHERE WHAT IT READS IS OF BULK AT MOST 1048576: true; the input reads as it did. -/
def kernNoneUptoRow : OpenClaim := { program := "ytflgnpidelkkpaagreat", sum := "bfaa44db2225ce02c4ccb876b915988cbff0fb25aa10ed181b86a82103c6dfe4", func := "dormouse/dormouselaw20.KernNone", spec := "kernNone", unfollowed := true, recurses := true, apart := false, narrowed := true }
def KernNoneUptoSaid : Prop := kernNoneUptoRow.holds Tryz.pinned (OpenSpec.upto kernNoneSpec)

/-- 'dormousetop.WholeRefused', WHERE WHAT IT READS IS OF BULK AT MOST 1048576: true; the input reads as it did. -/
def wholeRefusedUptoRow : OpenClaim := { program := "ytflgnpidelkkpaagreat", sum := "bfaa44db2225ce02c4ccb876b915988cbff0fb25aa10ed181b86a82103c6dfe4", func := "dormouse/dormousetop.WholeRefused", spec := "wholeRefused", unfollowed := true, recurses := true, apart := false, narrowed := true }
def WholeRefusedUptoSaid : Prop := wholeRefusedUptoRow.holds Tryz.pinned (OpenSpec.upto wholeRefusedSpec)

/-- 'dormousetop.WholeHorizon', WHERE WHAT IT READS IS OF BULK AT MOST 1048576: true; the input reads as it did. -/
def wholeHorizonUptoRow : OpenClaim := { program := "ytflgnpidelkkpaagreat", sum := "bfaa44db2225ce02c4ccb876b915988cbff0fb25aa10ed181b86a82103c6dfe4", func := "dormouse/dormousetop.WholeHorizon", spec := "wholeHorizon", unfollowed := true, recurses := true, apart := false, narrowed := true }
def WholeHorizonUptoSaid : Prop := wholeHorizonUptoRow.holds Tryz.pinned (OpenSpec.upto wholeHorizonSpec)

/-- 'dormousetop.WholeGrows', WHERE WHAT IT READS IS OF BULK AT MOST 1048576: true; the input reads as it did. -/
def wholeGrowsUptoRow : OpenClaim := { program := "ytflgnpidelkkpaagreat", sum := "bfaa44db2225ce02c4ccb876b915988cbff0fb25aa10ed181b86a82103c6dfe4", func := "dormouse/dormousetop.WholeGrows", spec := "wholeGrows", unfollowed := true, recurses := true, apart := false, narrowed := true }
def WholeGrowsUptoSaid : Prop := wholeGrowsUptoRow.holds Tryz.pinned (OpenSpec.upto wholeGrowsSpec)

end Rows
end Go.Proofs.YtflgnpidelkkpaaGreat
