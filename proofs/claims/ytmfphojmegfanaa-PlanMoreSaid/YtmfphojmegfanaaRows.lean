/-
  No cell of these rows narrows 'for every input' (looked for: loops, veiled, ifaces, maps, wideKeys, modest, calm, conditions, laid).
  DERIVED. THE GIVEN ROWS OF THIS SEAT. 12 by the template 'for every input the law returns true; each argument reads behind the call as it read before'; 0 by the template 'total and deterministic' (their statements: YtmfphojmegfanaaTotals.lean).
  GIVEN WITH THE SEED: the statements are not yours to turn. If you find one false, say at which input.
  Laid BY PROGRAM, IN A SANDBOX (cutbox-rows.mjs): the forced cells as the released guide's own fill.sh prints them over the translation 6576e9980b8406bd… (all of the seat's roots in one cut). By AI agents, Wed Nov 11 2026. No macro, syntax, notation, axiom, sorry.
-/
import Derived.Test.YtmfphojmegfanaaChecked
import GoSem.Claim
import GoSem.ClaimJoined
import GoSem.ClaimMapViews
import Derived.JoinedTies
import Derived.KernelRfl
namespace Go.Proofs.Ytmfphojmegfanaa
/- THE CELL 'sum', in the pinned program and in every row, IS THE sha256 OF THE DUMP (.gsa) THAT YtmfphojmegfanaaProg.lean LOADS. Nothing in Lean hashes anything: it is a label: what it is worth is what the hold of that sum in a sandbox is worth. -/
noncomputable def Try.pinned : Pinned := { name := "ytmfphojmegfanaa", sum := "6576e9980b8406bd617610036d8d8a755a2386bafb6e79f874d094cc1e4ef079", checked := Try.checked }
namespace Rows
def none {H : Type} : Left H := { results := [], args := [] }

/-- 'dormouselaw18.PlanUntil': WHATEVER THE INPUT: true; the input reads as it did. -/
def planUntilSpec : ChangeSpec := { name := "planUntil", fn := fun _ => fun
  | [d1, d2] => { results := [.lit (.bool true)], args := [d1, d2] }
  | _ => none }
def planUntilRow : OpenClaim := { program := "ytmfphojmegfanaa", sum := "6576e9980b8406bd617610036d8d8a755a2386bafb6e79f874d094cc1e4ef079", func := "dormouse/dormouselaw18.PlanUntil", spec := "planUntil", apart := false }
def PlanUntilSaid : Prop := planUntilRow.holds Try.pinned (OpenSpec.ofChange planUntilSpec)

/-- ITS FALSE NEIGHBOUR: 'it returns false'. Refute it at one input. -/
def planUntilWrong : ChangeSpec := { name := "planUntil", fn := fun _ => fun
  | [d1, d2] => { results := [.lit (.bool false)], args := [d1, d2] }
  | _ => none }
def PlanUntilWrongFalsely : Prop := planUntilRow.holds Try.pinned (OpenSpec.ofChange planUntilWrong)

/-- 'dormouselaw18.PlanSafe': WHATEVER THE INPUT: true; the input reads as it did. -/
def planSafeSpec : ChangeSpec := { name := "planSafe", fn := fun _ => fun
  | [d1, d2] => { results := [.lit (.bool true)], args := [d1, d2] }
  | _ => none }
def planSafeRow : OpenClaim := { program := "ytmfphojmegfanaa", sum := "6576e9980b8406bd617610036d8d8a755a2386bafb6e79f874d094cc1e4ef079", func := "dormouse/dormouselaw18.PlanSafe", spec := "planSafe", apart := false }
def PlanSafeSaid : Prop := planSafeRow.holds Try.pinned (OpenSpec.ofChange planSafeSpec)

/-- ITS FALSE NEIGHBOUR: 'it returns false'. Refute it at one input. -/
def planSafeWrong : ChangeSpec := { name := "planSafe", fn := fun _ => fun
  | [d1, d2] => { results := [.lit (.bool false)], args := [d1, d2] }
  | _ => none }
def PlanSafeWrongFalsely : Prop := planSafeRow.holds Try.pinned (OpenSpec.ofChange planSafeWrong)

/-- 'dormouselaw18.PlanMore': WHATEVER THE INPUT: true; the input reads as it did. -/
def planMoreSpec : ChangeSpec := { name := "planMore", fn := fun _ => fun
  | [d1, d2, d3, d4] => { results := [.lit (.bool true)], args := [d1, d2, d3, d4] }
  | _ => none }
def planMoreRow : OpenClaim := { program := "ytmfphojmegfanaa", sum := "6576e9980b8406bd617610036d8d8a755a2386bafb6e79f874d094cc1e4ef079", func := "dormouse/dormouselaw18.PlanMore", spec := "planMore", apart := false }
def PlanMoreSaid : Prop := planMoreRow.holds Try.pinned (OpenSpec.ofChange planMoreSpec)

/-- ITS FALSE NEIGHBOUR: 'it returns false'. Refute it at one input. -/
def planMoreWrong : ChangeSpec := { name := "planMore", fn := fun _ => fun
  | [d1, d2, d3, d4] => { results := [.lit (.bool false)], args := [d1, d2, d3, d4] }
  | _ => none }
def PlanMoreWrongFalsely : Prop := planMoreRow.holds Try.pinned (OpenSpec.ofChange planMoreWrong)

/-- 'dormouselaw06.TraceAdds': WHATEVER THE INPUT: true; the input reads as it did. -/
def traceAddsSpec : ChangeSpec := { name := "traceAdds", fn := fun _ => fun
  | [d] => { results := [.lit (.bool true)], args := [d] }
  | _ => none }
def traceAddsRow : OpenClaim := { program := "ytmfphojmegfanaa", sum := "6576e9980b8406bd617610036d8d8a755a2386bafb6e79f874d094cc1e4ef079", func := "dormouse/dormouselaw06.TraceAdds", spec := "traceAdds", apart := false }
def TraceAddsSaid : Prop := traceAddsRow.holds Try.pinned (OpenSpec.ofChange traceAddsSpec)

/-- ITS FALSE NEIGHBOUR: 'it returns false'. Refute it at one input. -/
def traceAddsWrong : ChangeSpec := { name := "traceAdds", fn := fun _ => fun
  | [d] => { results := [.lit (.bool false)], args := [d] }
  | _ => none }
def TraceAddsWrongFalsely : Prop := traceAddsRow.holds Try.pinned (OpenSpec.ofChange traceAddsWrong)

/-- 'dormouselaw06.TraceJoin': WHATEVER THE INPUT: true; the input reads as it did. -/
def traceJoinSpec : ChangeSpec := { name := "traceJoin", fn := fun _ => fun
  | [d1, d2] => { results := [.lit (.bool true)], args := [d1, d2] }
  | _ => none }
def traceJoinRow : OpenClaim := { program := "ytmfphojmegfanaa", sum := "6576e9980b8406bd617610036d8d8a755a2386bafb6e79f874d094cc1e4ef079", func := "dormouse/dormouselaw06.TraceJoin", spec := "traceJoin", apart := false }
def TraceJoinSaid : Prop := traceJoinRow.holds Try.pinned (OpenSpec.ofChange traceJoinSpec)

/-- ITS FALSE NEIGHBOUR: 'it returns false'. Refute it at one input. -/
def traceJoinWrong : ChangeSpec := { name := "traceJoin", fn := fun _ => fun
  | [d1, d2] => { results := [.lit (.bool false)], args := [d1, d2] }
  | _ => none }
def TraceJoinWrongFalsely : Prop := traceJoinRow.holds Try.pinned (OpenSpec.ofChange traceJoinWrong)

/-- 'dormouselaw06.TraceOwn': WHATEVER THE INPUT: true; the input reads as it did. -/
def traceOwnSpec : ChangeSpec := { name := "traceOwn", fn := fun _ => fun
  | [d] => { results := [.lit (.bool true)], args := [d] }
  | _ => none }
def traceOwnRow : OpenClaim := { program := "ytmfphojmegfanaa", sum := "6576e9980b8406bd617610036d8d8a755a2386bafb6e79f874d094cc1e4ef079", func := "dormouse/dormouselaw06.TraceOwn", spec := "traceOwn", apart := false }
def TraceOwnSaid : Prop := traceOwnRow.holds Try.pinned (OpenSpec.ofChange traceOwnSpec)

/-- ITS FALSE NEIGHBOUR: 'it returns false'. Refute it at one input. -/
def traceOwnWrong : ChangeSpec := { name := "traceOwn", fn := fun _ => fun
  | [d] => { results := [.lit (.bool false)], args := [d] }
  | _ => none }
def TraceOwnWrongFalsely : Prop := traceOwnRow.holds Try.pinned (OpenSpec.ofChange traceOwnWrong)

/-- 'dormouselaw04.TableChecks': WHATEVER THE INPUT: true; the input reads as it did. -/
def tableChecksSpec : ChangeSpec := { name := "tableChecks", fn := fun _ => fun
  | [d] => { results := [.lit (.bool true)], args := [d] }
  | _ => none }
def tableChecksRow : OpenClaim := { program := "ytmfphojmegfanaa", sum := "6576e9980b8406bd617610036d8d8a755a2386bafb6e79f874d094cc1e4ef079", func := "dormouse/dormouselaw04.TableChecks", spec := "tableChecks", apart := false }
def TableChecksSaid : Prop := tableChecksRow.holds Try.pinned (OpenSpec.ofChange tableChecksSpec)

/-- ITS FALSE NEIGHBOUR: 'it returns false'. Refute it at one input. -/
def tableChecksWrong : ChangeSpec := { name := "tableChecks", fn := fun _ => fun
  | [d] => { results := [.lit (.bool false)], args := [d] }
  | _ => none }
def TableChecksWrongFalsely : Prop := tableChecksRow.holds Try.pinned (OpenSpec.ofChange tableChecksWrong)

/-- 'dormouselaw04.TableSaves': WHATEVER THE INPUT: true; the input reads as it did. -/
def tableSavesSpec : ChangeSpec := { name := "tableSaves", fn := fun _ => fun
  | [d1, d2] => { results := [.lit (.bool true)], args := [d1, d2] }
  | _ => none }
def tableSavesRow : OpenClaim := { program := "ytmfphojmegfanaa", sum := "6576e9980b8406bd617610036d8d8a755a2386bafb6e79f874d094cc1e4ef079", func := "dormouse/dormouselaw04.TableSaves", spec := "tableSaves", apart := false }
def TableSavesSaid : Prop := tableSavesRow.holds Try.pinned (OpenSpec.ofChange tableSavesSpec)

/-- ITS FALSE NEIGHBOUR: 'it returns false'. Refute it at one input. -/
def tableSavesWrong : ChangeSpec := { name := "tableSaves", fn := fun _ => fun
  | [d1, d2] => { results := [.lit (.bool false)], args := [d1, d2] }
  | _ => none }
def TableSavesWrongFalsely : Prop := tableSavesRow.holds Try.pinned (OpenSpec.ofChange tableSavesWrong)

/-- 'dormouselaw04.TableNet': WHATEVER THE INPUT: true; the input reads as it did. -/
def tableNetSpec : ChangeSpec := { name := "tableNet", fn := fun _ => fun
  | [d1, d2, d3] => { results := [.lit (.bool true)], args := [d1, d2, d3] }
  | _ => none }
def tableNetRow : OpenClaim := { program := "ytmfphojmegfanaa", sum := "6576e9980b8406bd617610036d8d8a755a2386bafb6e79f874d094cc1e4ef079", func := "dormouse/dormouselaw04.TableNet", spec := "tableNet", apart := false }
def TableNetSaid : Prop := tableNetRow.holds Try.pinned (OpenSpec.ofChange tableNetSpec)

/-- ITS FALSE NEIGHBOUR: 'it returns false'. Refute it at one input. -/
def tableNetWrong : ChangeSpec := { name := "tableNet", fn := fun _ => fun
  | [d1, d2, d3] => { results := [.lit (.bool false)], args := [d1, d2, d3] }
  | _ => none }
def TableNetWrongFalsely : Prop := tableNetRow.holds Try.pinned (OpenSpec.ofChange tableNetWrong)

/-- 'dormouselaw04.TableLess': WHATEVER THE INPUT: true; the input reads as it did. -/
def tableLessSpec : ChangeSpec := { name := "tableLess", fn := fun _ => fun
  | [d] => { results := [.lit (.bool true)], args := [d] }
  | _ => none }
def tableLessRow : OpenClaim := { program := "ytmfphojmegfanaa", sum := "6576e9980b8406bd617610036d8d8a755a2386bafb6e79f874d094cc1e4ef079", func := "dormouse/dormouselaw04.TableLess", spec := "tableLess", apart := false }
def TableLessSaid : Prop := tableLessRow.holds Try.pinned (OpenSpec.ofChange tableLessSpec)

/-- ITS FALSE NEIGHBOUR: 'it returns false'. Refute it at one input. -/
def tableLessWrong : ChangeSpec := { name := "tableLess", fn := fun _ => fun
  | [d] => { results := [.lit (.bool false)], args := [d] }
  | _ => none }
def TableLessWrongFalsely : Prop := tableLessRow.holds Try.pinned (OpenSpec.ofChange tableLessWrong)

/-- 'dormouselaw04.TableOne': WHATEVER THE INPUT: true; the input reads as it did. -/
def tableOneSpec : ChangeSpec := { name := "tableOne", fn := fun _ => fun
  | [d1, d2, d3] => { results := [.lit (.bool true)], args := [d1, d2, d3] }
  | _ => none }
def tableOneRow : OpenClaim := { program := "ytmfphojmegfanaa", sum := "6576e9980b8406bd617610036d8d8a755a2386bafb6e79f874d094cc1e4ef079", func := "dormouse/dormouselaw04.TableOne", spec := "tableOne", apart := false }
def TableOneSaid : Prop := tableOneRow.holds Try.pinned (OpenSpec.ofChange tableOneSpec)

/-- ITS FALSE NEIGHBOUR: 'it returns false'. Refute it at one input. -/
def tableOneWrong : ChangeSpec := { name := "tableOne", fn := fun _ => fun
  | [d1, d2, d3] => { results := [.lit (.bool false)], args := [d1, d2, d3] }
  | _ => none }
def TableOneWrongFalsely : Prop := tableOneRow.holds Try.pinned (OpenSpec.ofChange tableOneWrong)

/-- 'dormouselaw09.TaskChecks': WHATEVER THE INPUT: true; the input reads as it did. -/
def taskChecksSpec : ChangeSpec := { name := "taskChecks", fn := fun _ => fun
  | [d1, d2] => { results := [.lit (.bool true)], args := [d1, d2] }
  | _ => none }
def taskChecksRow : OpenClaim := { program := "ytmfphojmegfanaa", sum := "6576e9980b8406bd617610036d8d8a755a2386bafb6e79f874d094cc1e4ef079", func := "dormouse/dormouselaw09.TaskChecks", spec := "taskChecks", unfollowed := true, recurses := true, apart := false }
def TaskChecksSaid : Prop := taskChecksRow.holds Try.pinned (OpenSpec.ofChange taskChecksSpec)

/-- ITS FALSE NEIGHBOUR: 'it returns false'. Refute it at one input. -/
def taskChecksWrong : ChangeSpec := { name := "taskChecks", fn := fun _ => fun
  | [d1, d2] => { results := [.lit (.bool false)], args := [d1, d2] }
  | _ => none }
def TaskChecksWrongFalsely : Prop := taskChecksRow.holds Try.pinned (OpenSpec.ofChange taskChecksWrong)

/- THE SECOND FORM. 'bulk': how many values and letters a reading holds, each counted each time it is reached (what is shared counts as often as it is met; a slice's spare places count too). A statement '..UptoSaid' is the law's where the arguments, and the package variables that the reading takes, are together of bulk at most 1048576: NARROWER than '..Said'. Prove '..Said' where nothing that the law and all that it calls make is longer than what came in: it says more and counts as full. Else prove '..UptoSaid'. A law counts once. -/
mutual
def uptoBulk {H : Type} : DataW H → Nat
  | .lit (.string bytes) => bytes.length + 1
  | .lit _ => 1
  | .nil => 1
  | .ptr d => uptoBulk d + 1
  | .slice elems spare => uptoBulkAll elems + uptoBulkAll spare + 1
  | .agg parts => uptoBulkAll parts + 1
  | .iface _ d => uptoBulk d + 1
  | .map entries => uptoBulkEntries entries + 1
  | .held _ => 1
def uptoBulkAll {H : Type} : List (DataW H) → Nat
  | [] => 0
  | d :: r => uptoBulk d + uptoBulkAll r
def uptoBulkEntries {H : Type} : List (Lit × DataW H) → Nat
  | [] => 0
  | x :: r => uptoBulkEntry x + uptoBulkEntries r
def uptoBulkEntry {H : Type} : Lit × DataW H → Nat
  | (.string bytes, d) => bytes.length + uptoBulk d + 1
  | (_, d) => uptoBulk d + 1
 end
def uptoSmall : (H : Type) → List (DataW H) → Bool := fun _ ds => decide (uptoBulkAll ds ≤ 1048576)
def OpenSpec.upto (s : _root_.Go.ChangeSpec) : _root_.Go.OpenSpec := { _root_.Go.OpenSpec.ofChange s with cond := some uptoSmall }

/-- 'dormouselaw18.PlanUntil', WHERE WHAT IT READS IS OF BULK AT MOST 1048576: true; the input reads as it did. -/
def planUntilUptoRow : OpenClaim := { program := "ytmfphojmegfanaa", sum := "6576e9980b8406bd617610036d8d8a755a2386bafb6e79f874d094cc1e4ef079", func := "dormouse/dormouselaw18.PlanUntil", spec := "planUntil", apart := false, narrowed := true }
def PlanUntilUptoSaid : Prop := planUntilUptoRow.holds Try.pinned (OpenSpec.upto planUntilSpec)

/-- 'dormouselaw18.PlanSafe', WHERE WHAT IT READS IS OF BULK AT MOST 1048576: true; the input reads as it did. -/
def planSafeUptoRow : OpenClaim := { program := "ytmfphojmegfanaa", sum := "6576e9980b8406bd617610036d8d8a755a2386bafb6e79f874d094cc1e4ef079", func := "dormouse/dormouselaw18.PlanSafe", spec := "planSafe", apart := false, narrowed := true }
def PlanSafeUptoSaid : Prop := planSafeUptoRow.holds Try.pinned (OpenSpec.upto planSafeSpec)

/-- 'dormouselaw18.PlanMore', WHERE WHAT IT READS IS OF BULK AT MOST 1048576: true; the input reads as it did. -/
def planMoreUptoRow : OpenClaim := { program := "ytmfphojmegfanaa", sum := "6576e9980b8406bd617610036d8d8a755a2386bafb6e79f874d094cc1e4ef079", func := "dormouse/dormouselaw18.PlanMore", spec := "planMore", apart := false, narrowed := true }
def PlanMoreUptoSaid : Prop := planMoreUptoRow.holds Try.pinned (OpenSpec.upto planMoreSpec)

/-- 'dormouselaw06.TraceAdds', WHERE WHAT IT READS IS OF BULK AT MOST 1048576: true; the input reads as it did. -/
def traceAddsUptoRow : OpenClaim := { program := "ytmfphojmegfanaa", sum := "6576e9980b8406bd617610036d8d8a755a2386bafb6e79f874d094cc1e4ef079", func := "dormouse/dormouselaw06.TraceAdds", spec := "traceAdds", apart := false, narrowed := true }
def TraceAddsUptoSaid : Prop := traceAddsUptoRow.holds Try.pinned (OpenSpec.upto traceAddsSpec)

/-- 'dormouselaw06.TraceJoin', WHERE WHAT IT READS IS OF BULK AT MOST 1048576: true; the input reads as it did. -/
def traceJoinUptoRow : OpenClaim := { program := "ytmfphojmegfanaa", sum := "6576e9980b8406bd617610036d8d8a755a2386bafb6e79f874d094cc1e4ef079", func := "dormouse/dormouselaw06.TraceJoin", spec := "traceJoin", apart := false, narrowed := true }
def TraceJoinUptoSaid : Prop := traceJoinUptoRow.holds Try.pinned (OpenSpec.upto traceJoinSpec)

/-- 'dormouselaw06.TraceOwn', WHERE WHAT IT READS IS OF BULK AT MOST 1048576: true; the input reads as it did. -/
def traceOwnUptoRow : OpenClaim := { program := "ytmfphojmegfanaa", sum := "6576e9980b8406bd617610036d8d8a755a2386bafb6e79f874d094cc1e4ef079", func := "dormouse/dormouselaw06.TraceOwn", spec := "traceOwn", apart := false, narrowed := true }
def TraceOwnUptoSaid : Prop := traceOwnUptoRow.holds Try.pinned (OpenSpec.upto traceOwnSpec)

/-- 'dormouselaw04.TableChecks', WHERE WHAT IT READS IS OF BULK AT MOST 1048576: true; the input reads as it did. -/
def tableChecksUptoRow : OpenClaim := { program := "ytmfphojmegfanaa", sum := "6576e9980b8406bd617610036d8d8a755a2386bafb6e79f874d094cc1e4ef079", func := "dormouse/dormouselaw04.TableChecks", spec := "tableChecks", apart := false, narrowed := true }
def TableChecksUptoSaid : Prop := tableChecksUptoRow.holds Try.pinned (OpenSpec.upto tableChecksSpec)

/-- 'dormouselaw04.TableSaves', WHERE WHAT IT READS IS OF BULK AT MOST 1048576: true; the input reads as it did. -/
def tableSavesUptoRow : OpenClaim := { program := "ytmfphojmegfanaa", sum := "6576e9980b8406bd617610036d8d8a755a2386bafb6e79f874d094cc1e4ef079", func := "dormouse/dormouselaw04.TableSaves", spec := "tableSaves", apart := false, narrowed := true }
def TableSavesUptoSaid : Prop := tableSavesUptoRow.holds Try.pinned (OpenSpec.upto tableSavesSpec)

/-- 'dormouselaw04.TableNet', WHERE WHAT IT READS IS OF BULK AT MOST 1048576: true; the input reads as it did. -/
def tableNetUptoRow : OpenClaim := { program := "ytmfphojmegfanaa", sum := "6576e9980b8406bd617610036d8d8a755a2386bafb6e79f874d094cc1e4ef079", func := "dormouse/dormouselaw04.TableNet", spec := "tableNet", apart := false, narrowed := true }
def TableNetUptoSaid : Prop := tableNetUptoRow.holds Try.pinned (OpenSpec.upto tableNetSpec)

/-- 'dormouselaw04.TableLess', WHERE WHAT IT READS IS OF BULK AT MOST 1048576: true; the input reads as it did. -/
def tableLessUptoRow : OpenClaim := { program := "ytmfphojmegfanaa", sum := "6576e9980b8406bd617610036d8d8a755a2386bafb6e79f874d094cc1e4ef079", func := "dormouse/dormouselaw04.TableLess", spec := "tableLess", apart := false, narrowed := true }
def TableLessUptoSaid : Prop := tableLessUptoRow.holds Try.pinned (OpenSpec.upto tableLessSpec)

/-- 'dormouselaw04.TableOne', WHERE WHAT IT READS IS OF BULK AT MOST 1048576: true; the input reads as it did. -/
def tableOneUptoRow : OpenClaim := { program := "ytmfphojmegfanaa", sum := "6576e9980b8406bd617610036d8d8a755a2386bafb6e79f874d094cc1e4ef079", func := "dormouse/dormouselaw04.TableOne", spec := "tableOne", apart := false, narrowed := true }
def TableOneUptoSaid : Prop := tableOneUptoRow.holds Try.pinned (OpenSpec.upto tableOneSpec)

/-- 'dormouselaw09.TaskChecks', WHERE WHAT IT READS IS OF BULK AT MOST 1048576: true; the input reads as it did. -/
def taskChecksUptoRow : OpenClaim := { program := "ytmfphojmegfanaa", sum := "6576e9980b8406bd617610036d8d8a755a2386bafb6e79f874d094cc1e4ef079", func := "dormouse/dormouselaw09.TaskChecks", spec := "taskChecks", unfollowed := true, recurses := true, apart := false, narrowed := true }
def TaskChecksUptoSaid : Prop := taskChecksUptoRow.holds Try.pinned (OpenSpec.upto taskChecksSpec)

end Rows
end Go.Proofs.Ytmfphojmegfanaa
