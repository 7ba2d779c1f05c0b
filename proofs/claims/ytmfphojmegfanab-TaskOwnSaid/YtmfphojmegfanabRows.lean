/-
  No cell of these rows narrows 'for every input' (looked for: loops, veiled, ifaces, maps, wideKeys, modest, calm, conditions, laid).
  DERIVED. THE GIVEN ROWS OF THIS SEAT. 4 by the template 'for every input the law returns true; each argument reads behind the call as it read before'; 0 by the template 'total and deterministic' (their statements: YtmfphojmegfanabTotals.lean).
  GIVEN WITH THE SEED: the statements are not yours to turn. If you find one false, say at which input.
  Laid BY PROGRAM, IN A SANDBOX (cutbox-rows.mjs): the forced cells as the released guide's own fill.sh prints them over the translation 7093aab04b937c69… (all of the seat's roots in one cut). By AI agents, Wed Nov 11 2026. No macro, syntax, notation, axiom, sorry.
-/
import Derived.Test.YtmfphojmegfanabChecked
import GoSem.Claim
import GoSem.ClaimJoined
import GoSem.ClaimMapViews
import Derived.JoinedTies
import Derived.KernelRfl
namespace Go.Proofs.Ytmfphojmegfanab
/- THE CELL 'sum', in the pinned program and in every row, IS THE sha256 OF THE DUMP (.gsa) THAT YtmfphojmegfanabProg.lean LOADS. Nothing in Lean hashes anything: it is a label: what it is worth is what the hold of that sum in a sandbox is worth. -/
noncomputable def Try.pinned : Pinned := { name := "ytmfphojmegfanab", sum := "7093aab04b937c6936e01ee6972566e370f40c49cd6a94388572c3a4399ea447", checked := Try.checked }
namespace Rows
def none {H : Type} : Left H := { results := [], args := [] }

/-- 'dormouselaw09.TaskUses': WHATEVER THE INPUT: true; the input reads as it did. -/
def taskUsesSpec : ChangeSpec := { name := "taskUses", fn := fun _ => fun
  | [d1, d2] => { results := [.lit (.bool true)], args := [d1, d2] }
  | _ => none }
def taskUsesRow : OpenClaim := { program := "ytmfphojmegfanab", sum := "7093aab04b937c6936e01ee6972566e370f40c49cd6a94388572c3a4399ea447", func := "dormouse/dormouselaw09.TaskUses", spec := "taskUses", unfollowed := true, recurses := true, apart := false }
def TaskUsesSaid : Prop := taskUsesRow.holds Try.pinned (OpenSpec.ofChange taskUsesSpec)

/-- ITS FALSE NEIGHBOUR: 'it returns false'. Refute it at one input. -/
def taskUsesWrong : ChangeSpec := { name := "taskUses", fn := fun _ => fun
  | [d1, d2] => { results := [.lit (.bool false)], args := [d1, d2] }
  | _ => none }
def TaskUsesWrongFalsely : Prop := taskUsesRow.holds Try.pinned (OpenSpec.ofChange taskUsesWrong)

/-- 'dormouselaw09.TaskOwn': WHATEVER THE INPUT: true; the input reads as it did. -/
def taskOwnSpec : ChangeSpec := { name := "taskOwn", fn := fun _ => fun
  | [d] => { results := [.lit (.bool true)], args := [d] }
  | _ => none }
def taskOwnRow : OpenClaim := { program := "ytmfphojmegfanab", sum := "7093aab04b937c6936e01ee6972566e370f40c49cd6a94388572c3a4399ea447", func := "dormouse/dormouselaw09.TaskOwn", spec := "taskOwn", unfollowed := true, recurses := true, apart := false }
def TaskOwnSaid : Prop := taskOwnRow.holds Try.pinned (OpenSpec.ofChange taskOwnSpec)

/-- ITS FALSE NEIGHBOUR: 'it returns false'. Refute it at one input. -/
def taskOwnWrong : ChangeSpec := { name := "taskOwn", fn := fun _ => fun
  | [d] => { results := [.lit (.bool false)], args := [d] }
  | _ => none }
def TaskOwnWrongFalsely : Prop := taskOwnRow.holds Try.pinned (OpenSpec.ofChange taskOwnWrong)

/-- 'dormouselaw09.TaskCeiling': WHATEVER THE INPUT: true; the input reads as it did. -/
def taskCeilingSpec : ChangeSpec := { name := "taskCeiling", fn := fun _ => fun
  | [d1, d2] => { results := [.lit (.bool true)], args := [d1, d2] }
  | _ => none }
def taskCeilingRow : OpenClaim := { program := "ytmfphojmegfanab", sum := "7093aab04b937c6936e01ee6972566e370f40c49cd6a94388572c3a4399ea447", func := "dormouse/dormouselaw09.TaskCeiling", spec := "taskCeiling", unfollowed := true, recurses := true, apart := false }
def TaskCeilingSaid : Prop := taskCeilingRow.holds Try.pinned (OpenSpec.ofChange taskCeilingSpec)

/-- ITS FALSE NEIGHBOUR: 'it returns false'. Refute it at one input. -/
def taskCeilingWrong : ChangeSpec := { name := "taskCeiling", fn := fun _ => fun
  | [d1, d2] => { results := [.lit (.bool false)], args := [d1, d2] }
  | _ => none }
def TaskCeilingWrongFalsely : Prop := taskCeilingRow.holds Try.pinned (OpenSpec.ofChange taskCeilingWrong)

/-- 'dormouselaw09.TaskLeast': WHATEVER THE INPUT: true; the input reads as it did. -/
def taskLeastSpec : ChangeSpec := { name := "taskLeast", fn := fun _ => fun
  | [d1, d2, d3] => { results := [.lit (.bool true)], args := [d1, d2, d3] }
  | _ => none }
def taskLeastRow : OpenClaim := { program := "ytmfphojmegfanab", sum := "7093aab04b937c6936e01ee6972566e370f40c49cd6a94388572c3a4399ea447", func := "dormouse/dormouselaw09.TaskLeast", spec := "taskLeast", unfollowed := true, recurses := true, apart := false }
def TaskLeastSaid : Prop := taskLeastRow.holds Try.pinned (OpenSpec.ofChange taskLeastSpec)

/-- ITS FALSE NEIGHBOUR: 'it returns false'. Refute it at one input. -/
def taskLeastWrong : ChangeSpec := { name := "taskLeast", fn := fun _ => fun
  | [d1, d2, d3] => { results := [.lit (.bool false)], args := [d1, d2, d3] }
  | _ => none }
def TaskLeastWrongFalsely : Prop := taskLeastRow.holds Try.pinned (OpenSpec.ofChange taskLeastWrong)

/- THE SECOND FORM. 'bulk': how many values and letters a reading holds, each counted each time it is reached (what is shared counts as often as it is met; a slice's spare places count too). A statement '..UptoSaid' is the law's where the arguments, and the package variables that the reading takes, are together of bulk at most 1048576: NARROWER than '..Said'. Prove '..Said' where nothing that the law and all that it calls make is longer than what came in: it says more and counts as full. Else prove '..UptoSaid'. A law counts once. -/
mutual
def uptoBulk {H : Type} : DataW H → Nat
  | .lit (.string bytes) => bytes.length + 1
  | .lit _ => 1
  | .nil => 1
  | .ptr d => uptoBulk d + 1
  | .slice elems spare => uptoBulkAll elems + uptoBulkAll spare + 1
  | .agg parts => uptoBulkAll parts + 1
  | .iface _ d => uptoBulk d + 1
  | .map entries => uptoBulkEntries entries + 1
  | .held _ => 1
def uptoBulkAll {H : Type} : List (DataW H) → Nat
  | [] => 0
  | d :: r => uptoBulk d + uptoBulkAll r
def uptoBulkEntries {H : Type} : List (Lit × DataW H) → Nat
  | [] => 0
  | x :: r => uptoBulkEntry x + uptoBulkEntries r
def uptoBulkEntry {H : Type} : Lit × DataW H → Nat
  | (.string bytes, d) => bytes.length + uptoBulk d + 1
  | (_, d) => uptoBulk d + 1
 end
def uptoSmall : (H : Type) → List (DataW H) → Bool := fun _ ds => decide (uptoBulkAll ds ≤ 1048576)
def OpenSpec.upto (s : _root_.Go.ChangeSpec) : _root_.Go.OpenSpec := { _root_.Go.OpenSpec.ofChange s with cond := some uptoSmall }

/-- 'dormouselaw09.TaskUses', WHERE WHAT IT READS IS OF BULK AT MOST 1048576: true; the input reads as it did. -/
def taskUsesUptoRow : OpenClaim := { program := "ytmfphojmegfanab", sum := "7093aab04b937c6936e01ee6972566e370f40c49cd6a94388572c3a4399ea447", func := "dormouse/dormouselaw09.TaskUses", spec := "taskUses", unfollowed := true, recurses := true, apart := false, narrowed := true }
def TaskUsesUptoSaid : Prop := taskUsesUptoRow.holds Try.pinned (OpenSpec.upto taskUsesSpec)

/-- 'dormouselaw09.TaskOwn', WHERE WHAT IT READS IS OF BULK AT MOST 1048576: true; the input reads as it did. -/
def taskOwnUptoRow : OpenClaim := { program := "ytmfphojmegfanab", sum := "7093aab04b937c6936e01ee6972566e370f40c49cd6a94388572c3a4399ea447", func := "dormouse/dormouselaw09.TaskOwn", spec := "taskOwn", unfollowed := true, recurses := true, apart := false, narrowed := true }
def TaskOwnUptoSaid : Prop := taskOwnUptoRow.holds Try.pinned (OpenSpec.upto taskOwnSpec)

/-- 'dormouselaw09.TaskCeiling', WHERE WHAT IT READS IS OF BULK AT MOST 1048576: true; the input reads as it did. -/
def taskCeilingUptoRow : OpenClaim := { program := "ytmfphojmegfanab", sum := "7093aab04b937c6936e01ee6972566e370f40c49cd6a94388572c3a4399ea447", func := "dormouse/dormouselaw09.TaskCeiling", spec := "taskCeiling", unfollowed := true, recurses := true, apart := false, narrowed := true }
def TaskCeilingUptoSaid : Prop := taskCeilingUptoRow.holds Try.pinned (OpenSpec.upto taskCeilingSpec)

/-- 'dormouselaw09.TaskLeast', WHERE WHAT IT READS IS OF BULK AT MOST 1048576: true; the input reads as it did. -/
def taskLeastUptoRow : OpenClaim := { program := "ytmfphojmegfanab", sum := "7093aab04b937c6936e01ee6972566e370f40c49cd6a94388572c3a4399ea447", func := "dormouse/dormouselaw09.TaskLeast", spec := "taskLeast", unfollowed := true, recurses := true, apart := false, narrowed := true }
def TaskLeastUptoSaid : Prop := taskLeastUptoRow.holds Try.pinned (OpenSpec.upto taskLeastSpec)

end Rows
end Go.Proofs.Ytmfphojmegfanab
