/-
  No cell of these rows narrows 'for every input' (looked for: loops, veiled, ifaces, maps, wideKeys, modest, calm, conditions, laid).
  DERIVED. THE GIVEN ROWS OF THIS SEAT. 5 by the template 'for every input the law returns true; each argument reads behind the call as it read before'; 0 by the template 'total and deterministic' (their statements: YtfaeemahdkobfaaTotals.lean).
  GIVEN WITH THE SEED: the statements are not yours to turn. If you find one false, say at which input.
  Laid BY PROGRAM, IN A SANDBOX (cutbox-rows.mjs): the forced cells as the released guide's own fill.sh prints them over the translation 257fd7242db3509b… (all of the seat's roots in one cut). By AI agents, Wed Nov 11 2026. No macro, syntax, notation, axiom, sorry.
-/
import Derived.Test.YtfaeemahdkobfaaChecked
import GoSem.Claim
import GoSem.ClaimJoined
import GoSem.ClaimMapViews
import Derived.JoinedTies
import Derived.KernelRfl
namespace Go.Proofs.Ytfaeemahdkobfaa
/- THE CELL 'sum', in the pinned program and in every row, IS THE sha256 OF THE DUMP (.gsa) THAT YtfaeemahdkobfaaProg.lean LOADS. Nothing in Lean hashes anything: it is a label: what it is worth is what the hold of that sum in a sandbox is worth. -/
noncomputable def Try.pinned : Pinned := { name := "ytfaeemahdkobfaa", sum := "257fd7242db3509bd6dc58ad6f4a6db5a3f450ccea65f5546da833ff07be3a03", checked := Try.checked }
namespace Rows
def none {H : Type} : Left H := { results := [], args := [] }

/-- 'dormouselaw12.ReadyOrder': WHATEVER THE INPUT: true; the input reads as it did. -/
def readyOrderSpec : ChangeSpec := { name := "readyOrder", fn := fun _ => fun
  | [d] => { results := [.lit (.bool true)], args := [d] }
  | _ => none }
def readyOrderRow : OpenClaim := { program := "ytfaeemahdkobfaa", sum := "257fd7242db3509bd6dc58ad6f4a6db5a3f450ccea65f5546da833ff07be3a03", func := "dormouse/dormouselaw12.ReadyOrder", spec := "readyOrder", unfollowed := true, recurses := true, apart := false }
def ReadyOrderSaid : Prop := readyOrderRow.holds Try.pinned (OpenSpec.ofChange readyOrderSpec)

/-- ITS FALSE NEIGHBOUR: 'it returns false'. Refute it at one input. -/
def readyOrderWrong : ChangeSpec := { name := "readyOrder", fn := fun _ => fun
  | [d] => { results := [.lit (.bool false)], args := [d] }
  | _ => none }
def ReadyOrderWrongFalsely : Prop := readyOrderRow.holds Try.pinned (OpenSpec.ofChange readyOrderWrong)

/-- 'dormouselaw12.ReadyOwn': WHATEVER THE INPUT: true; the input reads as it did. -/
def readyOwnSpec : ChangeSpec := { name := "readyOwn", fn := fun _ => fun
  | [d] => { results := [.lit (.bool true)], args := [d] }
  | _ => none }
def readyOwnRow : OpenClaim := { program := "ytfaeemahdkobfaa", sum := "257fd7242db3509bd6dc58ad6f4a6db5a3f450ccea65f5546da833ff07be3a03", func := "dormouse/dormouselaw12.ReadyOwn", spec := "readyOwn", unfollowed := true, recurses := true, apart := false }
def ReadyOwnSaid : Prop := readyOwnRow.holds Try.pinned (OpenSpec.ofChange readyOwnSpec)

/-- ITS FALSE NEIGHBOUR: 'it returns false'. Refute it at one input. -/
def readyOwnWrong : ChangeSpec := { name := "readyOwn", fn := fun _ => fun
  | [d] => { results := [.lit (.bool false)], args := [d] }
  | _ => none }
def ReadyOwnWrongFalsely : Prop := readyOwnRow.holds Try.pinned (OpenSpec.ofChange readyOwnWrong)

/-- 'dormouselaw12.ReadyPlays': WHATEVER THE INPUT: true; the input reads as it did. -/
def readyPlaysSpec : ChangeSpec := { name := "readyPlays", fn := fun _ => fun
  | [d] => { results := [.lit (.bool true)], args := [d] }
  | _ => none }
def readyPlaysRow : OpenClaim := { program := "ytfaeemahdkobfaa", sum := "257fd7242db3509bd6dc58ad6f4a6db5a3f450ccea65f5546da833ff07be3a03", func := "dormouse/dormouselaw12.ReadyPlays", spec := "readyPlays", unfollowed := true, recurses := true, apart := false }
def ReadyPlaysSaid : Prop := readyPlaysRow.holds Try.pinned (OpenSpec.ofChange readyPlaysSpec)

/-- ITS FALSE NEIGHBOUR: 'it returns false'. Refute it at one input. -/
def readyPlaysWrong : ChangeSpec := { name := "readyPlays", fn := fun _ => fun
  | [d] => { results := [.lit (.bool false)], args := [d] }
  | _ => none }
def ReadyPlaysWrongFalsely : Prop := readyPlaysRow.holds Try.pinned (OpenSpec.ofChange readyPlaysWrong)

/-- 'dormouselaw12.ReadyDrops': WHATEVER THE INPUT: true; the input reads as it did. -/
def readyDropsSpec : ChangeSpec := { name := "readyDrops", fn := fun _ => fun
  | [d1, d2] => { results := [.lit (.bool true)], args := [d1, d2] }
  | _ => none }
def readyDropsRow : OpenClaim := { program := "ytfaeemahdkobfaa", sum := "257fd7242db3509bd6dc58ad6f4a6db5a3f450ccea65f5546da833ff07be3a03", func := "dormouse/dormouselaw12.ReadyDrops", spec := "readyDrops", unfollowed := true, recurses := true, apart := false }
def ReadyDropsSaid : Prop := readyDropsRow.holds Try.pinned (OpenSpec.ofChange readyDropsSpec)

/-- ITS FALSE NEIGHBOUR: 'it returns false'. Refute it at one input. -/
def readyDropsWrong : ChangeSpec := { name := "readyDrops", fn := fun _ => fun
  | [d1, d2] => { results := [.lit (.bool false)], args := [d1, d2] }
  | _ => none }
def ReadyDropsWrongFalsely : Prop := readyDropsRow.holds Try.pinned (OpenSpec.ofChange readyDropsWrong)

/-- 'dormouselaw12.ReadyNone': WHATEVER THE INPUT: true; the input reads as it did. -/
def readyNoneSpec : ChangeSpec := { name := "readyNone", fn := fun _ => fun
  | [d] => { results := [.lit (.bool true)], args := [d] }
  | _ => none }
def readyNoneRow : OpenClaim := { program := "ytfaeemahdkobfaa", sum := "257fd7242db3509bd6dc58ad6f4a6db5a3f450ccea65f5546da833ff07be3a03", func := "dormouse/dormouselaw12.ReadyNone", spec := "readyNone", unfollowed := true, recurses := true, apart := false }
def ReadyNoneSaid : Prop := readyNoneRow.holds Try.pinned (OpenSpec.ofChange readyNoneSpec)

/-- ITS FALSE NEIGHBOUR: 'it returns false'. Refute it at one input. -/
def readyNoneWrong : ChangeSpec := { name := "readyNone", fn := fun _ => fun
  | [d] => { results := [.lit (.bool false)], args := [d] }
  | _ => none }
def ReadyNoneWrongFalsely : Prop := readyNoneRow.holds Try.pinned (OpenSpec.ofChange readyNoneWrong)

/- THE SECOND FORM. 'bulk': how many values and letters a reading holds, each counted each time it is reached (what is shared counts as often as it is met; a slice's spare places count too). A statement '..UptoSaid' is the law's where the arguments, and the package variables that the reading takes, are together of bulk at most 1048576: NARROWER than '..Said'. Prove '..Said' where nothing that the law and all that it calls make is longer than what came in: it says more and counts as full. Else prove '..UptoSaid'. A law counts once. -/
mutual
def uptoBulk {H : Type} : DataW H → Nat
  | .lit (.string bytes) => bytes.length + 1
  | .lit _ => 1
  | .nil => 1
  | .ptr d => uptoBulk d + 1
  | .slice elems spare => uptoBulkAll elems + uptoBulkAll spare + 1
  | .agg parts => uptoBulkAll parts + 1
  | .iface _ d => uptoBulk d + 1
  | .map entries => uptoBulkEntries entries + 1
  | .held _ => 1
def uptoBulkAll {H : Type} : List (DataW H) → Nat
  | [] => 0
  | d :: r => uptoBulk d + uptoBulkAll r
def uptoBulkEntries {H : Type} : List (Lit × DataW H) → Nat
  | [] => 0
  | x :: r => uptoBulkEntry x + uptoBulkEntries r
def uptoBulkEntry {H : Type} : Lit × DataW H → Nat
  | (.string bytes, d) => bytes.length + uptoBulk d + 1
  | (_, d) => uptoBulk d + 1
 end
def uptoSmall : (H : Type) → List (DataW H) → Bool := fun _ ds => decide (uptoBulkAll ds ≤ 1048576)
def OpenSpec.upto (s : _root_.Go.ChangeSpec) : _root_.Go.OpenSpec := { _root_.Go.OpenSpec.ofChange s with cond := some uptoSmall }

/-- 'dormouselaw12.ReadyOrder', WHERE WHAT IT READS IS OF BULK AT MOST 1048576: true; the input reads as it did. -/
def readyOrderUptoRow : OpenClaim := { program := "ytfaeemahdkobfaa", sum := "257fd7242db3509bd6dc58ad6f4a6db5a3f450ccea65f5546da833ff07be3a03", func := "dormouse/dormouselaw12.ReadyOrder", spec := "readyOrder", unfollowed := true, recurses := true, apart := false, narrowed := true }
def ReadyOrderUptoSaid : Prop := readyOrderUptoRow.holds Try.pinned (OpenSpec.upto readyOrderSpec)

/-- 'dormouselaw12.ReadyOwn', WHERE WHAT IT READS IS OF BULK AT MOST 1048576: true; the input reads as it did. -/
def readyOwnUptoRow : OpenClaim := { program := "ytfaeemahdkobfaa", sum := "257fd7242db3509bd6dc58ad6f4a6db5a3f450ccea65f5546da833ff07be3a03", func := "dormouse/dormouselaw12.ReadyOwn", spec := "readyOwn", unfollowed := true, recurses := true, apart := false, narrowed := true }
def ReadyOwnUptoSaid : Prop := readyOwnUptoRow.holds Try.pinned (OpenSpec.upto readyOwnSpec)

/-- 'dormouselaw12.ReadyPlays', WHERE WHAT IT READS IS OF BULK AT MOST 1048576: true; the input reads as it did. -/
def readyPlaysUptoRow : OpenClaim := { program := "ytfaeemahdkobfaa", sum := "257fd7242db3509bd6dc58ad6f4a6db5a3f450ccea65f5546da833ff07be3a03", func := "dormouse/dormouselaw12.ReadyPlays", spec := "readyPlays", unfollowed := true, recurses := true, apart := false, narrowed := true }
def ReadyPlaysUptoSaid : Prop := readyPlaysUptoRow.holds Try.pinned (OpenSpec.upto readyPlaysSpec)

/-- 'dormouselaw12.ReadyDrops', WHERE WHAT IT READS IS OF BULK AT MOST 1048576: true; the input reads as it did. -/
def readyDropsUptoRow : OpenClaim := { program := "ytfaeemahdkobfaa", sum := "257fd7242db3509bd6dc58ad6f4a6db5a3f450ccea65f5546da833ff07be3a03", func := "dormouse/dormouselaw12.ReadyDrops", spec := "readyDrops", unfollowed := true, recurses := true, apart := false, narrowed := true }
def ReadyDropsUptoSaid : Prop := readyDropsUptoRow.holds Try.pinned (OpenSpec.upto readyDropsSpec)

/-- 'dormouselaw12.ReadyNone', WHERE WHAT IT READS IS OF BULK AT MOST 1048576: true; the input reads as it did. -/
def readyNoneUptoRow : OpenClaim := { program := "ytfaeemahdkobfaa", sum := "257fd7242db3509bd6dc58ad6f4a6db5a3f450ccea65f5546da833ff07be3a03", func := "dormouse/dormouselaw12.ReadyNone", spec := "readyNone", unfollowed := true, recurses := true, apart := false, narrowed := true }
def ReadyNoneUptoSaid : Prop := readyNoneUptoRow.holds Try.pinned (OpenSpec.upto readyNoneSpec)

end Rows
end Go.Proofs.Ytfaeemahdkobfaa
