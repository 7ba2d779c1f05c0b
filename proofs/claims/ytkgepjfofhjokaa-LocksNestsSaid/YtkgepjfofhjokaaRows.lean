/-
  No cell of these rows narrows 'for every input' (looked for: loops, veiled, ifaces, maps, wideKeys, modest, calm, conditions, laid).
  DERIVED. THE GIVEN ROWS OF THIS SEAT. 17 by the template 'for every input the law returns true; each argument reads behind the call as it read before'; 0 by the template 'total and deterministic' (their statements: YtkgepjfofhjokaaTotals.lean).
  GIVEN WITH THE SEED: the statements are not yours to turn. If you find one false, say at which input.
  Laid BY PROGRAM, IN A SANDBOX (cutbox-rows.mjs): the forced cells as the released guide's own fill.sh prints them over the translation 1bfe7c6ab8a75b12… (all of the seat's roots in one cut). By AI agents, Wed Nov 11 2026. No macro, syntax, notation, axiom, sorry.
-/
import Derived.Test.YtkgepjfofhjokaaChecked
import GoSem.Claim
import GoSem.ClaimJoined
import GoSem.ClaimMapViews
import Derived.JoinedTies
import Derived.KernelRfl
namespace Go.Proofs.Ytkgepjfofhjokaa
/- THE CELL 'sum', in the pinned program and in every row, IS THE sha256 OF THE DUMP (.gsa) THAT YtkgepjfofhjokaaProg.lean LOADS. Nothing in Lean hashes anything: it is a label: what it is worth is what the hold of that sum in a sandbox is worth. -/
noncomputable def Try.pinned : Pinned := { name := "ytkgepjfofhjokaa", sum := "1bfe7c6ab8a75b1280cc9d4dc5c45e90b5d31d5cda9e4aadff5fdef33ae54bef", checked := Try.checked }
namespace Rows
def none {H : Type} : Left H := { results := [], args := [] }

/-- 'dormouselaw02.HeapSorts': WHATEVER THE INPUT: true; the input reads as it did. -/
def heapSortsSpec : ChangeSpec := { name := "heapSorts", fn := fun _ => fun
  | [d] => { results := [.lit (.bool true)], args := [d] }
  | _ => none }
def heapSortsRow : OpenClaim := { program := "ytkgepjfofhjokaa", sum := "1bfe7c6ab8a75b1280cc9d4dc5c45e90b5d31d5cda9e4aadff5fdef33ae54bef", func := "dormouse/dormouselaw02.HeapSorts", spec := "heapSorts", apart := false }
def HeapSortsSaid : Prop := heapSortsRow.holds Try.pinned (OpenSpec.ofChange heapSortsSpec)

/-- ITS FALSE NEIGHBOUR: 'it returns false'. Refute it at one input. -/
def heapSortsWrong : ChangeSpec := { name := "heapSorts", fn := fun _ => fun
  | [d] => { results := [.lit (.bool false)], args := [d] }
  | _ => none }
def HeapSortsWrongFalsely : Prop := heapSortsRow.holds Try.pinned (OpenSpec.ofChange heapSortsWrong)

/-- 'dormouselaw02.HeapKeys': WHATEVER THE INPUT: true; the input reads as it did. -/
def heapKeysSpec : ChangeSpec := { name := "heapKeys", fn := fun _ => fun
  | [d1, d2, d3, d4] => { results := [.lit (.bool true)], args := [d1, d2, d3, d4] }
  | _ => none }
def heapKeysRow : OpenClaim := { program := "ytkgepjfofhjokaa", sum := "1bfe7c6ab8a75b1280cc9d4dc5c45e90b5d31d5cda9e4aadff5fdef33ae54bef", func := "dormouse/dormouselaw02.HeapKeys", spec := "heapKeys", apart := false }
def HeapKeysSaid : Prop := heapKeysRow.holds Try.pinned (OpenSpec.ofChange heapKeysSpec)

/-- ITS FALSE NEIGHBOUR: 'it returns false'. Refute it at one input. -/
def heapKeysWrong : ChangeSpec := { name := "heapKeys", fn := fun _ => fun
  | [d1, d2, d3, d4] => { results := [.lit (.bool false)], args := [d1, d2, d3, d4] }
  | _ => none }
def HeapKeysWrongFalsely : Prop := heapKeysRow.holds Try.pinned (OpenSpec.ofChange heapKeysWrong)

/-- 'dormouselaw02.HeapPlays': WHATEVER THE INPUT: true; the input reads as it did. -/
def heapPlaysSpec : ChangeSpec := { name := "heapPlays", fn := fun _ => fun
  | [d] => { results := [.lit (.bool true)], args := [d] }
  | _ => none }
def heapPlaysRow : OpenClaim := { program := "ytkgepjfofhjokaa", sum := "1bfe7c6ab8a75b1280cc9d4dc5c45e90b5d31d5cda9e4aadff5fdef33ae54bef", func := "dormouse/dormouselaw02.HeapPlays", spec := "heapPlays", apart := false }
def HeapPlaysSaid : Prop := heapPlaysRow.holds Try.pinned (OpenSpec.ofChange heapPlaysSpec)

/-- ITS FALSE NEIGHBOUR: 'it returns false'. Refute it at one input. -/
def heapPlaysWrong : ChangeSpec := { name := "heapPlays", fn := fun _ => fun
  | [d] => { results := [.lit (.bool false)], args := [d] }
  | _ => none }
def HeapPlaysWrongFalsely : Prop := heapPlaysRow.holds Try.pinned (OpenSpec.ofChange heapPlaysWrong)

/-- 'dormouselaw02.HeapRemoves': WHATEVER THE INPUT: true; the input reads as it did. -/
def heapRemovesSpec : ChangeSpec := { name := "heapRemoves", fn := fun _ => fun
  | [d1, d2] => { results := [.lit (.bool true)], args := [d1, d2] }
  | _ => none }
def heapRemovesRow : OpenClaim := { program := "ytkgepjfofhjokaa", sum := "1bfe7c6ab8a75b1280cc9d4dc5c45e90b5d31d5cda9e4aadff5fdef33ae54bef", func := "dormouse/dormouselaw02.HeapRemoves", spec := "heapRemoves", apart := false }
def HeapRemovesSaid : Prop := heapRemovesRow.holds Try.pinned (OpenSpec.ofChange heapRemovesSpec)

/-- ITS FALSE NEIGHBOUR: 'it returns false'. Refute it at one input. -/
def heapRemovesWrong : ChangeSpec := { name := "heapRemoves", fn := fun _ => fun
  | [d1, d2] => { results := [.lit (.bool false)], args := [d1, d2] }
  | _ => none }
def HeapRemovesWrongFalsely : Prop := heapRemovesRow.holds Try.pinned (OpenSpec.ofChange heapRemovesWrong)

/-- 'dormouselaw02.HeapNone': WHATEVER THE INPUT: true; the input reads as it did. -/
def heapNoneSpec : ChangeSpec := { name := "heapNone", fn := fun _ => fun
  | [d1, d2] => { results := [.lit (.bool true)], args := [d1, d2] }
  | _ => none }
def heapNoneRow : OpenClaim := { program := "ytkgepjfofhjokaa", sum := "1bfe7c6ab8a75b1280cc9d4dc5c45e90b5d31d5cda9e4aadff5fdef33ae54bef", func := "dormouse/dormouselaw02.HeapNone", spec := "heapNone", apart := false }
def HeapNoneSaid : Prop := heapNoneRow.holds Try.pinned (OpenSpec.ofChange heapNoneSpec)

/-- ITS FALSE NEIGHBOUR: 'it returns false'. Refute it at one input. -/
def heapNoneWrong : ChangeSpec := { name := "heapNone", fn := fun _ => fun
  | [d1, d2] => { results := [.lit (.bool false)], args := [d1, d2] }
  | _ => none }
def HeapNoneWrongFalsely : Prop := heapNoneRow.holds Try.pinned (OpenSpec.ofChange heapNoneWrong)

/-- 'dormouselaw13.LocksNests': WHATEVER THE INPUT: true; the input reads as it did. -/
def locksNestsSpec : ChangeSpec := { name := "locksNests", fn := fun _ => fun
  | [d1, d2, d3] => { results := [.lit (.bool true)], args := [d1, d2, d3] }
  | _ => none }
def locksNestsRow : OpenClaim := { program := "ytkgepjfofhjokaa", sum := "1bfe7c6ab8a75b1280cc9d4dc5c45e90b5d31d5cda9e4aadff5fdef33ae54bef", func := "dormouse/dormouselaw13.LocksNests", spec := "locksNests", unfollowed := true, recurses := true, apart := false }
def LocksNestsSaid : Prop := locksNestsRow.holds Try.pinned (OpenSpec.ofChange locksNestsSpec)

/-- ITS FALSE NEIGHBOUR: 'it returns false'. Refute it at one input. -/
def locksNestsWrong : ChangeSpec := { name := "locksNests", fn := fun _ => fun
  | [d1, d2, d3] => { results := [.lit (.bool false)], args := [d1, d2, d3] }
  | _ => none }
def LocksNestsWrongFalsely : Prop := locksNestsRow.holds Try.pinned (OpenSpec.ofChange locksNestsWrong)

/-- 'dormouselaw13.LocksOver': WHATEVER THE INPUT: true; the input reads as it did. -/
def locksOverSpec : ChangeSpec := { name := "locksOver", fn := fun _ => fun
  | [d1, d2] => { results := [.lit (.bool true)], args := [d1, d2] }
  | _ => none }
def locksOverRow : OpenClaim := { program := "ytkgepjfofhjokaa", sum := "1bfe7c6ab8a75b1280cc9d4dc5c45e90b5d31d5cda9e4aadff5fdef33ae54bef", func := "dormouse/dormouselaw13.LocksOver", spec := "locksOver", unfollowed := true, recurses := true, apart := false }
def LocksOverSaid : Prop := locksOverRow.holds Try.pinned (OpenSpec.ofChange locksOverSpec)

/-- ITS FALSE NEIGHBOUR: 'it returns false'. Refute it at one input. -/
def locksOverWrong : ChangeSpec := { name := "locksOver", fn := fun _ => fun
  | [d1, d2] => { results := [.lit (.bool false)], args := [d1, d2] }
  | _ => none }
def LocksOverWrongFalsely : Prop := locksOverRow.holds Try.pinned (OpenSpec.ofChange locksOverWrong)

/-- 'dormouselaw03.TimersPlays': WHATEVER THE INPUT: true; the input reads as it did. -/
def timersPlaysSpec : ChangeSpec := { name := "timersPlays", fn := fun _ => fun
  | [d] => { results := [.lit (.bool true)], args := [d] }
  | _ => none }
def timersPlaysRow : OpenClaim := { program := "ytkgepjfofhjokaa", sum := "1bfe7c6ab8a75b1280cc9d4dc5c45e90b5d31d5cda9e4aadff5fdef33ae54bef", func := "dormouse/dormouselaw03.TimersPlays", spec := "timersPlays", apart := false }
def TimersPlaysSaid : Prop := timersPlaysRow.holds Try.pinned (OpenSpec.ofChange timersPlaysSpec)

/-- ITS FALSE NEIGHBOUR: 'it returns false'. Refute it at one input. -/
def timersPlaysWrong : ChangeSpec := { name := "timersPlays", fn := fun _ => fun
  | [d] => { results := [.lit (.bool false)], args := [d] }
  | _ => none }
def TimersPlaysWrongFalsely : Prop := timersPlaysRow.holds Try.pinned (OpenSpec.ofChange timersPlaysWrong)

/-- 'dormouselaw03.TimersEvery': WHATEVER THE INPUT: true; the input reads as it did. -/
def timersEverySpec : ChangeSpec := { name := "timersEvery", fn := fun _ => fun
  | [d1, d2, d3] => { results := [.lit (.bool true)], args := [d1, d2, d3] }
  | _ => none }
def timersEveryRow : OpenClaim := { program := "ytkgepjfofhjokaa", sum := "1bfe7c6ab8a75b1280cc9d4dc5c45e90b5d31d5cda9e4aadff5fdef33ae54bef", func := "dormouse/dormouselaw03.TimersEvery", spec := "timersEvery", apart := false }
def TimersEverySaid : Prop := timersEveryRow.holds Try.pinned (OpenSpec.ofChange timersEverySpec)

/-- ITS FALSE NEIGHBOUR: 'it returns false'. Refute it at one input. -/
def timersEveryWrong : ChangeSpec := { name := "timersEvery", fn := fun _ => fun
  | [d1, d2, d3] => { results := [.lit (.bool false)], args := [d1, d2, d3] }
  | _ => none }
def TimersEveryWrongFalsely : Prop := timersEveryRow.holds Try.pinned (OpenSpec.ofChange timersEveryWrong)

/-- 'dormouselaw03.TimersOrder': WHATEVER THE INPUT: true; the input reads as it did. -/
def timersOrderSpec : ChangeSpec := { name := "timersOrder", fn := fun _ => fun
  | [d1, d2] => { results := [.lit (.bool true)], args := [d1, d2] }
  | _ => none }
def timersOrderRow : OpenClaim := { program := "ytkgepjfofhjokaa", sum := "1bfe7c6ab8a75b1280cc9d4dc5c45e90b5d31d5cda9e4aadff5fdef33ae54bef", func := "dormouse/dormouselaw03.TimersOrder", spec := "timersOrder", apart := false }
def TimersOrderSaid : Prop := timersOrderRow.holds Try.pinned (OpenSpec.ofChange timersOrderSpec)

/-- ITS FALSE NEIGHBOUR: 'it returns false'. Refute it at one input. -/
def timersOrderWrong : ChangeSpec := { name := "timersOrder", fn := fun _ => fun
  | [d1, d2] => { results := [.lit (.bool false)], args := [d1, d2] }
  | _ => none }
def TimersOrderWrongFalsely : Prop := timersOrderRow.holds Try.pinned (OpenSpec.ofChange timersOrderWrong)

/-- 'dormouselaw03.TimersAgain': WHATEVER THE INPUT: true; the input reads as it did. -/
def timersAgainSpec : ChangeSpec := { name := "timersAgain", fn := fun _ => fun
  | [d1, d2, d3, d4] => { results := [.lit (.bool true)], args := [d1, d2, d3, d4] }
  | _ => none }
def timersAgainRow : OpenClaim := { program := "ytkgepjfofhjokaa", sum := "1bfe7c6ab8a75b1280cc9d4dc5c45e90b5d31d5cda9e4aadff5fdef33ae54bef", func := "dormouse/dormouselaw03.TimersAgain", spec := "timersAgain", apart := false }
def TimersAgainSaid : Prop := timersAgainRow.holds Try.pinned (OpenSpec.ofChange timersAgainSpec)

/-- ITS FALSE NEIGHBOUR: 'it returns false'. Refute it at one input. -/
def timersAgainWrong : ChangeSpec := { name := "timersAgain", fn := fun _ => fun
  | [d1, d2, d3, d4] => { results := [.lit (.bool false)], args := [d1, d2, d3, d4] }
  | _ => none }
def TimersAgainWrongFalsely : Prop := timersAgainRow.holds Try.pinned (OpenSpec.ofChange timersAgainWrong)

/-- 'dormouselaw13.LocksPlays': WHATEVER THE INPUT: true; the input reads as it did. -/
def locksPlaysSpec : ChangeSpec := { name := "locksPlays", fn := fun _ => fun
  | [d1, d2] => { results := [.lit (.bool true)], args := [d1, d2] }
  | _ => none }
def locksPlaysRow : OpenClaim := { program := "ytkgepjfofhjokaa", sum := "1bfe7c6ab8a75b1280cc9d4dc5c45e90b5d31d5cda9e4aadff5fdef33ae54bef", func := "dormouse/dormouselaw13.LocksPlays", spec := "locksPlays", unfollowed := true, recurses := true, apart := false }
def LocksPlaysSaid : Prop := locksPlaysRow.holds Try.pinned (OpenSpec.ofChange locksPlaysSpec)

/-- ITS FALSE NEIGHBOUR: 'it returns false'. Refute it at one input. -/
def locksPlaysWrong : ChangeSpec := { name := "locksPlays", fn := fun _ => fun
  | [d1, d2] => { results := [.lit (.bool false)], args := [d1, d2] }
  | _ => none }
def LocksPlaysWrongFalsely : Prop := locksPlaysRow.holds Try.pinned (OpenSpec.ofChange locksPlaysWrong)

/-- 'dormouselaw13.LocksFrees': WHATEVER THE INPUT: true; the input reads as it did. -/
def locksFreesSpec : ChangeSpec := { name := "locksFrees", fn := fun _ => fun
  | [d1, d2] => { results := [.lit (.bool true)], args := [d1, d2] }
  | _ => none }
def locksFreesRow : OpenClaim := { program := "ytkgepjfofhjokaa", sum := "1bfe7c6ab8a75b1280cc9d4dc5c45e90b5d31d5cda9e4aadff5fdef33ae54bef", func := "dormouse/dormouselaw13.LocksFrees", spec := "locksFrees", unfollowed := true, recurses := true, apart := false }
def LocksFreesSaid : Prop := locksFreesRow.holds Try.pinned (OpenSpec.ofChange locksFreesSpec)

/-- ITS FALSE NEIGHBOUR: 'it returns false'. Refute it at one input. -/
def locksFreesWrong : ChangeSpec := { name := "locksFrees", fn := fun _ => fun
  | [d1, d2] => { results := [.lit (.bool false)], args := [d1, d2] }
  | _ => none }
def LocksFreesWrongFalsely : Prop := locksFreesRow.holds Try.pinned (OpenSpec.ofChange locksFreesWrong)

/-- 'dormouselaw19.LatchPlays': WHATEVER THE INPUT: true; the input reads as it did. -/
def latchPlaysSpec : ChangeSpec := { name := "latchPlays", fn := fun _ => fun
  | [d] => { results := [.lit (.bool true)], args := [d] }
  | _ => none }
def latchPlaysRow : OpenClaim := { program := "ytkgepjfofhjokaa", sum := "1bfe7c6ab8a75b1280cc9d4dc5c45e90b5d31d5cda9e4aadff5fdef33ae54bef", func := "dormouse/dormouselaw19.LatchPlays", spec := "latchPlays", apart := false }
def LatchPlaysSaid : Prop := latchPlaysRow.holds Try.pinned (OpenSpec.ofChange latchPlaysSpec)

/-- ITS FALSE NEIGHBOUR: 'it returns false'. Refute it at one input. -/
def latchPlaysWrong : ChangeSpec := { name := "latchPlays", fn := fun _ => fun
  | [d] => { results := [.lit (.bool false)], args := [d] }
  | _ => none }
def LatchPlaysWrongFalsely : Prop := latchPlaysRow.holds Try.pinned (OpenSpec.ofChange latchPlaysWrong)

/-- 'dormouselaw19.LatchOrder': WHATEVER THE INPUT: true; the input reads as it did. -/
def latchOrderSpec : ChangeSpec := { name := "latchOrder", fn := fun _ => fun
  | [d1, d2] => { results := [.lit (.bool true)], args := [d1, d2] }
  | _ => none }
def latchOrderRow : OpenClaim := { program := "ytkgepjfofhjokaa", sum := "1bfe7c6ab8a75b1280cc9d4dc5c45e90b5d31d5cda9e4aadff5fdef33ae54bef", func := "dormouse/dormouselaw19.LatchOrder", spec := "latchOrder", apart := false }
def LatchOrderSaid : Prop := latchOrderRow.holds Try.pinned (OpenSpec.ofChange latchOrderSpec)

/-- ITS FALSE NEIGHBOUR: 'it returns false'. Refute it at one input. -/
def latchOrderWrong : ChangeSpec := { name := "latchOrder", fn := fun _ => fun
  | [d1, d2] => { results := [.lit (.bool false)], args := [d1, d2] }
  | _ => none }
def LatchOrderWrongFalsely : Prop := latchOrderRow.holds Try.pinned (OpenSpec.ofChange latchOrderWrong)

/-- 'dormouselaw19.LatchOnce': WHATEVER THE INPUT: true; the input reads as it did. -/
def latchOnceSpec : ChangeSpec := { name := "latchOnce", fn := fun _ => fun
  | [d1, d2, d3, d4] => { results := [.lit (.bool true)], args := [d1, d2, d3, d4] }
  | _ => none }
def latchOnceRow : OpenClaim := { program := "ytkgepjfofhjokaa", sum := "1bfe7c6ab8a75b1280cc9d4dc5c45e90b5d31d5cda9e4aadff5fdef33ae54bef", func := "dormouse/dormouselaw19.LatchOnce", spec := "latchOnce", apart := false }
def LatchOnceSaid : Prop := latchOnceRow.holds Try.pinned (OpenSpec.ofChange latchOnceSpec)

/-- ITS FALSE NEIGHBOUR: 'it returns false'. Refute it at one input. -/
def latchOnceWrong : ChangeSpec := { name := "latchOnce", fn := fun _ => fun
  | [d1, d2, d3, d4] => { results := [.lit (.bool false)], args := [d1, d2, d3, d4] }
  | _ => none }
def LatchOnceWrongFalsely : Prop := latchOnceRow.holds Try.pinned (OpenSpec.ofChange latchOnceWrong)

/-- 'dormouselaw19.LatchNone': WHATEVER THE INPUT: true; the input reads as it did. -/
def latchNoneSpec : ChangeSpec := { name := "latchNone", fn := fun _ => fun
  | [d1, d2, d3] => { results := [.lit (.bool true)], args := [d1, d2, d3] }
  | _ => none }
def latchNoneRow : OpenClaim := { program := "ytkgepjfofhjokaa", sum := "1bfe7c6ab8a75b1280cc9d4dc5c45e90b5d31d5cda9e4aadff5fdef33ae54bef", func := "dormouse/dormouselaw19.LatchNone", spec := "latchNone", apart := false }
def LatchNoneSaid : Prop := latchNoneRow.holds Try.pinned (OpenSpec.ofChange latchNoneSpec)

/-- ITS FALSE NEIGHBOUR: 'it returns false'. Refute it at one input. -/
def latchNoneWrong : ChangeSpec := { name := "latchNone", fn := fun _ => fun
  | [d1, d2, d3] => { results := [.lit (.bool false)], args := [d1, d2, d3] }
  | _ => none }
def LatchNoneWrongFalsely : Prop := latchNoneRow.holds Try.pinned (OpenSpec.ofChange latchNoneWrong)

/- THE SECOND FORM. 'bulk': how many values and letters a reading holds, each counted each time it is reached (what is shared counts as often as it is met; a slice's spare places count too). A statement '..UptoSaid' is the law's where the arguments, and the package variables that the reading takes, are together of bulk at most 1048576: NARROWER than '..Said'. Prove '..Said' where nothing that the law and all that it calls make is longer than what came in: it says more and counts as full. Else prove '..UptoSaid'. A law counts once. -/
mutual
def uptoBulk {H : Type} : DataW H → Nat
  | .lit (.string bytes) => bytes.length + 1
  | .lit _ => 1
  | .nil => 1
  | .ptr d => uptoBulk d + 1
  | .slice elems spare => uptoBulkAll elems + uptoBulkAll spare + 1
  | .agg parts => uptoBulkAll parts + 1
  | .iface _ d => uptoBulk d + 1
  | .map entries => uptoBulkEntries entries + 1
  | .held _ => 1
def uptoBulkAll {H : Type} : List (DataW H) → Nat
  | [] => 0
  | d :: r => uptoBulk d + uptoBulkAll r
def uptoBulkEntries {H : Type} : List (Lit × DataW H) → Nat
  | [] => 0
  | x :: r => uptoBulkEntry x + uptoBulkEntries r
def uptoBulkEntry {H : Type} : Lit × DataW H → Nat
  | (.string bytes, d) => bytes.length + uptoBulk d + 1
  | (_, d) => uptoBulk d + 1
 end
def uptoSmall : (H : Type) → List (DataW H) → Bool := fun _ ds => decide (uptoBulkAll ds ≤ 1048576)
def OpenSpec.upto (s : _root_.Go.ChangeSpec) : _root_.Go.OpenSpec := { _root_.Go.OpenSpec.ofChange s with cond := some uptoSmall }

/-- 'dormouselaw02.HeapSorts', WHERE WHAT IT READS IS OF BULK AT MOST 1048576: true; the input reads as it did. -/
def heapSortsUptoRow : OpenClaim := { program := "ytkgepjfofhjokaa", sum := "1bfe7c6ab8a75b1280cc9d4dc5c45e90b5d31d5cda9e4aadff5fdef33ae54bef", func := "dormouse/dormouselaw02.HeapSorts", spec := "heapSorts", apart := false, narrowed := true }
def HeapSortsUptoSaid : Prop := heapSortsUptoRow.holds Try.pinned (OpenSpec.upto heapSortsSpec)

/-- 'dormouselaw02.HeapKeys', WHERE WHAT IT READS IS OF BULK AT MOST 1048576: true; the input reads as it did. -/
def heapKeysUptoRow : OpenClaim := { program := "ytkgepjfofhjokaa", sum := "1bfe7c6ab8a75b1280cc9d4dc5c45e90b5d31d5cda9e4aadff5fdef33ae54bef", func := "dormouse/dormouselaw02.HeapKeys", spec := "heapKeys", apart := false, narrowed := true }
def HeapKeysUptoSaid : Prop := heapKeysUptoRow.holds Try.pinned (OpenSpec.upto heapKeysSpec)

/-- 'dormouselaw02.HeapPlays', WHERE WHAT IT READS IS OF BULK AT MOST 1048576: true; the input reads as it did. -/
def heapPlaysUptoRow : OpenClaim := { program := "ytkgepjfofhjokaa", sum := "1bfe7c6ab8a75b1280cc9d4dc5c45e90b5d31d5cda9e4aadff5fdef33ae54bef", func := "dormouse/dormouselaw02.HeapPlays", spec := "heapPlays", apart := false, narrowed := true }
def HeapPlaysUptoSaid : Prop := heapPlaysUptoRow.holds Try.pinned (OpenSpec.upto heapPlaysSpec)

/-- 'dormouselaw02.HeapRemoves', WHERE WHAT IT READS IS OF BULK AT MOST 1048576: true; the input reads as it did. -/
def heapRemovesUptoRow : OpenClaim := { program := "ytkgepjfofhjokaa", sum := "1bfe7c6ab8a75b1280cc9d4dc5c45e90b5d31d5cda9e4aadff5fdef33ae54bef", func := "dormouse/dormouselaw02.HeapRemoves", spec := "heapRemoves", apart := false, narrowed := true }
def HeapRemovesUptoSaid : Prop := heapRemovesUptoRow.holds Try.pinned (OpenSpec.upto heapRemovesSpec)

/-- 'dormouselaw02.HeapNone', WHERE WHAT IT READS IS OF BULK AT MOST 1048576: true; the input reads as it did. -/
def heapNoneUptoRow : OpenClaim := { program := "ytkgepjfofhjokaa", sum := "1bfe7c6ab8a75b1280cc9d4dc5c45e90b5d31d5cda9e4aadff5fdef33ae54bef", func := "dormouse/dormouselaw02.HeapNone", spec := "heapNone", apart := false, narrowed := true }
def HeapNoneUptoSaid : Prop := heapNoneUptoRow.holds Try.pinned (OpenSpec.upto heapNoneSpec)

/-- 'dormouselaw13.LocksNests', WHERE WHAT IT READS IS OF BULK AT MOST 1048576: true; the input reads as it did. -/
def locksNestsUptoRow : OpenClaim := { program := "ytkgepjfofhjokaa", sum := "1bfe7c6ab8a75b1280cc9d4dc5c45e90b5d31d5cda9e4aadff5fdef33ae54bef", func := "dormouse/dormouselaw13.LocksNests", spec := "locksNests", unfollowed := true, recurses := true, apart := false, narrowed := true }
def LocksNestsUptoSaid : Prop := locksNestsUptoRow.holds Try.pinned (OpenSpec.upto locksNestsSpec)

/-- 'dormouselaw13.LocksOver', WHERE WHAT IT READS IS OF BULK AT MOST 1048576: true; the input reads as it did. -/
def locksOverUptoRow : OpenClaim := { program := "ytkgepjfofhjokaa", sum := "1bfe7c6ab8a75b1280cc9d4dc5c45e90b5d31d5cda9e4aadff5fdef33ae54bef", func := "dormouse/dormouselaw13.LocksOver", spec := "locksOver", unfollowed := true, recurses := true, apart := false, narrowed := true }
def LocksOverUptoSaid : Prop := locksOverUptoRow.holds Try.pinned (OpenSpec.upto locksOverSpec)

/-- 'dormouselaw03.TimersPlays', WHERE WHAT IT READS IS OF BULK AT MOST 1048576: true; the input reads as it did. -/
def timersPlaysUptoRow : OpenClaim := { program := "ytkgepjfofhjokaa", sum := "1bfe7c6ab8a75b1280cc9d4dc5c45e90b5d31d5cda9e4aadff5fdef33ae54bef", func := "dormouse/dormouselaw03.TimersPlays", spec := "timersPlays", apart := false, narrowed := true }
def TimersPlaysUptoSaid : Prop := timersPlaysUptoRow.holds Try.pinned (OpenSpec.upto timersPlaysSpec)

/-- 'dormouselaw03.TimersEvery', WHERE WHAT IT READS IS OF BULK AT MOST 1048576: true; the input reads as it did. -/
def timersEveryUptoRow : OpenClaim := { program := "ytkgepjfofhjokaa", sum := "1bfe7c6ab8a75b1280cc9d4dc5c45e90b5d31d5cda9e4aadff5fdef33ae54bef", func := "dormouse/dormouselaw03.TimersEvery", spec := "timersEvery", apart := false, narrowed := true }
def TimersEveryUptoSaid : Prop := timersEveryUptoRow.holds Try.pinned (OpenSpec.upto timersEverySpec)

/-- 'dormouselaw03.TimersOrder', WHERE WHAT IT READS IS OF BULK AT MOST 1048576: true; the input reads as it did. -/
def timersOrderUptoRow : OpenClaim := { program := "ytkgepjfofhjokaa", sum := "1bfe7c6ab8a75b1280cc9d4dc5c45e90b5d31d5cda9e4aadff5fdef33ae54bef", func := "dormouse/dormouselaw03.TimersOrder", spec := "timersOrder", apart := false, narrowed := true }
def TimersOrderUptoSaid : Prop := timersOrderUptoRow.holds Try.pinned (OpenSpec.upto timersOrderSpec)

/-- 'dormouselaw03.TimersAgain', WHERE WHAT IT READS IS OF BULK AT MOST 1048576: true; the input reads as it did. -/
def timersAgainUptoRow : OpenClaim := { program := "ytkgepjfofhjokaa", sum := "1bfe7c6ab8a75b1280cc9d4dc5c45e90b5d31d5cda9e4aadff5fdef33ae54bef", func := "dormouse/dormouselaw03.TimersAgain", spec := "timersAgain", apart := false, narrowed := true }
def TimersAgainUptoSaid : Prop := timersAgainUptoRow.holds Try.pinned (OpenSpec.upto timersAgainSpec)

/-- 'dormouselaw13.LocksPlays', WHERE WHAT IT READS IS OF BULK AT MOST 1048576: true; the input reads as it did. -/
def locksPlaysUptoRow : OpenClaim := { program := "ytkgepjfofhjokaa", sum := "1bfe7c6ab8a75b1280cc9d4dc5c45e90b5d31d5cda9e4aadff5fdef33ae54bef", func := "dormouse/dormouselaw13.LocksPlays", spec := "locksPlays", unfollowed := true, recurses := true, apart := false, narrowed := true }
def LocksPlaysUptoSaid : Prop := locksPlaysUptoRow.holds Try.pinned (OpenSpec.upto locksPlaysSpec)

/-- 'dormouselaw13.LocksFrees', WHERE WHAT IT READS IS OF BULK AT MOST 1048576: true; the input reads as it did. -/
def locksFreesUptoRow : OpenClaim := { program := "ytkgepjfofhjokaa", sum := "1bfe7c6ab8a75b1280cc9d4dc5c45e90b5d31d5cda9e4aadff5fdef33ae54bef", func := "dormouse/dormouselaw13.LocksFrees", spec := "locksFrees", unfollowed := true, recurses := true, apart := false, narrowed := true }
def LocksFreesUptoSaid : Prop := locksFreesUptoRow.holds Try.pinned (OpenSpec.upto locksFreesSpec)

/-- 'dormouselaw19.LatchPlays', WHERE WHAT IT READS IS OF BULK AT MOST 1048576: true; the input reads as it did. -/
def latchPlaysUptoRow : OpenClaim := { program := "ytkgepjfofhjokaa", sum := "1bfe7c6ab8a75b1280cc9d4dc5c45e90b5d31d5cda9e4aadff5fdef33ae54bef", func := "dormouse/dormouselaw19.LatchPlays", spec := "latchPlays", apart := false, narrowed := true }
def LatchPlaysUptoSaid : Prop := latchPlaysUptoRow.holds Try.pinned (OpenSpec.upto latchPlaysSpec)

/-- 'dormouselaw19.LatchOrder', WHERE WHAT IT READS IS OF BULK AT MOST 1048576: true; the input reads as it did. -/
def latchOrderUptoRow : OpenClaim := { program := "ytkgepjfofhjokaa", sum := "1bfe7c6ab8a75b1280cc9d4dc5c45e90b5d31d5cda9e4aadff5fdef33ae54bef", func := "dormouse/dormouselaw19.LatchOrder", spec := "latchOrder", apart := false, narrowed := true }
def LatchOrderUptoSaid : Prop := latchOrderUptoRow.holds Try.pinned (OpenSpec.upto latchOrderSpec)

/-- 'dormouselaw19.LatchOnce', WHERE WHAT IT READS IS OF BULK AT MOST 1048576: true; the input reads as it did. -/
def latchOnceUptoRow : OpenClaim := { program := "ytkgepjfofhjokaa", sum := "1bfe7c6ab8a75b1280cc9d4dc5c45e90b5d31d5cda9e4aadff5fdef33ae54bef", func := "dormouse/dormouselaw19.LatchOnce", spec := "latchOnce", apart := false, narrowed := true }
def LatchOnceUptoSaid : Prop := latchOnceUptoRow.holds Try.pinned (OpenSpec.upto latchOnceSpec)

/-- 'dormouselaw19.LatchNone', WHERE WHAT IT READS IS OF BULK AT MOST 1048576: true; the input reads as it did. -/
def latchNoneUptoRow : OpenClaim := { program := "ytkgepjfofhjokaa", sum := "1bfe7c6ab8a75b1280cc9d4dc5c45e90b5d31d5cda9e4aadff5fdef33ae54bef", func := "dormouse/dormouselaw19.LatchNone", spec := "latchNone", apart := false, narrowed := true }
def LatchNoneUptoSaid : Prop := latchNoneUptoRow.holds Try.pinned (OpenSpec.upto latchNoneSpec)

end Rows
end Go.Proofs.Ytkgepjfofhjokaa
