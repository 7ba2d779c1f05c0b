/- slices of uint8, as they are handed in. -/
import Derived.Test.YtkgepjfofhjokaaOpens
namespace Go.Proofs.Ytkgepjfofhjokaa
set_option linter.unusedVariables false
def encU (n : Int) : List Value := [.int .u8 n]
def okU (_ : World) (n : Int) : Prop := 0 ≤ n ∧ n ≤ 255
theorem encU_len (n : Int) : (encU n).length = 1 := rfl
theorem Try.cells_u8 : Try.prog.cellsOf 5 = 1 := by kernel_rfl
theorem Try.bytes_u8 : Try.prog.bytesOf 5 = 1 := by kernel_rfl
theorem opens_u8 {P : Program} {t : TypeId} (ht : P.underlying t = some (.int .u8)) : Opens P t encU okU := by
  intro H e w fuel cs x h _
  obtain ⟨n, rfl, _, hw⟩ := DataW.trod_int ht h
  exact ⟨n, rfl, u8_of_wf hw⟩
end Go.Proofs.Ytkgepjfofhjokaa
