/- Engine, part seven: a whole number of another kind as an int. -/
import Derived.Test.YtfaeemahdkobfaaOps6
namespace Go.Proofs.Ytfaeemahdkobfaa
set_option linter.unusedVariables false
set_option linter.unusedSimpArgs false
/-- a whole number as an int -/
theorem Rn.conv {P : Program} {F : Hp} {hs : List Hp} {ty : TypeId} {env : Env} {src dst : TypeId} {x : Operand} {k : IntKind} {i : Int} [hu : UT P src (.int k)] [hd : UT P dst (.int .i64)] (hx : ev env x = some (.int k i)) (h : -9223372036854775808 ≤ i ∧ i ≤ 9223372036854775807) : Rn P F hs (.convert src dst x) ty env (.int .i64 i) := fun o h1 h2 n B a w he ho => by
  unfold execOp; simp [h1, he.ev hx, convert, run_underlying hu.eq, run_underlying hd.eq, Conv.intToInt, wrap_i64 h]
end Go.Proofs.Ytfaeemahdkobfaa
