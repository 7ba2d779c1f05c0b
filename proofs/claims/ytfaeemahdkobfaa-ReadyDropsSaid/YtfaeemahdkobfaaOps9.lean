/- Engine, part nine: exclusive or of ints. -/
import Derived.Test.YtfaeemahdkobfaaOps5
namespace Go.Proofs.Ytfaeemahdkobfaa
set_option linter.unusedVariables false
set_option linter.unusedSimpArgs false
def xorV (i j : Int) : Int := IntKind.i64.wrap ((BitVec.ofInt IntKind.i64.bits i ^^^ BitVec.ofInt IntKind.i64.bits j).toNat)
theorem Rn.xor {P : Program} {F : Hp} {hs : List Hp} {ty : TypeId} {env : Env} {xt yt : TypeId} {x y : Operand} {i j : Int} (hx : ev env x = some (.int .i64 i)) (hy : ev env y = some (.int .i64 j)) : Rn P F hs (.binOp .xor xt x y yt) ty env (.int .i64 (xorV i j)) := fun o h1 h2 n B a w he ho => by
  unfold execOp; simp [h1, he.ev hx, he.ev hy, eqGuard, binOp, Op.intBits, xorV]
end Go.Proofs.Ytfaeemahdkobfaa
