/-
  Numbers without sign: shifts to the right and more. Nothing of a program stands here.
-/
import Derived.Test.YtdfmfhcjnjfjbaaQLibY
namespace Go.QM
open Go
section
variable {P : Program} {ρ : Env} {A : HP} {d : Option Nat} {ty : TypeId} {ps : String} {af : Array Edge} {g : Option (Nat × Bool)} {t t' : TypeId} {x y : Operand} {k : IntKind} {a b c : Int}
theorem shrR {yk : IntKind} {n : Int} (hx : ev ρ x = .int k a) (hy : ev ρ y = .int yk n) (h0 : 0 ≤ n) :
    OQ P ρ ⟨d, .binOp .shr t x y t', ty, ps, af, g⟩ A (.int k (a.fdiv (2 ^ min n.toNat k.bits))) := fun w _ => by
  have : ¬ n < 0 := by omega
  simp [execOp, hx, hy, eqGuard, binOp, Op.shift, this]
end
end Go.QM
