import Derived.Test.YtnoppeocbfapdaaGreatDoorProg
import Derived.Test.YtnoppeocbfapdaaGreatDoorWAll
import Derived.Laws.FloatArith
/-! Floats in the printed texts: told by their bits. -/
namespace Go.Proofs.YtnoppeocbfapdaaGreatDoorW.PrintWords.Kd
open Go.RowKit
def flt : Kd Nat := scalar (Value.float .f64) (fun _ => rfl)
def fl4 : Kd Nat := scalar (Value.float .f32) (fun _ => rfl)
section
variable {w : World} {A : Option Addr} {n : Nat}
end
end Go.Proofs.YtnoppeocbfapdaaGreatDoorW.PrintWords.Kd
namespace Go.Proofs.YtnoppeocbfapdaaGreatDoor.Rm
@[go_sem] theorem run_store_float {P : Program} {w : World} {a : Addr} {m : Mode} (k : FloatKind) (b : Nat) : (store a (.float k b) m).run P w = stored P w a (.float k b) m := run_store P w a _ m rfl
@[go_sem] theorem unary_neg_float (k : FloatKind) (b : Nat) : Op.unary .neg (.float k b) = pure (.float k (Op.negFloat k b)) := rfl
end Go.Proofs.YtnoppeocbfapdaaGreatDoor.Rm
