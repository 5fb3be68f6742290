import Derived.Test.YtfmjdoofopamkaaGreatDoorProg
import Derived.Test.YtfmjdoofopamkaaGreatDoorWAll
import Derived.Laws.FloatArith
/-! Floats in the printed texts: told by their bits. -/
namespace Go.Proofs.YtfmjdoofopamkaaGreatDoorW.PrintWords.Kd
open Go.RowKit
def flt : Kd Nat := scalar (Value.float .f64) (fun _ => rfl)
def fl4 : Kd Nat := scalar (Value.float .f32) (fun _ => rfl)
section
variable {w : World} {A : Option Addr} {n : Nat}
theorem at_flt {xs : List Nat} (h : Kd.flt.C w A n xs) (i : Int) (h0 : 0 ≤ i) (h1 : i < n) : ∃ ad, A = some ad ∧ w.cell? (ad.add i.toNat) = some (.float .f64 (rdOf 0 xs i)) :=
  ReadsOf.at_ (reads_of_C (enc := Value.float .f64) (d := (0 : Nat)) (h1 := fun _ => rfl) h) i h0 h1
end
end Go.Proofs.YtfmjdoofopamkaaGreatDoorW.PrintWords.Kd
namespace Go.Proofs.YtfmjdoofopamkaaGreatDoor.Rm
@[go_sem] theorem run_store_float {P : Program} {w : World} {a : Addr} {m : Mode} (k : FloatKind) (b : Nat) : (store a (.float k b) m).run P w = stored P w a (.float k b) m := run_store P w a _ m rfl
@[go_sem] theorem unary_neg_float (k : FloatKind) (b : Nat) : Op.unary .neg (.float k b) = pure (.float k (Op.negFloat k b)) := rfl
end Go.Proofs.YtfmjdoofopamkaaGreatDoor.Rm
