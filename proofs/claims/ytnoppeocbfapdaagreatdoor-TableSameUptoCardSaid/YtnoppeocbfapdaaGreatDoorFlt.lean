import Derived.Test.YtnoppeocbfapdaaGreatDoorProg
import Derived.Test.YtnoppeocbfapdaaGreatDoorWAll
import Derived.Laws.FloatArith
/-! Floats in the printed texts: told by their bits. -/
namespace Go.Proofs.YtnoppeocbfapdaaGreatDoorW.PrintWords.Kd
open Go.RowKit
def flt : Kd Nat := scalar (Value.float .f64) (fun _ => rfl)
def fl4 : Kd Nat := scalar (Value.float .f32) (fun _ => rfl)
theorem heap_flt : Heap Kd.flt := ⟨fun _ h => h⟩
theorem heap_fl4 : Heap Kd.fl4 := ⟨fun _ h => h⟩
section
variable {w : World} {A : Option Addr} {n : Nat}
theorem at_flt {xs : List Nat} (h : Kd.flt.C w A n xs) (i : Int) (h0 : 0 ≤ i) (h1 : i < n) : ∃ ad, A = some ad ∧ w.cell? (ad.add i.toNat) = some (.float .f64 (rdOf 0 xs i)) :=
  ReadsOf.at_ (reads_of_C (enc := Value.float .f64) (d := (0 : Nat)) (h1 := fun _ => rfl) h) i h0 h1
theorem at_fl4 {xs : List Nat} (h : Kd.fl4.C w A n xs) (i : Int) (h0 : 0 ≤ i) (h1 : i < n) : ∃ ad, A = some ad ∧ w.cell? (ad.add i.toNat) = some (.float .f32 (rdOf 0 xs i)) :=
  ReadsOf.at_ (reads_of_C (enc := Value.float .f32) (d := (0 : Nat)) (h1 := fun _ => rfl) h) i h0 h1
theorem foot_flt {ad : Addr} {l : List Nat} (h : Kd.flt.C w (some ad) n l) (i : Int) (h0 : 0 ≤ i) (h1 : i < n) : w.cell? (ad.add i.toNat) = some (.float .f64 (rdOf 0 l i)) := by
  obtain ⟨ad', he, hc⟩ := at_flt h i h0 h1
  injection he with he
  subst he
  exact hc
end
end Go.Proofs.YtnoppeocbfapdaaGreatDoorW.PrintWords.Kd
namespace Go.Proofs.YtnoppeocbfapdaaGreatDoor.Rm
@[go_sem] theorem run_store_float {P : Program} {w : World} {a : Addr} {m : Mode} (k : FloatKind) (b : Nat) : (store a (.float k b) m).run P w = stored P w a (.float k b) m := run_store P w a _ m rfl
@[go_sem] theorem unary_neg_float (k : FloatKind) (b : Nat) : Op.unary .neg (.float k b) = pure (.float k (Op.negFloat k b)) := rfl
end Go.Proofs.YtnoppeocbfapdaaGreatDoor.Rm
