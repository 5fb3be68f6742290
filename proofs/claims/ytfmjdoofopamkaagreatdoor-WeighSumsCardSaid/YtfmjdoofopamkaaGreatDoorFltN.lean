import Derived.Test.YtfmjdoofopamkaaGreatDoorPlR
namespace Go.Proofs.YtfmjdoofopamkaaGreatDoor.Plain
open Go.RowKit Go.Proofs.YtfmjdoofopamkaaGreatDoorW.PrintWords Go.Proofs.YtfmjdoofopamkaaGreatDoorW.PrintLast Go.Proofs.YtfmjdoofopamkaaGreatDoorW.PrintMore
set_option linter.unusedVariables false
set_option linter.unusedSimpArgs false
def wordU (p q : Nat) : Nat := ulp p q * P52 + rne p (q * 2 ^ ulp p q)
theorem fv_le {r s : Nat} (h : r ≤ s) : fv r ≤ fv s := by
 rcases Nat.lt_or_eq_of_le h with h1 | h1
 ·exact Nat.le_of_lt (fv_lt h1)
 ·rw [h1]; exact Nat.le_refl _
end Go.Proofs.YtfmjdoofopamkaaGreatDoor.Plain
