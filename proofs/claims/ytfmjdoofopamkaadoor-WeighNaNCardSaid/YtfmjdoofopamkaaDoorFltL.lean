import Derived.Test.YtfmjdoofopamkaaDoorBaseP
import Ieee.Arith
/-! Floats by their bits: what they stand for. -/
namespace Go.Proofs.YtfmjdoofopamkaaDoor.Plain
open Go.RowKit Go.Proofs.YtfmjdoofopamkaaDoorW.PrintWords Go.Proofs.YtfmjdoofopamkaaDoorW.PrintLast Go.Proofs.YtfmjdoofopamkaaDoorW.PrintMore
set_option linter.unusedVariables false
set_option linter.unusedSimpArgs false
theorem u64_wf {x : Int} (h : (Lit.int .u64 x).wf = true) : 0 ≤ x ∧ x ≤ 18446744073709551615 := by
  simpa only [Lit.wf, Bool.and_eq_true, decide_eq_true_eq, show IntKind.u64.min = 0 from by decide, show IntKind.u64.max = 18446744073709551615 from by decide] using h
theorem u64_or (a b : Nat) (ha : a < 2 ^ 64) (hb : b < 2 ^ 64) : Go.bits .or .u64 (a : Int) (b : Int) = ((a ||| b : Nat) : Int) :=
  (bits_nat .u64 64 (by decide) (fun n h0 h1 => wu64 h0 (by omega)) a b ha hb).2
/-- what a float64's bits stand for -/
theorem read64 (x : Nat) : FloatKind.f64.format.read x =
    if x % 9223372036854775808 < 4503599627370496 then .number (x / 9223372036854775808 % 2 == 1) (x % 9223372036854775808) (-1074)
    else if x % 9223372036854775808 < 9218868437227405312 then .number (x / 9223372036854775808 % 2 == 1) (4503599627370496 + x % 9223372036854775808 % 4503599627370496) (-1074 + ((x % 9223372036854775808 / 4503599627370496 - 1 : Nat) : Int))
    else if x % 9223372036854775808 = 9218868437227405312 then .infinity (x / 9223372036854775808 % 2 == 1)
    else .nan (x / 9223372036854775808 % 2 == 1) (x % 9223372036854775808 - 9218868437227405312) := rfl
theorem nan_order (x y : Nat) (h : 9218868437227405312 < x % 9223372036854775808) : FloatKind.f64.format.order x y = none := by
  unfold Ieee.Format.order
  rw [read64 x, if_neg (by omega), if_neg (by omega), if_neg (by omega)]
  cases FloatKind.f64.format.read y <;> rfl
theorem compare_self (a : Int) : compare a a = .eq := by simp [compare, compareOfLessAndEq]
theorem fin_order_self (x : Nat) (h : x % 9223372036854775808 ≤ 9218868437227405312) : FloatKind.f64.format.order x x = some .eq := by
  unfold Ieee.Format.order
  rw [read64 x]
  by_cases h1 : x % 9223372036854775808 < 4503599627370496
  · rw [if_pos h1]; simp only [Ieee.Datum.order, compare_self]
  · rw [if_neg h1]
    by_cases h2 : x % 9223372036854775808 < 9218868437227405312
    · rw [if_pos h2]; simp only [Ieee.Datum.order, compare_self]
    · rw [if_neg h2, if_pos (by omega)]; simp [Ieee.Datum.order, compare, compareOfLessAndEq]
/-- a != a -/
theorem isnan_true {x : Nat} (h : 9218868437227405312 < x % 9223372036854775808) : (FloatKind.f64.format.order x x != some .eq) = true := by rw [nan_order x x h]; rfl
theorem isnan_false {x : Nat} (h : x % 9223372036854775808 ≤ 9218868437227405312) : (FloatKind.f64.format.order x x != some .eq) = false := by rw [fin_order_self x h]; rfl
end Go.Proofs.YtfmjdoofopamkaaDoor.Plain
