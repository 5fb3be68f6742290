-- written by wip/pp.py of this session (the kit's print with patches); checked by Lean alone
import Derived.Test.YtfmjdoofopamkaaGreatDoorWx0
import Derived.Test.YtfmjdoofopamkaaGreatDoorWx6
namespace Go.Proofs.YtfmjdoofopamkaaGreatDoor.W
open Go.RowKit Go.Proofs.YtfmjdoofopamkaaGreatDoorW.PrintWords Go.Proofs.YtfmjdoofopamkaaGreatDoorW.PrintLast Go.Proofs.YtfmjdoofopamkaaGreatDoorW.PrintMore
attribute [local go_sem] max2_int min2_int max_two min_two max_three min_three max_four min_four   -- for this text's walks alone
set_option linter.unusedVariables false
set_option linter.unusedSimpArgs false

/-! ### endonymref2_Read: function 32 -/
mutual
def endonymref2_Read.j0 : Nat → ByteArray → Bool → Int → Bool → Option (Bool × ByteArray × Int × Int × Bool)
 | 0, _, _, _, _ => none
 | k + 1, x0, x7, x8, x23 => if x23 = true then (endonymref2_Read.j1 k x0 true (wrap64 (x8 + 1))) else (endonymref2_Read.j1 k x0 x7 x8)
def endonymref2_Read.j1 : Nat → ByteArray → Bool → Int → Option (Bool × ByteArray × Int × Int × Bool)
 | 0, _, _, _ => none
 | k + 1, x0, x7, x8 => endonymref2_Read.l0 k x0 x7 x8 (⟨#[]⟩ : ByteArray) 0 x8
def endonymref2_Read.j3 : Nat → ByteArray → Bool → Int → ByteArray → Int → Int → Option (Bool × ByteArray × Int × Int × Bool)
 | 0, _, _, _, _, _, _ => none
 | k + 1, x0, x7, x8, x9, x10, x11 => if x8 = x11 then (some (false, (⟨#[]⟩ : ByteArray), 0, 0, false)) else (if x8 < (x0.size : Int) then (if 0 ≤ x8 then (endonymref2_Read.j4 k x0 x7 x8 x9 x10 ((bt x0 x8) == 46)) else (none)) else (endonymref2_Read.j4 k x0 x7 x8 x9 x10 false))
def endonymref2_Read.j4 : Nat → ByteArray → Bool → Int → ByteArray → Int → Bool → Option (Bool × ByteArray × Int × Int × Bool)
 | 0, _, _, _, _, _, _ => none
 | k + 1, x0, x7, x8, x9, x10, x58 => if x58 = true then (endonymref2_Read.l1 k x0 x7 (wrap64 (x8 + 1)) x9 x10 (wrap64 (x8 + 1))) else (endonymref2_Read.j6 k x0 x7 x8 x9 x10)
def endonymref2_Read.j6 : Nat → ByteArray → Bool → Int → ByteArray → Int → Option (Bool × ByteArray × Int × Int × Bool)
 | 0, _, _, _, _, _ => none
 | k + 1, x0, x7, x8, x9, x10 => if x8 < (x0.size : Int) then (if 0 ≤ x8 then (endonymref2_Read.j7 k x0 x7 x8 x9 x10 0 ((bt x0 x8) == 101)) else (none)) else (endonymref2_Read.j7 k x0 x7 x8 x9 x10 0 false)
def endonymref2_Read.j7 : Nat → ByteArray → Bool → Int → ByteArray → Int → Int → Bool → Option (Bool × ByteArray × Int × Int × Bool)
 | 0, _, _, _, _, _, _, _ => none
 | k + 1, x0, x7, x8, x9, x10, x12, x95 => if x95 = true then (if (wrap64 (x8 + 1)) < (x0.size : Int) then (if 0 ≤ (wrap64 (x8 + 1)) then (endonymref2_Read.j8 k x0 x7 (wrap64 (x8 + 1)) x9 x10 x12 ((bt x0 (wrap64 (x8 + 1))) == 45)) else (none)) else (endonymref2_Read.j8 k x0 x7 (wrap64 (x8 + 1)) x9 x10 x12 false)) else (if x8 = (x0.size : Int) then (if (x9.size : Int) ≤ 17 then (if x12 ≥ (-400) then (some (x7, x9, x10, x12, decide (x12 ≤ 400))) else (some (x7, x9, x10, x12, false))) else (some (x7, x9, x10, x12, false))) else (some (x7, x9, x10, x12, false)))
def endonymref2_Read.j8 : Nat → ByteArray → Bool → Int → ByteArray → Int → Int → Bool → Option (Bool × ByteArray × Int × Int × Bool)
 | 0, _, _, _, _, _, _, _ => none
 | k + 1, x0, x7, x8, x9, x10, x12, x13 => if x13 = true then (endonymref2_Read.j9 k x0 x7 (wrap64 (x8 + 1)) x9 x10 x12 x13) else (endonymref2_Read.j9 k x0 x7 x8 x9 x10 x12 x13)
def endonymref2_Read.j9 : Nat → ByteArray → Bool → Int → ByteArray → Int → Int → Bool → Option (Bool × ByteArray × Int × Int × Bool)
 | 0, _, _, _, _, _, _, _ => none
 | k + 1, x0, x7, x8, x9, x10, x12, x13 => endonymref2_Read.l2 k x0 x7 x8 x9 x10 x8 x12 x13
def endonymref2_Read.j11 : Nat → ByteArray → Bool → Int → ByteArray → Int → Int → Int → Bool → Option (Bool × ByteArray × Int × Int × Bool)
 | 0, _, _, _, _, _, _, _, _ => none
 | k + 1, x0, x7, x8, x9, x10, x11, x12, x13 => if x8 = x11 then (endonymref2_Read.j12 k x0 x7 x8 x9 x10 x12 x13 true) else (endonymref2_Read.j12 k x0 x7 x8 x9 x10 x12 x13 (decide ((wrap64 (x8 - x11)) > 3)))
def endonymref2_Read.j12 : Nat → ByteArray → Bool → Int → ByteArray → Int → Int → Bool → Bool → Option (Bool × ByteArray × Int × Int × Bool)
 | 0, _, _, _, _, _, _, _, _ => none
 | k + 1, x0, x7, x8, x9, x10, x12, x13, x146 => if x146 = true then (some (false, (⟨#[]⟩ : ByteArray), 0, 0, false)) else (if x13 = true then (if x8 = (x0.size : Int) then (if (x9.size : Int) ≤ 17 then (if (wrap64 (-x12)) ≥ (-400) then (some (x7, x9, x10, wrap64 (-x12), decide ((wrap64 (-x12)) ≤ 400))) else (some (x7, x9, x10, wrap64 (-x12), false))) else (some (x7, x9, x10, wrap64 (-x12), false))) else (some (x7, x9, x10, wrap64 (-x12), false))) else (if x8 = (x0.size : Int) then (if (x9.size : Int) ≤ 17 then (if x12 ≥ (-400) then (some (x7, x9, x10, x12, decide (x12 ≤ 400))) else (some (x7, x9, x10, x12, false))) else (some (x7, x9, x10, x12, false))) else (some (x7, x9, x10, x12, false))))
def endonymref2_Read.l2 : Nat → ByteArray → Bool → Int → ByteArray → Int → Int → Int → Bool → Option (Bool × ByteArray × Int × Int × Bool)
 | 0, _, _, _, _, _, _, _, _ => none
 | k + 1, x0, x7, x8, x9, x10, x11, x12, x13 => if x8 < (x0.size : Int) then (if 0 ≤ x8 then ((endonymref2_digit.f (bt x0 x8)).bind fun t232 => (if t232 = true then (if (wrap64 (x8 - x11)) < 4 then (endonymref2_Read.l2 k x0 x7 (wrap64 (x8 + 1)) x9 x10 x11 (wrap64 ((wrap64 (10 * x12)) + (((bt x0 x8) - 48) % 256))) x13) else (endonymref2_Read.j11 k x0 x7 x8 x9 x10 x11 x12 x13)) else (endonymref2_Read.j11 k x0 x7 x8 x9 x10 x11 x12 x13))) else (none)) else (endonymref2_Read.j11 k x0 x7 x8 x9 x10 x11 x12 x13)
def endonymref2_Read.l1 : Nat → ByteArray → Bool → Int → ByteArray → Int → Int → Option (Bool × ByteArray × Int × Int × Bool)
 | 0, _, _, _, _, _, _ => none
 | k + 1, x0, x7, x8, x9, x10, x11 => if x8 < (x0.size : Int) then (if 0 ≤ x8 then ((endonymref2_digit.f (bt x0 x8)).bind fun t231 => (if t231 = true then (if x8 ≤ (wrap64 (x8 + 1)) then (if (wrap64 (x8 + 1)) ≤ (x0.size : Int) then (if x9.size + (x0.extract (x8 : Int).toNat ((wrap64 (x8 + 1)) : Int).toNat).size ≤ 9223372036854775807 then (endonymref2_Read.l1 k x0 x7 (wrap64 (x8 + 1)) (x9 ++ (x0.extract (x8 : Int).toNat ((wrap64 (x8 + 1)) : Int).toNat)) (wrap64 (x10 + 1)) x11) else (none)) else (none)) else (none)) else (if x8 = x11 then (some (false, (⟨#[]⟩ : ByteArray), 0, 0, false)) else (endonymref2_Read.j6 k x0 x7 x8 x9 x10)))) else (none)) else (if x8 = x11 then (some (false, (⟨#[]⟩ : ByteArray), 0, 0, false)) else (endonymref2_Read.j6 k x0 x7 x8 x9 x10))
def endonymref2_Read.l0 : Nat → ByteArray → Bool → Int → ByteArray → Int → Int → Option (Bool × ByteArray × Int × Int × Bool)
 | 0, _, _, _, _, _, _ => none
 | k + 1, x0, x7, x8, x9, x10, x11 => if x8 < (x0.size : Int) then (if 0 ≤ x8 then ((endonymref2_digit.f (bt x0 x8)).bind fun t230 => (if t230 = true then (if x8 ≤ (wrap64 (x8 + 1)) then (if (wrap64 (x8 + 1)) ≤ (x0.size : Int) then (if x9.size + (x0.extract (x8 : Int).toNat ((wrap64 (x8 + 1)) : Int).toNat).size ≤ 9223372036854775807 then (endonymref2_Read.l0 k x0 x7 (wrap64 (x8 + 1)) (x9 ++ (x0.extract (x8 : Int).toNat ((wrap64 (x8 + 1)) : Int).toNat)) x10 x11) else (none)) else (none)) else (none)) else (endonymref2_Read.j3 k x0 x7 x8 x9 x10 x11))) else (none)) else (endonymref2_Read.j3 k x0 x7 x8 x9 x10 x11)
end
def endonymref2_Read.f (k : Nat) (a0 : ByteArray) : Option (Bool × ByteArray × Int × Int × Bool) := if 0 < (a0.size : Int) then (endonymref2_Read.j0 k a0 false 0 ((bt a0 0) == 45)) else (endonymref2_Read.j0 k a0 false 0 false)
theorem endonymref2_Read.mono_l : ∀ k, (∀ y0 y1 y2 y3, LeO (endonymref2_Read.j0 k y0 y1 y2 y3) (endonymref2_Read.j0 (k + 1) y0 y1 y2 y3)) ∧ (∀ y0 y1 y2, LeO (endonymref2_Read.j1 k y0 y1 y2) (endonymref2_Read.j1 (k + 1) y0 y1 y2)) ∧ (∀ y0 y1 y2 y3 y4 y5, LeO (endonymref2_Read.j3 k y0 y1 y2 y3 y4 y5) (endonymref2_Read.j3 (k + 1) y0 y1 y2 y3 y4 y5)) ∧ (∀ y0 y1 y2 y3 y4 y5, LeO (endonymref2_Read.j4 k y0 y1 y2 y3 y4 y5) (endonymref2_Read.j4 (k + 1) y0 y1 y2 y3 y4 y5)) ∧ (∀ y0 y1 y2 y3 y4, LeO (endonymref2_Read.j6 k y0 y1 y2 y3 y4) (endonymref2_Read.j6 (k + 1) y0 y1 y2 y3 y4)) ∧ (∀ y0 y1 y2 y3 y4 y5 y6, LeO (endonymref2_Read.j7 k y0 y1 y2 y3 y4 y5 y6) (endonymref2_Read.j7 (k + 1) y0 y1 y2 y3 y4 y5 y6)) ∧ (∀ y0 y1 y2 y3 y4 y5 y6, LeO (endonymref2_Read.j8 k y0 y1 y2 y3 y4 y5 y6) (endonymref2_Read.j8 (k + 1) y0 y1 y2 y3 y4 y5 y6)) ∧ (∀ y0 y1 y2 y3 y4 y5 y6, LeO (endonymref2_Read.j9 k y0 y1 y2 y3 y4 y5 y6) (endonymref2_Read.j9 (k + 1) y0 y1 y2 y3 y4 y5 y6)) ∧ (∀ y0 y1 y2 y3 y4 y5 y6 y7, LeO (endonymref2_Read.j11 k y0 y1 y2 y3 y4 y5 y6 y7) (endonymref2_Read.j11 (k + 1) y0 y1 y2 y3 y4 y5 y6 y7)) ∧ (∀ y0 y1 y2 y3 y4 y5 y6 y7, LeO (endonymref2_Read.j12 k y0 y1 y2 y3 y4 y5 y6 y7) (endonymref2_Read.j12 (k + 1) y0 y1 y2 y3 y4 y5 y6 y7)) ∧ (∀ y0 y1 y2 y3 y4 y5 y6 y7, LeO (endonymref2_Read.l2 k y0 y1 y2 y3 y4 y5 y6 y7) (endonymref2_Read.l2 (k + 1) y0 y1 y2 y3 y4 y5 y6 y7)) ∧ (∀ y0 y1 y2 y3 y4 y5, LeO (endonymref2_Read.l1 k y0 y1 y2 y3 y4 y5) (endonymref2_Read.l1 (k + 1) y0 y1 y2 y3 y4 y5)) ∧ (∀ y0 y1 y2 y3 y4 y5, LeO (endonymref2_Read.l0 k y0 y1 y2 y3 y4 y5) (endonymref2_Read.l0 (k + 1) y0 y1 y2 y3 y4 y5))
 | 0 => ⟨fun _ _ _ _ r h => by simp [endonymref2_Read.j0] at h, fun _ _ _ r h => by simp [endonymref2_Read.j1] at h, fun _ _ _ _ _ _ r h => by simp [endonymref2_Read.j3] at h, fun _ _ _ _ _ _ r h => by simp [endonymref2_Read.j4] at h, fun _ _ _ _ _ r h => by simp [endonymref2_Read.j6] at h, fun _ _ _ _ _ _ _ r h => by simp [endonymref2_Read.j7] at h, fun _ _ _ _ _ _ _ r h => by simp [endonymref2_Read.j8] at h, fun _ _ _ _ _ _ _ r h => by simp [endonymref2_Read.j9] at h, fun _ _ _ _ _ _ _ _ r h => by simp [endonymref2_Read.j11] at h, fun _ _ _ _ _ _ _ _ r h => by simp [endonymref2_Read.j12] at h, fun _ _ _ _ _ _ _ _ r h => by simp [endonymref2_Read.l2] at h, fun _ _ _ _ _ _ r h => by simp [endonymref2_Read.l1] at h, fun _ _ _ _ _ _ r h => by simp [endonymref2_Read.l0] at h⟩
 | k + 1 => by
  obtain ⟨ih0, ih1, ih2, ih3, ih4, ih5, ih6, ih7, ih8, ih9, ih10, ih11, ih12⟩ := endonymref2_Read.mono_l k
  refine ⟨?_, ?_, ?_, ?_, ?_, ?_, ?_, ?_, ?_, ?_, ?_, ?_, ?_⟩
  ·intro y0 y1 y2 y3
   unfold endonymref2_Read.j0
   repeat' first | (with_reducible first | apply ih0 | apply ih1 | apply ih2 | apply ih3 | apply ih4 | apply ih5 | apply ih6 | apply ih7 | apply ih8 | apply ih9 | apply ih10 | apply ih11 | apply ih12 | apply LeO.refl | apply LeO.none | refine LeO.ite ?_ ?_ | refine LeO.bind ?_ (fun _ => ?_)) | apply ih0 | apply ih1 | apply ih2 | apply ih3 | apply ih4 | apply ih5 | apply ih6 | apply ih7 | apply ih8 | apply ih9 | apply ih10 | apply ih11 | apply ih12 | apply LeO.none | refine LeO.ite ?_ ?_ | refine LeO.bind ?_ (fun _ => ?_)
  ·intro y0 y1 y2
   unfold endonymref2_Read.j1
   repeat' first | (with_reducible first | apply ih0 | apply ih1 | apply ih2 | apply ih3 | apply ih4 | apply ih5 | apply ih6 | apply ih7 | apply ih8 | apply ih9 | apply ih10 | apply ih11 | apply ih12 | apply LeO.refl | apply LeO.none | refine LeO.ite ?_ ?_ | refine LeO.bind ?_ (fun _ => ?_)) | apply ih0 | apply ih1 | apply ih2 | apply ih3 | apply ih4 | apply ih5 | apply ih6 | apply ih7 | apply ih8 | apply ih9 | apply ih10 | apply ih11 | apply ih12 | apply LeO.none | refine LeO.ite ?_ ?_ | refine LeO.bind ?_ (fun _ => ?_)
  ·intro y0 y1 y2 y3 y4 y5
   unfold endonymref2_Read.j3
   repeat' first | (with_reducible first | apply ih0 | apply ih1 | apply ih2 | apply ih3 | apply ih4 | apply ih5 | apply ih6 | apply ih7 | apply ih8 | apply ih9 | apply ih10 | apply ih11 | apply ih12 | apply LeO.refl | apply LeO.none | refine LeO.ite ?_ ?_ | refine LeO.bind ?_ (fun _ => ?_)) | apply ih0 | apply ih1 | apply ih2 | apply ih3 | apply ih4 | apply ih5 | apply ih6 | apply ih7 | apply ih8 | apply ih9 | apply ih10 | apply ih11 | apply ih12 | apply LeO.none | refine LeO.ite ?_ ?_ | refine LeO.bind ?_ (fun _ => ?_)
  ·intro y0 y1 y2 y3 y4 y5
   unfold endonymref2_Read.j4
   repeat' first | (with_reducible first | apply ih0 | apply ih1 | apply ih2 | apply ih3 | apply ih4 | apply ih5 | apply ih6 | apply ih7 | apply ih8 | apply ih9 | apply ih10 | apply ih11 | apply ih12 | apply LeO.refl | apply LeO.none | refine LeO.ite ?_ ?_ | refine LeO.bind ?_ (fun _ => ?_)) | apply ih0 | apply ih1 | apply ih2 | apply ih3 | apply ih4 | apply ih5 | apply ih6 | apply ih7 | apply ih8 | apply ih9 | apply ih10 | apply ih11 | apply ih12 | apply LeO.none | refine LeO.ite ?_ ?_ | refine LeO.bind ?_ (fun _ => ?_)
  ·intro y0 y1 y2 y3 y4
   unfold endonymref2_Read.j6
   repeat' first | (with_reducible first | apply ih0 | apply ih1 | apply ih2 | apply ih3 | apply ih4 | apply ih5 | apply ih6 | apply ih7 | apply ih8 | apply ih9 | apply ih10 | apply ih11 | apply ih12 | apply LeO.refl | apply LeO.none | refine LeO.ite ?_ ?_ | refine LeO.bind ?_ (fun _ => ?_)) | apply ih0 | apply ih1 | apply ih2 | apply ih3 | apply ih4 | apply ih5 | apply ih6 | apply ih7 | apply ih8 | apply ih9 | apply ih10 | apply ih11 | apply ih12 | apply LeO.none | refine LeO.ite ?_ ?_ | refine LeO.bind ?_ (fun _ => ?_)
  ·intro y0 y1 y2 y3 y4 y5 y6
   unfold endonymref2_Read.j7
   repeat' first | (with_reducible first | apply ih0 | apply ih1 | apply ih2 | apply ih3 | apply ih4 | apply ih5 | apply ih6 | apply ih7 | apply ih8 | apply ih9 | apply ih10 | apply ih11 | apply ih12 | apply LeO.refl | apply LeO.none | refine LeO.ite ?_ ?_ | refine LeO.bind ?_ (fun _ => ?_)) | apply ih0 | apply ih1 | apply ih2 | apply ih3 | apply ih4 | apply ih5 | apply ih6 | apply ih7 | apply ih8 | apply ih9 | apply ih10 | apply ih11 | apply ih12 | apply LeO.none | refine LeO.ite ?_ ?_ | refine LeO.bind ?_ (fun _ => ?_)
  ·intro y0 y1 y2 y3 y4 y5 y6
   unfold endonymref2_Read.j8
   repeat' first | (with_reducible first | apply ih0 | apply ih1 | apply ih2 | apply ih3 | apply ih4 | apply ih5 | apply ih6 | apply ih7 | apply ih8 | apply ih9 | apply ih10 | apply ih11 | apply ih12 | apply LeO.refl | apply LeO.none | refine LeO.ite ?_ ?_ | refine LeO.bind ?_ (fun _ => ?_)) | apply ih0 | apply ih1 | apply ih2 | apply ih3 | apply ih4 | apply ih5 | apply ih6 | apply ih7 | apply ih8 | apply ih9 | apply ih10 | apply ih11 | apply ih12 | apply LeO.none | refine LeO.ite ?_ ?_ | refine LeO.bind ?_ (fun _ => ?_)
  ·intro y0 y1 y2 y3 y4 y5 y6
   unfold endonymref2_Read.j9
   repeat' first | (with_reducible first | apply ih0 | apply ih1 | apply ih2 | apply ih3 | apply ih4 | apply ih5 | apply ih6 | apply ih7 | apply ih8 | apply ih9 | apply ih10 | apply ih11 | apply ih12 | apply LeO.refl | apply LeO.none | refine LeO.ite ?_ ?_ | refine LeO.bind ?_ (fun _ => ?_)) | apply ih0 | apply ih1 | apply ih2 | apply ih3 | apply ih4 | apply ih5 | apply ih6 | apply ih7 | apply ih8 | apply ih9 | apply ih10 | apply ih11 | apply ih12 | apply LeO.none | refine LeO.ite ?_ ?_ | refine LeO.bind ?_ (fun _ => ?_)
  ·intro y0 y1 y2 y3 y4 y5 y6 y7
   unfold endonymref2_Read.j11
   repeat' first | (with_reducible first | apply ih0 | apply ih1 | apply ih2 | apply ih3 | apply ih4 | apply ih5 | apply ih6 | apply ih7 | apply ih8 | apply ih9 | apply ih10 | apply ih11 | apply ih12 | apply LeO.refl | apply LeO.none | refine LeO.ite ?_ ?_ | refine LeO.bind ?_ (fun _ => ?_)) | apply ih0 | apply ih1 | apply ih2 | apply ih3 | apply ih4 | apply ih5 | apply ih6 | apply ih7 | apply ih8 | apply ih9 | apply ih10 | apply ih11 | apply ih12 | apply LeO.none | refine LeO.ite ?_ ?_ | refine LeO.bind ?_ (fun _ => ?_)
  ·intro y0 y1 y2 y3 y4 y5 y6 y7
   unfold endonymref2_Read.j12
   repeat' first | (with_reducible first | apply ih0 | apply ih1 | apply ih2 | apply ih3 | apply ih4 | apply ih5 | apply ih6 | apply ih7 | apply ih8 | apply ih9 | apply ih10 | apply ih11 | apply ih12 | apply LeO.refl | apply LeO.none | refine LeO.ite ?_ ?_ | refine LeO.bind ?_ (fun _ => ?_)) | apply ih0 | apply ih1 | apply ih2 | apply ih3 | apply ih4 | apply ih5 | apply ih6 | apply ih7 | apply ih8 | apply ih9 | apply ih10 | apply ih11 | apply ih12 | apply LeO.none | refine LeO.ite ?_ ?_ | refine LeO.bind ?_ (fun _ => ?_)
  ·intro y0 y1 y2 y3 y4 y5 y6 y7
   unfold endonymref2_Read.l2
   repeat' first | (with_reducible first | apply ih0 | apply ih1 | apply ih2 | apply ih3 | apply ih4 | apply ih5 | apply ih6 | apply ih7 | apply ih8 | apply ih9 | apply ih10 | apply ih11 | apply ih12 | apply LeO.refl | apply LeO.none | refine LeO.ite ?_ ?_ | refine LeO.bind ?_ (fun _ => ?_)) | apply ih0 | apply ih1 | apply ih2 | apply ih3 | apply ih4 | apply ih5 | apply ih6 | apply ih7 | apply ih8 | apply ih9 | apply ih10 | apply ih11 | apply ih12 | apply LeO.none | refine LeO.ite ?_ ?_ | refine LeO.bind ?_ (fun _ => ?_)
  ·intro y0 y1 y2 y3 y4 y5
   unfold endonymref2_Read.l1
   repeat' first | (with_reducible first | apply ih0 | apply ih1 | apply ih2 | apply ih3 | apply ih4 | apply ih5 | apply ih6 | apply ih7 | apply ih8 | apply ih9 | apply ih10 | apply ih11 | apply ih12 | apply LeO.refl | apply LeO.none | refine LeO.ite ?_ ?_ | refine LeO.bind ?_ (fun _ => ?_)) | apply ih0 | apply ih1 | apply ih2 | apply ih3 | apply ih4 | apply ih5 | apply ih6 | apply ih7 | apply ih8 | apply ih9 | apply ih10 | apply ih11 | apply ih12 | apply LeO.none | refine LeO.ite ?_ ?_ | refine LeO.bind ?_ (fun _ => ?_)
  intro y0 y1 y2 y3 y4 y5
  unfold endonymref2_Read.l0
  repeat' first | (with_reducible first | apply ih0 | apply ih1 | apply ih2 | apply ih3 | apply ih4 | apply ih5 | apply ih6 | apply ih7 | apply ih8 | apply ih9 | apply ih10 | apply ih11 | apply ih12 | apply LeO.refl | apply LeO.none | refine LeO.ite ?_ ?_ | refine LeO.bind ?_ (fun _ => ?_)) | apply ih0 | apply ih1 | apply ih2 | apply ih3 | apply ih4 | apply ih5 | apply ih6 | apply ih7 | apply ih8 | apply ih9 | apply ih10 | apply ih11 | apply ih12 | apply LeO.none | refine LeO.ite ?_ ?_ | refine LeO.bind ?_ (fun _ => ?_)
theorem endonymref2_Read.mono : ∀ a0 k, LeO (endonymref2_Read.f k a0) (endonymref2_Read.f (k + 1) a0) := by
 intro a0 k
 obtain ⟨ih0, ih1, ih2, ih3, ih4, ih5, ih6, ih7, ih8, ih9, ih10, ih11, ih12⟩ := endonymref2_Read.mono_l k
 unfold endonymref2_Read.f
 repeat' first | (with_reducible first | apply ih0 | apply ih1 | apply ih2 | apply ih3 | apply ih4 | apply ih5 | apply ih6 | apply ih7 | apply ih8 | apply ih9 | apply ih10 | apply ih11 | apply ih12 | apply LeO.refl | apply LeO.none | refine LeO.ite ?_ ?_ | refine LeO.bind ?_ (fun _ => ?_)) | apply ih0 | apply ih1 | apply ih2 | apply ih3 | apply ih4 | apply ih5 | apply ih6 | apply ih7 | apply ih8 | apply ih9 | apply ih10 | apply ih11 | apply ih12 | apply LeO.none | refine LeO.ite ?_ ?_ | refine LeO.bind ?_ (fun _ => ?_)
set_option maxHeartbeats 8000000 in
set_option maxRecDepth 100000 in
theorem endonymref2_Read.calls (k : Nat) (a0 : ByteArray) (r1 : Bool) (r2 : ByteArray) (r3 : Int) (r4 : Int) (r5 : Bool) (w : World) (h : endonymref2_Read.f k a0 = some (r1, r2, r3, r4, r5)) :
  Calls Tryz.prog 32 #[.string a0] w fun e w' => e = .returned (.tuple #[.bool r1, .string r2, .int .i64 r3, .int .i64 r4, .bool r5]) ∧ Drawn0 w w' := by
 have H : (if 0 < (a0.size : Int) then (endonymref2_Read.j0 k a0 false 0 ((bt a0 0) == 45)) else (endonymref2_Read.j0 k a0 false 0 false)) = some (r1, r2, r3, r4, r5) := h
 clear h
 have HC2 := Aside0.mk H
 clear H
 go_enter Tryz.func32, Tryz.ntmps32
 go_upto_region 3 with (fail)
 go_cut [23] (fun v23 wc => ∃ (kq : Nat) (x23_1 : Bool), v23 = .bool x23_1 ∧ Aside0 (endonymref2_Read.j0 kq a0 false 0 x23_1 = some (r1, r2, r3, r4, r5)) ∧ Aside0 (kq ≤ k) ∧ Drawn0 w wc)
 case first =>
  have H := HC2.out
  clear HC2
  by_cases c3 : 0 < (a0.size : Int)
  ·rw [if_pos c3] at H
   have c3b0 := decide_eq_true c3
   have c3b1 : decide (0 < a0.size) = true := decide_eq_true (by omega)
   clear c3
   (first | rw [c3b0] | (simp only [i64_w, i32_w]; rw [c3b0]) | skip)
   have H' := Aside0.mk H
   clear H
   have p4 : 0 ≤ (0 : Int) := (by omega)
   have q4 : 0 < a0.size := (by have : (0 : Int) < (a0.size : Int) := sqD; omega)
   have hx4 : ∀ h : 0 < a0.size, ((a0[0]'h).toNat : Int) = bt a0 0 := bt_at a0 0
   clear p4
   have qi4 : (0 < (a0.size : Int)) = True := eq_true sqD
   replace q4 := eq_true q4
   go_wp2
   go_meet
   case rel => exact ⟨_, (((bt a0 0) == 45)), (by first | rfl | (simp; done) | (simp [wrap64]; done) | (simp [*]; done)), H', ⟨by first | omega | exact Nat.le_refl _⟩, sqW⟩
  rw [if_neg c3] at H
  have c3b0 := decide_eq_false c3
  have c3b1 : decide (0 < a0.size) = false := decide_eq_false (by omega)
  clear c3
  (first | rw [c3b0] | (simp only [i64_w, i32_w]; rw [c3b0]) | skip)
  have H' := Aside0.mk H
  clear H
  go_wp2
  go_meet
  case rel => exact ⟨_, (false), (by first | rfl | (simp; done) | (simp [wrap64]; done) | (simp [*]; done)), H', ⟨by first | omega | exact Nat.le_refl _⟩, sqW⟩
 case rest =>
  as_aux_lemma =>
   clear HC2
   try clear p2
   try clear c3
   try clear c3b0
   try clear c3b1
   try clear p4
   try clear q4
   try clear hx4
   try clear qi4
   try clear p4
   try clear q4
   obtain ⟨kq, x23_1, rfl, HA, HJ1, ⟨mc1, rfl⟩⟩ := hcut
   cases kq with
   | zero => exact absurd HA.out (by simp [endonymref2_Read.j0])
   | succ kj1 =>
    have H := HA.out
    clear HA
    simp only [endonymref2_Read.j0] at H
    have HC5 := Aside0.mk H
    clear H
    go_upto_if 23 with (fail)
    go_cut [7, 8] (fun v7 v8 wc => ∃ (kq : Nat) (x7_4 : Bool) (x8_4 : Int), v7 = .bool x7_4 ∧ v8 = .int .i64 x8_4 ∧ Aside0 (endonymref2_Read.j1 kq a0 x7_4 x8_4 = some (r1, r2, r3, r4, r5)) ∧ Aside0 (kq ≤ kj1) ∧ Drawn0 w wc)
    case first =>
     have H := HC5.out
     clear HC5
     by_cases c6 : x23_1 = true
     ·subst c6
      have H1 : (endonymref2_Read.j1 kj1 a0 true (wrap64 (0 + 1))) = some (r1, r2, r3, r4, r5) := by rw [if_pos rfl] at H; exact H
      clear H
      have H := H1
      clear H1
      have H' := Aside0.mk H
      clear H
      go_wp2
      go_meet
      case rel => exact ⟨_, (true), (wrap64 (0 + 1)), (by first | rfl | (simp; done) | (simp [wrap64]; done) | (simp [*]; done)), (by first | rfl | (simp; done) | (simp [wrap64]; done) | (simp [*]; done)), H', ⟨by have := HJ1.out; first | omega | exact Nat.le_refl _⟩, sqW⟩
     replace c6 := Bool.eq_false_iff.mpr c6
     subst c6
     have H1 : (endonymref2_Read.j1 kj1 a0 false 0) = some (r1, r2, r3, r4, r5) := by rw [if_neg (show ¬ (false = true) by decide)] at H; exact H
     clear H
     have H := H1
     clear H1
     have H' := Aside0.mk H
     clear H
     go_wp2
     go_meet
     case rel => exact ⟨_, (false), (0), (by first | rfl | (simp; done) | (simp [wrap64]; done) | (simp [*]; done)), (by first | rfl | (simp; done) | (simp [wrap64]; done) | (simp [*]; done)), H', ⟨by have := HJ1.out; first | omega | exact Nat.le_refl _⟩, sqW⟩
    case rest =>
     as_aux_lemma =>
      clear HC5
      try clear c1
      try clear p2
      try clear c3
      try clear c3b0
      try clear c3b1
      try clear p4
      try clear q4
      try clear hx4
      try clear qi4
      try clear c6
      try clear p6
      try clear p2
      try clear p4
      try clear q4
      obtain ⟨kq, x7_4, x8_4, rfl, rfl, HA, HJ4, ⟨mc4, rfl⟩⟩ := hcut
      cases kq with
      | zero => exact absurd HA.out (by simp [endonymref2_Read.j1])
      | succ kj4 =>
       have H := HA.out
       clear HA
       simp only [endonymref2_Read.j1] at H
       have HC7 := Aside0.mk H
       clear H
       go_upto_block 0 with (fail)
       go_cut [8, 9] (fun v8 v9 wc => ∃ (kq : Nat) (x8_6 : Int) (x9_6 : ByteArray), v8 = .int .i64 x8_6 ∧ v9 = .string x9_6 ∧ Aside0 (endonymref2_Read.j3 kq a0 x7_4 x8_6 x9_6 0 x8_4 = some (r1, r2, r3, r4, r5)) ∧ Aside0 (kq ≤ kj4) ∧ Drawn0 w wc)
       case first =>
        have H := HC7.out
        clear HC7
        have H' := Aside0.mk H
        clear H
        go_wp2
        go_loopg [8, 9] kj4 (fun kq v8 v9 w' => ∃ (x8_3 : Int) (x9_3 : ByteArray), v8 = .int .i64 x8_3 ∧ v9 = .string x9_3 ∧ Aside0 (endonymref2_Read.l0 kq a0 x7_4 x8_3 x9_3 0 x8_4 = some (r1, r2, r3, r4, r5)) ∧ Aside0 (kq ≤ kj4) ∧ Drawn0 w w')
        case atStart => exact ⟨(x8_4), ((⟨#[]⟩ : ByteArray)), (by first | rfl | (simp; done) | (simp [wrap64]; done) | (simp [*]; done)), (by first | rfl | (simp; done) | (simp [wrap64]; done) | (simp [*]; done)), H', ⟨Nat.le_refl _⟩, sqW⟩
        case round =>
         as_aux_lemma =>
          clear H'
          try clear c1
          try clear p2
          try clear c3
          try clear c3b0
          try clear c3b1
          try clear c4
          try clear p4
          try clear q4
          try clear hx4
          try clear qi4
          try clear c6
          try clear p6
          try clear p2
          try clear p4
          try clear p6
          try clear q4
          obtain ⟨x8_3, x9_3, rfl, rfl, HA, HK3, ⟨m3, rfl⟩⟩ := hrel
          cases gk with
          | zero => exact absurd HA.out (by simp [endonymref2_Read.l0])
          | succ k3 =>
           have H := HA.out
           clear HA
           simp only [endonymref2_Read.l0] at H
           by_cases c8 : x8_3 < (a0.size : Int)
           ·as_aux_lemma =>
             rw [if_pos c8] at H
             have c8b0 := decide_eq_true c8
             clear c8
             (first | rw [c8b0] | (simp only [i64_w, i32_w]; rw [c8b0]) | skip)
             by_cases c9 : 0 ≤ x8_3
             case neg => rw [if_neg c9] at H; exact absurd H (by simp)
             as_aux_lemma =>
              rw [if_pos c9] at H
              have c9b0 := decide_eq_true c9
              clear c9
              replace H := Option.bind_eq_some_iff.mp H
              obtain ⟨t230, A110, H⟩ := H
              try dsimp only at H
              have A11 := Aside0.mk A110
              clear A110
              by_cases c12 : t230 = true
              ·subst c12
               have H1 : (if x8_3 ≤ (wrap64 (x8_3 + 1)) then (if (wrap64 (x8_3 + 1)) ≤ (a0.size : Int) then (if x9_3.size + (a0.extract (x8_3 : Int).toNat ((wrap64 (x8_3 + 1)) : Int).toNat).size ≤ 9223372036854775807 then (endonymref2_Read.l0 k3 a0 x7_4 (wrap64 (x8_3 + 1)) (x9_3 ++ (a0.extract (x8_3 : Int).toNat ((wrap64 (x8_3 + 1)) : Int).toNat)) 0 x8_4) else (none)) else (none)) else (none)) = some (r1, r2, r3, r4, r5) := by rw [if_pos rfl] at H; exact H
               clear H
               have H := H1
               clear H1
               have c13b0 := eq_true (sqD : 0 ≤ x8_3)
               by_cases c14 : x8_3 ≤ (wrap64 (x8_3 + 1))
               case neg => rw [if_neg c14] at H; exact absurd H (by simp)
               rw [if_pos c14] at H
               have c14b0 := eq_true c14
               have c14b1 := decide_eq_true c14
               by_cases c15 : (wrap64 (x8_3 + 1)) ≤ (a0.size : Int)
               case neg => rw [if_neg c15] at H; exact absurd H (by simp)
               rw [if_pos c15] at H
               have c15b0 := eq_true c15
               have c15b1 := decide_eq_true c15
               by_cases c16 : x9_3.size + (a0.extract (x8_3 : Int).toNat ((wrap64 (x8_3 + 1)) : Int).toNat).size ≤ 9223372036854775807
               case neg => rw [if_neg c16] at H; exact absurd H (by simp)
               rw [if_pos c16] at H
               have c16b0 := eq_true c16
               have c16b1 := decide_eq_true c16
               try have c16b2 : (9223372036854775807 < x9_3.size + (a0.extract (x8_3 : Int).toNat ((wrap64 (x8_3 + 1)) : Int).toNat).size) = False := eq_false (Nat.not_lt.2 c16)
               have H' := Aside0.mk H
               clear H
               have p10 : 0 ≤ (x8_3 : Int) := sqD
               have q10 : x8_3 < (a0.size : Int) := sqD
               have hx10 := bt_at a0 x8_3
               replace p10 := eq_true p10
               replace q10 := eq_true q10
               go_wp2_with (first | (go_at_call 60; (with_reducible refine (endonymref2_digit.calls (bt a0 x8_3) true _ A11.out).mono ?_); rintro e w' ⟨rfl, ⟨nd, rfl⟩⟩))
               go_roundg k3
               case measure => have := HJ1.out; have := HJ4.out; have := HK3.out; omega
               case rel => exact ⟨(wrap64 (x8_3 + 1)), (x9_3 ++ (a0.extract (x8_3 : Int).toNat ((wrap64 (x8_3 + 1)) : Int).toNat)), (by first | rfl | (simp; done) | (simp [wrap64]; done) | (simp [*]; done)), (by first | rfl | (simp; done) | (simp [wrap64]; done) | (simp [*]; done)), H', ⟨by have := HJ1.out; have := HJ4.out; have := HK3.out; omega⟩, sqW⟩
              replace c12 := Bool.eq_false_iff.mpr c12
              subst c12
              have H1 : (endonymref2_Read.j3 k3 a0 x7_4 x8_3 x9_3 0 x8_4) = some (r1, r2, r3, r4, r5) := by rw [if_neg (show ¬ (false = true) by decide)] at H; exact H
              clear H
              have H := H1
              clear H1
              have H' := Aside0.mk H
              clear H
              have p10 : 0 ≤ (x8_3 : Int) := sqD
              have q10 : x8_3 < (a0.size : Int) := sqD
              have hx10 := bt_at a0 x8_3
              replace p10 := eq_true p10
              replace q10 := eq_true q10
              go_wp2_with (first | (go_at_call 60; (with_reducible refine (endonymref2_digit.calls (bt a0 x8_3) false _ A11.out).mono ?_); rintro e w' ⟨rfl, ⟨nd, rfl⟩⟩))
              go_meet
              case rel => exact ⟨_, (x8_3), (x9_3), (by first | rfl | (simp; done) | (simp [wrap64]; done) | (simp [*]; done)), (by first | rfl | (simp; done) | (simp [wrap64]; done) | (simp [*]; done)), H', ⟨by have := HJ1.out; have := HJ4.out; have := HK3.out; first | omega | exact Nat.le_refl _⟩, sqW⟩
           rw [if_neg c8] at H
           have c8b0 := decide_eq_false c8
           clear c8
           (first | rw [c8b0] | (simp only [i64_w, i32_w]; rw [c8b0]) | skip)
           have H' := Aside0.mk H
           clear H
           go_wp2
           go_meet
           case rel => exact ⟨_, (x8_3), (x9_3), (by first | rfl | (simp; done) | (simp [wrap64]; done) | (simp [*]; done)), (by first | rfl | (simp; done) | (simp [wrap64]; done) | (simp [*]; done)), H', ⟨by have := HJ1.out; have := HJ4.out; have := HK3.out; first | omega | exact Nat.le_refl _⟩, sqW⟩
       case rest =>
        as_aux_lemma =>
         clear HC7
         try clear c1
         try clear p1
         try clear q1
         try clear hx1
         try clear p2
         try clear c3
         try clear c3b0
         try clear c3b1
         try clear c4
         try clear p4
         try clear q4
         try clear hx4
         try clear qi4
         try clear c6
         try clear p6
         try clear c8
         try clear c8b0
         try clear c9
         try clear c9b0
         try clear p10
         try clear q10
         try clear hx10
         try clear c12
         try clear c13
         try clear c13b0
         try clear c14
         try clear c14b0
         try clear c14b1
         try clear c15
         try clear c15b0
         try clear c15b1
         try clear c16
         try clear c16b0
         try clear c16b1
         try clear c16b2
         try clear p10
         try clear p2
         try clear p4
         try clear p6
         try clear q10
         try clear q4
         obtain ⟨kq, x8_6, x9_6, rfl, rfl, HA, HJ6, ⟨mc6, rfl⟩⟩ := hcut
         cases kq with
         | zero => exact absurd HA.out (by simp [endonymref2_Read.j3])
         | succ kj6 =>
          have H := HA.out
          clear HA
          simp only [endonymref2_Read.j3] at H
          by_cases c17 : x8_6 = x8_4
          ·rw [if_pos c17] at H
           have c17b0 := beq_iff_eq.mpr c17
           have c17b1 := bne_eq_false_iff_eq.mpr c17
           clear c17
           simp only [Option.some.injEq, Prod.mk.injEq] at H
           obtain ⟨rfl, rfl, rfl, rfl, rfl⟩ := H
           go_wp2
           refine bodyPost_ret (results_list (rs := [.tmp 2, .tmp 3, .tmp 4, .tmp 5, .tmp 6]) rfl (by simp) (.tmp (.tmp (.tmp (.tmp (.tmp .nil)))))) rfl ?_
           exact ⟨by first | (exact absurd ‹decide ((-400) ≤ 0) = false› (by decide)) | rfl | (simp; done) | (simp [wrap64]; done) | (simp [*]; done), sqW⟩
          as_aux_lemma =>
           rw [if_neg c17] at H
           have c17b0 := beq_eq_false_iff_ne.mpr c17
           have c17b1 := bne_iff_ne.mpr c17
           have HC18 := Aside0.mk H
           clear H
           go_upto_region 14 with (fail)
           go_cut [58] (fun v58 wc => ∃ (kq : Nat) (x58_17 : Bool), v58 = .bool x58_17 ∧ Aside0 (endonymref2_Read.j4 kq a0 x7_4 x8_6 x9_6 0 x58_17 = some (r1, r2, r3, r4, r5)) ∧ Aside0 (kq ≤ kj6) ∧ Drawn0 w wc)
           case first =>
            have H := HC18.out
            clear HC18
            by_cases c19 : x8_6 < (a0.size : Int)
            ·rw [if_pos c19] at H
             have c19b0 := decide_eq_true c19
             clear c19
             (first | rw [c19b0] | (simp only [i64_w, i32_w]; rw [c19b0]) | skip)
             by_cases c20 : 0 ≤ x8_6
             case neg => rw [if_neg c20] at H; exact absurd H (by simp)
             rw [if_pos c20] at H
             have c20b0 := decide_eq_true c20
             clear c20
             have H' := Aside0.mk H
             clear H
             have p21 : 0 ≤ (x8_6 : Int) := sqD
             have q21 : x8_6 < (a0.size : Int) := sqD
             have hx21 := bt_at a0 x8_6
             replace p21 := eq_true p21
             replace q21 := eq_true q21
             go_wp2
             go_meet
             case rel => exact ⟨_, (((bt a0 x8_6) == 46)), (by first | rfl | (simp; done) | (simp [wrap64]; done) | (simp [*]; done)), H', ⟨by have := HJ1.out; have := HJ4.out; have := HJ6.out; first | omega | exact Nat.le_refl _⟩, sqW⟩
            rw [if_neg c19] at H
            have c19b0 := decide_eq_false c19
            clear c19
            (first | rw [c19b0] | (simp only [i64_w, i32_w]; rw [c19b0]) | skip)
            have H' := Aside0.mk H
            clear H
            go_wp2
            go_meet
            case rel => exact ⟨_, (false), (by first | rfl | (simp; done) | (simp [wrap64]; done) | (simp [*]; done)), H', ⟨by have := HJ1.out; have := HJ4.out; have := HJ6.out; first | omega | exact Nat.le_refl _⟩, sqW⟩
           case rest =>
            as_aux_lemma =>
             clear HC18
             try clear c1
             try clear p1
             try clear q1
             try clear hx1
             try clear c2
             try clear p2
             try clear q2
             try clear hx2
             try clear c3
             try clear c3b0
             try clear c3b1
             try clear c4
             try clear p4
             try clear q4
             try clear hx4
             try clear qi4
             try clear c6
             try clear p6
             try clear c8
             try clear c8b0
             try clear c9
             try clear c9b0
             try clear p10
             try clear q10
             try clear hx10
             try clear c12
             try clear c13
             try clear c13b0
             try clear c14
             try clear c14b0
             try clear c14b1
             try clear c15
             try clear c15b0
             try clear c15b1
             try clear c16
             try clear c16b0
             try clear c16b1
             try clear c16b2
             try clear c17
             try clear c17b0
             try clear c17b1
             try clear c19
             try clear c19b0
             try clear c20
             try clear c20b0
             try clear p21
             try clear q21
             try clear hx21
             try clear p1
             try clear p10
             try clear p2
             try clear p21
             try clear p4
             try clear p6
             try clear q1
             try clear q10
             try clear q21
             try clear q4
             obtain ⟨kq, x58_17, rfl, HA, HJ17, ⟨mc17, rfl⟩⟩ := hcut
             cases kq with
             | zero => exact absurd HA.out (by simp [endonymref2_Read.j4])
             | succ kj17 =>
              have H := HA.out
              clear HA
              simp only [endonymref2_Read.j4] at H
              have HC22 := Aside0.mk H
              clear H
              go_upto_if 58 with (fail)
              go_cut [8, 9, 10] (fun v8 v9 v10 wc => ∃ (kq : Nat) (x8_21 : Int) (x9_21 : ByteArray) (x10_21 : Int), v8 = .int .i64 x8_21 ∧ v9 = .string x9_21 ∧ v10 = .int .i64 x10_21 ∧ Aside0 (endonymref2_Read.j6 kq a0 x7_4 x8_21 x9_21 x10_21 = some (r1, r2, r3, r4, r5)) ∧ Aside0 (kq ≤ kj17) ∧ Drawn0 w wc)
              case first =>
               have H := HC22.out
               clear HC22
               by_cases c23 : x58_17 = true
               ·subst c23
                have H1 : (endonymref2_Read.l1 kj17 a0 x7_4 (wrap64 (x8_6 + 1)) x9_6 0 (wrap64 (x8_6 + 1))) = some (r1, r2, r3, r4, r5) := by rw [if_pos rfl] at H; exact H
                clear H
                have H := H1
                clear H1
                have H' := Aside0.mk H
                clear H
                go_wp2
                go_loopg [8, 9, 10] kj17 (fun kq v8 v9 v10 w' => ∃ (x8_5 : Int) (x9_5 : ByteArray) (x10_5 : Int), v8 = .int .i64 x8_5 ∧ v9 = .string x9_5 ∧ v10 = .int .i64 x10_5 ∧ Aside0 (endonymref2_Read.l1 kq a0 x7_4 x8_5 x9_5 x10_5 (wrap64 (x8_6 + 1)) = some (r1, r2, r3, r4, r5)) ∧ Aside0 (kq ≤ kj17) ∧ Drawn0 w w')
                case atStart => exact ⟨(wrap64 (x8_6 + 1)), (x9_6), (0), (by first | rfl | (simp; done) | (simp [wrap64]; done) | (simp [*]; done)), (by first | rfl | (simp; done) | (simp [wrap64]; done) | (simp [*]; done)), (by first | rfl | (simp; done) | (simp [wrap64]; done) | (simp [*]; done)), H', ⟨Nat.le_refl _⟩, sqW⟩
                case round =>
                 as_aux_lemma =>
                  clear H'
                  try clear c1
                  try clear p1
                  try clear q1
                  try clear hx1
                  try clear c2
                  try clear p2
                  try clear q2
                  try clear hx2
                  try clear c3
                  try clear c3b0
                  try clear c3b1
                  try clear c4
                  try clear p4
                  try clear q4
                  try clear hx4
                  try clear qi4
                  try clear c6
                  try clear p6
                  try clear c8
                  try clear c8b0
                  try clear c9
                  try clear c9b0
                  try clear p10
                  try clear q10
                  try clear hx10
                  try clear c12
                  try clear c13
                  try clear c13b0
                  try clear c14
                  try clear c14b0
                  try clear c14b1
                  try clear c15
                  try clear c15b0
                  try clear c15b1
                  try clear c16
                  try clear c16b0
                  try clear c16b1
                  try clear c16b2
                  try clear c17
                  try clear c17b0
                  try clear c17b1
                  try clear c19
                  try clear c19b0
                  try clear c20
                  try clear c20b0
                  try clear p21
                  try clear q21
                  try clear hx21
                  try clear c23
                  try clear p1
                  try clear p10
                  try clear p2
                  try clear p21
                  try clear p4
                  try clear p6
                  try clear q1
                  try clear q10
                  try clear q2
                  try clear q21
                  try clear q4
                  obtain ⟨x8_5, x9_5, x10_5, rfl, rfl, rfl, HA, HK5, ⟨m5, rfl⟩⟩ := hrel
                  cases gk with
                  | zero => exact absurd HA.out (by simp [endonymref2_Read.l1])
                  | succ k5 =>
                   have H := HA.out
                   clear HA
                   simp only [endonymref2_Read.l1] at H
                   by_cases c24 : x8_5 < (a0.size : Int)
                   ·as_aux_lemma =>
                     rw [if_pos c24] at H
                     have c24b0 := decide_eq_true c24
                     clear c24
                     (first | rw [c24b0] | (simp only [i64_w, i32_w]; rw [c24b0]) | skip)
                     by_cases c25 : 0 ≤ x8_5
                     case neg => rw [if_neg c25] at H; exact absurd H (by simp)
                     as_aux_lemma =>
                      rw [if_pos c25] at H
                      have c25b0 := decide_eq_true c25
                      clear c25
                      replace H := Option.bind_eq_some_iff.mp H
                      obtain ⟨t231, A270, H⟩ := H
                      try dsimp only at H
                      have A27 := Aside0.mk A270
                      clear A270
                      by_cases c28 : t231 = true
                      ·subst c28
                       have H1 : (if x8_5 ≤ (wrap64 (x8_5 + 1)) then (if (wrap64 (x8_5 + 1)) ≤ (a0.size : Int) then (if x9_5.size + (a0.extract (x8_5 : Int).toNat ((wrap64 (x8_5 + 1)) : Int).toNat).size ≤ 9223372036854775807 then (endonymref2_Read.l1 k5 a0 x7_4 (wrap64 (x8_5 + 1)) (x9_5 ++ (a0.extract (x8_5 : Int).toNat ((wrap64 (x8_5 + 1)) : Int).toNat)) (wrap64 (x10_5 + 1)) (wrap64 (x8_6 + 1))) else (none)) else (none)) else (none)) = some (r1, r2, r3, r4, r5) := by rw [if_pos rfl] at H; exact H
                       clear H
                       have H := H1
                       clear H1
                       have c29b0 := eq_true (sqD : 0 ≤ x8_5)
                       by_cases c30 : x8_5 ≤ (wrap64 (x8_5 + 1))
                       case neg => rw [if_neg c30] at H; exact absurd H (by simp)
                       rw [if_pos c30] at H
                       have c30b0 := eq_true c30
                       have c30b1 := decide_eq_true c30
                       by_cases c31 : (wrap64 (x8_5 + 1)) ≤ (a0.size : Int)
                       case neg => rw [if_neg c31] at H; exact absurd H (by simp)
                       rw [if_pos c31] at H
                       have c31b0 := eq_true c31
                       have c31b1 := decide_eq_true c31
                       by_cases c32 : x9_5.size + (a0.extract (x8_5 : Int).toNat ((wrap64 (x8_5 + 1)) : Int).toNat).size ≤ 9223372036854775807
                       case neg => rw [if_neg c32] at H; exact absurd H (by simp)
                       rw [if_pos c32] at H
                       have c32b0 := eq_true c32
                       have c32b1 := decide_eq_true c32
                       try have c32b2 : (9223372036854775807 < x9_5.size + (a0.extract (x8_5 : Int).toNat ((wrap64 (x8_5 + 1)) : Int).toNat).size) = False := eq_false (Nat.not_lt.2 c32)
                       have H' := Aside0.mk H
                       clear H
                       have p26 : 0 ≤ (x8_5 : Int) := sqD
                       have q26 : x8_5 < (a0.size : Int) := sqD
                       have hx26 := bt_at a0 x8_5
                       replace p26 := eq_true p26
                       replace q26 := eq_true q26
                       go_wp2_with (first | (go_at_call 60; (with_reducible refine (endonymref2_digit.calls (bt a0 x8_5) true _ A27.out).mono ?_); rintro e w' ⟨rfl, ⟨nd, rfl⟩⟩))
                       go_roundg k5
                       case measure => have := HJ1.out; have := HJ4.out; have := HJ6.out; have := HJ17.out; have := HK5.out; omega
                       case rel => exact ⟨(wrap64 (x8_5 + 1)), (x9_5 ++ (a0.extract (x8_5 : Int).toNat ((wrap64 (x8_5 + 1)) : Int).toNat)), (wrap64 (x10_5 + 1)), (by first | rfl | (simp; done) | (simp [wrap64]; done) | (simp [*]; done)), (by first | rfl | (simp; done) | (simp [wrap64]; done) | (simp [*]; done)), (by first | rfl | (simp; done) | (simp [wrap64]; done) | (simp [*]; done)), H', ⟨by have := HJ1.out; have := HJ4.out; have := HJ6.out; have := HJ17.out; have := HK5.out; omega⟩, sqW⟩
                      replace c28 := Bool.eq_false_iff.mpr c28
                      subst c28
                      have H1 : (if x8_5 = (wrap64 (x8_6 + 1)) then (some (false, (⟨#[]⟩ : ByteArray), 0, 0, false)) else (endonymref2_Read.j6 k5 a0 x7_4 x8_5 x9_5 x10_5)) = some (r1, r2, r3, r4, r5) := by rw [if_neg (show ¬ (false = true) by decide)] at H; exact H
                      clear H
                      have H := H1
                      clear H1
                      by_cases c33 : x8_5 = (wrap64 (x8_6 + 1))
                      ·rw [if_pos c33] at H
                       have c33b0 := beq_iff_eq.mpr c33
                       have c33b1 := bne_eq_false_iff_eq.mpr c33
                       clear c33
                       simp only [Option.some.injEq, Prod.mk.injEq] at H
                       obtain ⟨rfl, rfl, rfl, rfl, rfl⟩ := H
                       have p26 : 0 ≤ (x8_5 : Int) := sqD
                       have q26 : x8_5 < (a0.size : Int) := sqD
                       have hx26 := bt_at a0 x8_5
                       replace p26 := eq_true p26
                       replace q26 := eq_true q26
                       go_wp2_with (first | (go_at_call 60; (with_reducible refine (endonymref2_digit.calls (bt a0 x8_5) false _ A27.out).mono ?_); rintro e w' ⟨rfl, ⟨nd, rfl⟩⟩))
                       refine bodyPost_ret (results_list (rs := [.tmp 2, .tmp 3, .tmp 4, .tmp 5, .tmp 6]) rfl (by simp) (.tmp (.tmp (.tmp (.tmp (.tmp .nil)))))) rfl ?_
                       exact ⟨by first | (exact absurd ‹decide ((-400) ≤ 0) = false› (by decide)) | rfl | (simp; done) | (simp [wrap64]; done) | (simp [*]; done), sqW⟩
                      rw [if_neg c33] at H
                      have c33b0 := beq_eq_false_iff_ne.mpr c33
                      have c33b1 := bne_iff_ne.mpr c33
                      have H' := Aside0.mk H
                      clear H
                      have p26 : 0 ≤ (x8_5 : Int) := sqD
                      have q26 : x8_5 < (a0.size : Int) := sqD
                      have hx26 := bt_at a0 x8_5
                      replace p26 := eq_true p26
                      replace q26 := eq_true q26
                      go_wp2_with (first | (go_at_call 60; (with_reducible refine (endonymref2_digit.calls (bt a0 x8_5) false _ A27.out).mono ?_); rintro e w' ⟨rfl, ⟨nd, rfl⟩⟩))
                      go_meet
                      case rel => exact ⟨_, (x8_5), (x9_5), (x10_5), (by first | rfl | (simp; done) | (simp [wrap64]; done) | (simp [*]; done)), (by first | rfl | (simp; done) | (simp [wrap64]; done) | (simp [*]; done)), (by first | rfl | (simp; done) | (simp [wrap64]; done) | (simp [*]; done)), H', ⟨by have := HJ1.out; have := HJ4.out; have := HJ6.out; have := HJ17.out; have := HK5.out; first | omega | exact Nat.le_refl _⟩, sqW⟩
                   rw [if_neg c24] at H
                   have c24b0 := decide_eq_false c24
                   clear c24
                   (first | rw [c24b0] | (simp only [i64_w, i32_w]; rw [c24b0]) | skip)
                   by_cases c34 : x8_5 = (wrap64 (x8_6 + 1))
                   ·rw [if_pos c34] at H
                    have c34b0 := beq_iff_eq.mpr c34
                    have c34b1 := bne_eq_false_iff_eq.mpr c34
                    clear c34
                    simp only [Option.some.injEq, Prod.mk.injEq] at H
                    obtain ⟨rfl, rfl, rfl, rfl, rfl⟩ := H
                    go_wp2
                    refine bodyPost_ret (results_list (rs := [.tmp 2, .tmp 3, .tmp 4, .tmp 5, .tmp 6]) rfl (by simp) (.tmp (.tmp (.tmp (.tmp (.tmp .nil)))))) rfl ?_
                    exact ⟨by first | (exact absurd ‹decide ((-400) ≤ 0) = false› (by decide)) | rfl | (simp; done) | (simp [wrap64]; done) | (simp [*]; done), sqW⟩
                   rw [if_neg c34] at H
                   have c34b0 := beq_eq_false_iff_ne.mpr c34
                   have c34b1 := bne_iff_ne.mpr c34
                   have H' := Aside0.mk H
                   clear H
                   go_wp2
                   go_meet
                   case rel => exact ⟨_, (x8_5), (x9_5), (x10_5), (by first | rfl | (simp; done) | (simp [wrap64]; done) | (simp [*]; done)), (by first | rfl | (simp; done) | (simp [wrap64]; done) | (simp [*]; done)), (by first | rfl | (simp; done) | (simp [wrap64]; done) | (simp [*]; done)), H', ⟨by have := HJ1.out; have := HJ4.out; have := HJ6.out; have := HJ17.out; have := HK5.out; first | omega | exact Nat.le_refl _⟩, sqW⟩
               replace c23 := Bool.eq_false_iff.mpr c23
               subst c23
               have H1 : (endonymref2_Read.j6 kj17 a0 x7_4 x8_6 x9_6 0) = some (r1, r2, r3, r4, r5) := by rw [if_neg (show ¬ (false = true) by decide)] at H; exact H
               clear H
               have H := H1
               clear H1
               have H' := Aside0.mk H
               clear H
               go_wp2
               go_meet
               case rel => exact ⟨_, (x8_6), (x9_6), (0), (by first | rfl | (simp; done) | (simp [wrap64]; done) | (simp [*]; done)), (by first | rfl | (simp; done) | (simp [wrap64]; done) | (simp [*]; done)), (by first | rfl | (simp; done) | (simp [wrap64]; done) | (simp [*]; done)), H', ⟨by have := HJ1.out; have := HJ4.out; have := HJ6.out; have := HJ17.out; first | omega | exact Nat.le_refl _⟩, sqW⟩
              case rest =>
               as_aux_lemma =>
                clear HC22
                try clear c1
                try clear p1
                try clear q1
                try clear hx1
                try clear c2
                try clear p2
                try clear q2
                try clear hx2
                try clear c3
                try clear c3b0
                try clear c3b1
                try clear c4
                try clear p4
                try clear q4
                try clear hx4
                try clear qi4
                try clear c6
                try clear p6
                try clear c8
                try clear c8b0
                try clear c9
                try clear c9b0
                try clear p10
                try clear q10
                try clear hx10
                try clear c12
                try clear c13
                try clear c13b0
                try clear c14
                try clear c14b0
                try clear c14b1
                try clear c15
                try clear c15b0
                try clear c15b1
                try clear c16
                try clear c16b0
                try clear c16b1
                try clear c16b2
                try clear c17
                try clear c17b0
                try clear c17b1
                try clear c19
                try clear c19b0
                try clear c20
                try clear c20b0
                try clear p21
                try clear q21
                try clear hx21
                try clear c23
                try clear c24
                try clear c24b0
                try clear c25
                try clear c25b0
                try clear p26
                try clear q26
                try clear hx26
                try clear c28
                try clear c29
                try clear c29b0
                try clear c30
                try clear c30b0
                try clear c30b1
                try clear c31
                try clear c31b0
                try clear c31b1
                try clear c32
                try clear c32b0
                try clear c32b1
                try clear c32b2
                try clear c33
                try clear c33b0
                try clear c33b1
                try clear c34
                try clear c34b0
                try clear c34b1
                try clear p1
                try clear p10
                try clear p2
                try clear p21
                try clear p26
                try clear p4
                try clear p6
                try clear q1
                try clear q10
                try clear q2
                try clear q21
                try clear q26
                try clear q4
                obtain ⟨kq, x8_21, x9_21, x10_21, rfl, rfl, rfl, HA, HJ21, ⟨mc21, rfl⟩⟩ := hcut
                cases kq with
                | zero => exact absurd HA.out (by simp [endonymref2_Read.j6])
                | succ kj21 =>
                 have H := HA.out
                 clear HA
                 simp only [endonymref2_Read.j6] at H
                 have HC35 := Aside0.mk H
                 clear H
                 go_upto_region 24 with (fail)
                 go_cut [95] (fun v95 wc => ∃ (kq : Nat) (x95_34 : Bool), v95 = .bool x95_34 ∧ Aside0 (endonymref2_Read.j7 kq a0 x7_4 x8_21 x9_21 x10_21 0 x95_34 = some (r1, r2, r3, r4, r5)) ∧ Aside0 (kq ≤ kj21) ∧ Drawn0 w wc)
                 case first =>
                  have H := HC35.out
                  clear HC35
                  by_cases c36 : x8_21 < (a0.size : Int)
                  ·rw [if_pos c36] at H
                   have c36b0 := decide_eq_true c36
                   clear c36
                   (first | rw [c36b0] | (simp only [i64_w, i32_w]; rw [c36b0]) | skip)
                   by_cases c37 : 0 ≤ x8_21
                   case neg => rw [if_neg c37] at H; exact absurd H (by simp)
                   rw [if_pos c37] at H
                   have c37b0 := decide_eq_true c37
                   clear c37
                   have H' := Aside0.mk H
                   clear H
                   have p38 : 0 ≤ (x8_21 : Int) := sqD
                   have q38 : x8_21 < (a0.size : Int) := sqD
                   have hx38 := bt_at a0 x8_21
                   replace p38 := eq_true p38
                   replace q38 := eq_true q38
                   go_wp2
                   go_meet
                   case rel => exact ⟨_, (((bt a0 x8_21) == 101)), (by first | rfl | (simp; done) | (simp [wrap64]; done) | (simp [*]; done)), H', ⟨by have := HJ1.out; have := HJ4.out; have := HJ6.out; have := HJ17.out; have := HJ21.out; first | omega | exact Nat.le_refl _⟩, sqW⟩
                  rw [if_neg c36] at H
                  have c36b0 := decide_eq_false c36
                  clear c36
                  (first | rw [c36b0] | (simp only [i64_w, i32_w]; rw [c36b0]) | skip)
                  have H' := Aside0.mk H
                  clear H
                  go_wp2
                  go_meet
                  case rel => exact ⟨_, (false), (by first | rfl | (simp; done) | (simp [wrap64]; done) | (simp [*]; done)), H', ⟨by have := HJ1.out; have := HJ4.out; have := HJ6.out; have := HJ17.out; have := HJ21.out; first | omega | exact Nat.le_refl _⟩, sqW⟩
                 case rest =>
                  as_aux_lemma =>
                   clear HC35
                   try clear c1
                   try clear p1
                   try clear q1
                   try clear hx1
                   try clear c2
                   try clear p2
                   try clear q2
                   try clear hx2
                   try clear c3
                   try clear c3b0
                   try clear c3b1
                   try clear p3
                   try clear q3
                   try clear hx3
                   try clear c4
                   try clear p4
                   try clear q4
                   try clear hx4
                   try clear qi4
                   try clear c6
                   try clear p6
                   try clear c8
                   try clear c8b0
                   try clear c9
                   try clear c9b0
                   try clear p10
                   try clear q10
                   try clear hx10
                   try clear c12
                   try clear c13
                   try clear c13b0
                   try clear c14
                   try clear c14b0
                   try clear c14b1
                   try clear c15
                   try clear c15b0
                   try clear c15b1
                   try clear c16
                   try clear c16b0
                   try clear c16b1
                   try clear c16b2
                   try clear c17
                   try clear c17b0
                   try clear c17b1
                   try clear c19
                   try clear c19b0
                   try clear c20
                   try clear c20b0
                   try clear c21
                   try clear p21
                   try clear q21
                   try clear hx21
                   try clear c23
                   try clear c24
                   try clear c24b0
                   try clear c25
                   try clear c25b0
                   try clear p26
                   try clear q26
                   try clear hx26
                   try clear c28
                   try clear c29
                   try clear c29b0
                   try clear c30
                   try clear c30b0
                   try clear c30b1
                   try clear c31
                   try clear c31b0
                   try clear c31b1
                   try clear c32
                   try clear c32b0
                   try clear c32b1
                   try clear c32b2
                   try clear c33
                   try clear c33b0
                   try clear c33b1
                   try clear c34
                   try clear c34b0
                   try clear c34b1
                   try clear c36
                   try clear c36b0
                   try clear c37
                   try clear c37b0
                   try clear p38
                   try clear q38
                   try clear hx38
                   try clear p1
                   try clear p10
                   try clear p2
                   try clear p21
                   try clear p26
                   try clear p38
                   try clear p4
                   try clear p6
                   try clear q1
                   try clear q10
                   try clear q2
                   try clear q21
                   try clear q26
                   try clear q38
                   try clear q4
                   obtain ⟨kq, x95_34, rfl, HA, HJ34, ⟨mc34, rfl⟩⟩ := hcut
                   cases kq with
                   | zero => exact absurd HA.out (by simp [endonymref2_Read.j7])
                   | succ kj34 =>
                    have H := HA.out
                    clear HA
                    simp only [endonymref2_Read.j7] at H
                    by_cases c39 : x95_34 = true
                    ·subst c39
                     have H1 : (if (wrap64 (x8_21 + 1)) < (a0.size : Int) then (if 0 ≤ (wrap64 (x8_21 + 1)) then (endonymref2_Read.j8 kj34 a0 x7_4 (wrap64 (x8_21 + 1)) x9_21 x10_21 0 ((bt a0 (wrap64 (x8_21 + 1))) == 45)) else (none)) else (endonymref2_Read.j8 kj34 a0 x7_4 (wrap64 (x8_21 + 1)) x9_21 x10_21 0 false)) = some (r1, r2, r3, r4, r5) := by rw [if_pos rfl] at H; exact H
                     clear H
                     have H := H1
                     clear H1
                     have HC40 := Aside0.mk H
                     clear H
                     go_upto_region 26 with (fail)
                     go_cut [13] (fun v13 wc => ∃ (kq : Nat) (x13_39 : Bool), v13 = .bool x13_39 ∧ Aside0 (endonymref2_Read.j8 kq a0 x7_4 (wrap64 (x8_21 + 1)) x9_21 x10_21 0 x13_39 = some (r1, r2, r3, r4, r5)) ∧ Aside0 (kq ≤ kj34) ∧ Drawn0 w wc)
                     case first =>
                      have H := HC40.out
                      clear HC40
                      by_cases c41 : (wrap64 (x8_21 + 1)) < (a0.size : Int)
                      ·rw [if_pos c41] at H
                       have c41b0 := decide_eq_true c41
                       clear c41
                       (first | rw [c41b0] | (simp only [i64_w, i32_w]; rw [c41b0]) | skip)
                       obtain ⟨ji42, hji42⟩ : ∃ j_ : Int, (wrap64 (x8_21 + 1)) = j_ := ⟨_, rfl⟩
                       replace H : (if 0 ≤ (ji42) then (endonymref2_Read.j8 kj34 a0 x7_4 ji42 x9_21 x10_21 0 ((bt a0 (ji42)) == 45)) else (none)) = some (r1, r2, r3, r4, r5) := by first | (rw [hji42] at H; exact H) | (simp only [hji42] at H ⊢; exact H)
                       (try rw [hji42] at c41b0)
                       have hji42w : (IntKind.i64.wrap (x8_21 + 1)) = ji42 := (i64_w _).trans hji42
                       by_cases c43 : 0 ≤ (ji42)
                       case neg => rw [if_neg c43] at H; exact absurd H (by simp)
                       rw [if_pos c43] at H
                       have c43b0 := decide_eq_true c43
                       clear c43
                       (try rw [← hji42] at H); have H' := Aside0.mk H
                       clear H
                       have p44 : 0 ≤ ((ji42) : Int) := sqD
                       have q44 : (ji42) < (a0.size : Int) := sqD
                       have hx44 := bt_at a0 (ji42)
                       replace p44 := eq_true p44
                       replace q44 := eq_true q44
                       go_wp2
                       go_meet
                       case rel => exact ⟨_, ((bt a0 (wrap64 (x8_21 + 1))) == 45), (by first | rfl | (simp; done) | (simp only [← hji42] <;> (first | rfl | simp)) | (simp [*]; done)), H', ⟨by have := HJ1.out; have := HJ4.out; have := HJ6.out; have := HJ17.out; have := HJ21.out; have := HJ34.out; first | omega | exact Nat.le_refl _⟩, sqW⟩
                      rw [if_neg c41] at H
                      have c41b0 := decide_eq_false c41
                      clear c41
                      (first | rw [c41b0] | (simp only [i64_w, i32_w]; rw [c41b0]) | skip)
                      have H' := Aside0.mk H
                      clear H
                      go_wp2
                      go_meet
                      case rel => exact ⟨_, (false), (by first | rfl | (simp; done) | (simp [wrap64]; done) | (simp [*]; done)), H', ⟨by have := HJ1.out; have := HJ4.out; have := HJ6.out; have := HJ17.out; have := HJ21.out; have := HJ34.out; first | omega | exact Nat.le_refl _⟩, sqW⟩
                     case rest =>
                      as_aux_lemma =>
                       clear HC40
                       try clear c1
                       try clear p1
                       try clear q1
                       try clear hx1
                       try clear c2
                       try clear p2
                       try clear q2
                       try clear hx2
                       try clear c3
                       try clear c3b0
                       try clear c3b1
                       try clear p3
                       try clear q3
                       try clear hx3
                       try clear c4
                       try clear p4
                       try clear q4
                       try clear hx4
                       try clear qi4
                       try clear c6
                       try clear p6
                       try clear c8
                       try clear c8b0
                       try clear c9
                       try clear c9b0
                       try clear p10
                       try clear q10
                       try clear hx10
                       try clear c12
                       try clear c13
                       try clear c13b0
                       try clear c14
                       try clear c14b0
                       try clear c14b1
                       try clear c15
                       try clear c15b0
                       try clear c15b1
                       try clear c16
                       try clear c16b0
                       try clear c16b1
                       try clear c16b2
                       try clear c17
                       try clear c17b0
                       try clear c17b1
                       try clear c19
                       try clear c19b0
                       try clear c20
                       try clear c20b0
                       try clear c21
                       try clear p21
                       try clear q21
                       try clear hx21
                       try clear c23
                       try clear c24
                       try clear c24b0
                       try clear c25
                       try clear c25b0
                       try clear p26
                       try clear q26
                       try clear hx26
                       try clear c28
                       try clear c29
                       try clear c29b0
                       try clear c30
                       try clear c30b0
                       try clear c30b1
                       try clear c31
                       try clear c31b0
                       try clear c31b1
                       try clear c32
                       try clear c32b0
                       try clear c32b1
                       try clear c32b2
                       try clear c33
                       try clear c33b0
                       try clear c33b1
                       try clear c34
                       try clear c34b0
                       try clear c34b1
                       try clear c36
                       try clear c36b0
                       try clear c37
                       try clear c37b0
                       try clear p38
                       try clear q38
                       try clear hx38
                       try clear c39
                       try clear c41
                       try clear c41b0
                       try clear c43
                       try clear c43b0
                       try clear p44
                       try clear q44
                       try clear hx44
                       try clear p1
                       try clear p10
                       try clear p2
                       try clear p21
                       try clear p26
                       try clear p3
                       try clear p38
                       try clear p4
                       try clear p44
                       try clear p6
                       try clear q1
                       try clear q10
                       try clear q2
                       try clear q21
                       try clear q26
                       try clear q3
                       try clear q38
                       try clear q4
                       try clear q44
                       obtain ⟨kq, x13_39, rfl, HA, HJ39, ⟨mc39, rfl⟩⟩ := hcut
                       cases kq with
                       | zero => exact absurd HA.out (by simp [endonymref2_Read.j8])
                       | succ kj39 =>
                        have H := HA.out
                        clear HA
                        simp only [endonymref2_Read.j8] at H
                        have HC45 := Aside0.mk H
                        clear H
                        go_upto_if 108 with (fail)
                        go_cut [8] (fun v8 wc => ∃ (kq : Nat) (x8_44 : Int), v8 = .int .i64 x8_44 ∧ Aside0 (endonymref2_Read.j9 kq a0 x7_4 x8_44 x9_21 x10_21 0 x13_39 = some (r1, r2, r3, r4, r5)) ∧ Aside0 (kq ≤ kj39) ∧ Drawn0 w wc)
                        case first =>
                         have H := HC45.out
                         clear HC45
                         by_cases c46 : x13_39 = true
                         ·subst c46
                          have H1 : (endonymref2_Read.j9 kj39 a0 x7_4 (wrap64 ((wrap64 (x8_21 + 1)) + 1)) x9_21 x10_21 0 true) = some (r1, r2, r3, r4, r5) := by rw [if_pos rfl] at H; exact H
                          clear H
                          have H := H1
                          clear H1
                          have H' := Aside0.mk H
                          clear H
                          go_wp2
                          go_meet
                          case rel => exact ⟨_, (wrap64 ((wrap64 (x8_21 + 1)) + 1)), (by first | rfl | (simp; done) | (simp [wrap64]; done) | (simp [*]; done)), H', ⟨by have := HJ1.out; have := HJ4.out; have := HJ6.out; have := HJ17.out; have := HJ21.out; have := HJ34.out; have := HJ39.out; first | omega | exact Nat.le_refl _⟩, sqW⟩
                         replace c46 := Bool.eq_false_iff.mpr c46
                         subst c46
                         have H1 : (endonymref2_Read.j9 kj39 a0 x7_4 (wrap64 (x8_21 + 1)) x9_21 x10_21 0 false) = some (r1, r2, r3, r4, r5) := by rw [if_neg (show ¬ (false = true) by decide)] at H; exact H
                         clear H
                         have H := H1
                         clear H1
                         have H' := Aside0.mk H
                         clear H
                         go_wp2
                         go_meet
                         case rel => exact ⟨_, ((wrap64 (x8_21 + 1))), (by first | rfl | (simp; done) | (simp [wrap64]; done) | (simp [*]; done)), H', ⟨by have := HJ1.out; have := HJ4.out; have := HJ6.out; have := HJ17.out; have := HJ21.out; have := HJ34.out; have := HJ39.out; first | omega | exact Nat.le_refl _⟩, sqW⟩
                        case rest =>
                         as_aux_lemma =>
                          clear HC45
                          try clear c1
                          try clear p1
                          try clear q1
                          try clear hx1
                          try clear c2
                          try clear p2
                          try clear q2
                          try clear hx2
                          try clear c3
                          try clear c3b0
                          try clear c3b1
                          try clear p3
                          try clear q3
                          try clear hx3
                          try clear c4
                          try clear p4
                          try clear q4
                          try clear hx4
                          try clear qi4
                          try clear c6
                          try clear p6
                          try clear c8
                          try clear c8b0
                          try clear c9
                          try clear c9b0
                          try clear p10
                          try clear q10
                          try clear hx10
                          try clear c12
                          try clear c13
                          try clear c13b0
                          try clear c14
                          try clear c14b0
                          try clear c14b1
                          try clear c15
                          try clear c15b0
                          try clear c15b1
                          try clear c16
                          try clear c16b0
                          try clear c16b1
                          try clear c16b2
                          try clear c17
                          try clear c17b0
                          try clear c17b1
                          try clear c19
                          try clear c19b0
                          try clear c20
                          try clear c20b0
                          try clear c21
                          try clear p21
                          try clear q21
                          try clear hx21
                          try clear c23
                          try clear c24
                          try clear c24b0
                          try clear c25
                          try clear c25b0
                          try clear p26
                          try clear q26
                          try clear hx26
                          try clear c28
                          try clear c29
                          try clear c29b0
                          try clear c30
                          try clear c30b0
                          try clear c30b1
                          try clear c31
                          try clear c31b0
                          try clear c31b1
                          try clear c32
                          try clear c32b0
                          try clear c32b1
                          try clear c32b2
                          try clear c33
                          try clear c33b0
                          try clear c33b1
                          try clear c34
                          try clear c34b0
                          try clear c34b1
                          try clear c36
                          try clear c36b0
                          try clear c37
                          try clear c37b0
                          try clear p38
                          try clear q38
                          try clear hx38
                          try clear c39
                          try clear c41
                          try clear c41b0
                          try clear c43
                          try clear c43b0
                          try clear p44
                          try clear q44
                          try clear hx44
                          try clear c46
                          try clear p1
                          try clear p10
                          try clear p2
                          try clear p21
                          try clear p26
                          try clear p3
                          try clear p38
                          try clear p4
                          try clear p44
                          try clear p6
                          try clear q1
                          try clear q10
                          try clear q2
                          try clear q21
                          try clear q26
                          try clear q3
                          try clear q38
                          try clear q4
                          try clear q44
                          obtain ⟨kq, x8_44, rfl, HA, HJ44, ⟨mc44, rfl⟩⟩ := hcut
                          cases kq with
                          | zero => exact absurd HA.out (by simp [endonymref2_Read.j9])
                          | succ kj44 =>
                           have H := HA.out
                           clear HA
                           simp only [endonymref2_Read.j9] at H
                           have HC47 := Aside0.mk H
                           clear H
                           go_upto_block 4 with (fail)
                           go_cut [8, 12] (fun v8 v12 wc => ∃ (kq : Nat) (x8_46 : Int) (x12_46 : Int), v8 = .int .i64 x8_46 ∧ v12 = .int .i64 x12_46 ∧ Aside0 (endonymref2_Read.j11 kq a0 x7_4 x8_46 x9_21 x10_21 x8_44 x12_46 x13_39 = some (r1, r2, r3, r4, r5)) ∧ Aside0 (kq ≤ kj44) ∧ Drawn0 w wc)
                           case first =>
                            have H := HC47.out
                            clear HC47
                            have H' := Aside0.mk H
                            clear H
                            go_wp2
                            go_loopg [8, 12] kj44 (fun kq v8 v12 w' => ∃ (x8_9 : Int) (x12_9 : Int), v8 = .int .i64 x8_9 ∧ v12 = .int .i64 x12_9 ∧ Aside0 (endonymref2_Read.l2 kq a0 x7_4 x8_9 x9_21 x10_21 x8_44 x12_9 x13_39 = some (r1, r2, r3, r4, r5)) ∧ Aside0 (kq ≤ kj44) ∧ Drawn0 w w')
                            case atStart => exact ⟨(x8_44), (0), (by first | rfl | (simp; done) | (simp [wrap64]; done) | (simp [*]; done)), (by first | rfl | (simp; done) | (simp [wrap64]; done) | (simp [*]; done)), H', ⟨Nat.le_refl _⟩, sqW⟩
                            case round =>
                             as_aux_lemma =>
                              clear H'
                              try clear c1
                              try clear p1
                              try clear q1
                              try clear hx1
                              try clear c2
                              try clear p2
                              try clear q2
                              try clear hx2
                              try clear c3
                              try clear c3b0
                              try clear c3b1
                              try clear p3
                              try clear q3
                              try clear hx3
                              try clear c4
                              try clear p4
                              try clear q4
                              try clear hx4
                              try clear qi4
                              try clear c6
                              try clear p6
                              try clear c8
                              try clear c8b0
                              try clear c9
                              try clear c9b0
                              try clear p10
                              try clear q10
                              try clear hx10
                              try clear c12
                              try clear c13
                              try clear c13b0
                              try clear c14
                              try clear c14b0
                              try clear c14b1
                              try clear c15
                              try clear c15b0
                              try clear c15b1
                              try clear c16
                              try clear c16b0
                              try clear c16b1
                              try clear c16b2
                              try clear c17
                              try clear c17b0
                              try clear c17b1
                              try clear c19
                              try clear c19b0
                              try clear c20
                              try clear c20b0
                              try clear c21
                              try clear p21
                              try clear q21
                              try clear hx21
                              try clear c23
                              try clear c24
                              try clear c24b0
                              try clear c25
                              try clear c25b0
                              try clear p26
                              try clear q26
                              try clear hx26
                              try clear c28
                              try clear c29
                              try clear c29b0
                              try clear c30
                              try clear c30b0
                              try clear c30b1
                              try clear c31
                              try clear c31b0
                              try clear c31b1
                              try clear c32
                              try clear c32b0
                              try clear c32b1
                              try clear c32b2
                              try clear c33
                              try clear c33b0
                              try clear c33b1
                              try clear c34
                              try clear c34b0
                              try clear c34b1
                              try clear c36
                              try clear c36b0
                              try clear c37
                              try clear c37b0
                              try clear p38
                              try clear q38
                              try clear hx38
                              try clear c39
                              try clear c41
                              try clear c41b0
                              try clear c43
                              try clear c43b0
                              try clear c44
                              try clear p44
                              try clear q44
                              try clear hx44
                              try clear c46
                              try clear p1
                              try clear p10
                              try clear p2
                              try clear p21
                              try clear p26
                              try clear p3
                              try clear p38
                              try clear p4
                              try clear p44
                              try clear p6
                              try clear q1
                              try clear q10
                              try clear q2
                              try clear q21
                              try clear q26
                              try clear q3
                              try clear q38
                              try clear q4
                              try clear q44
                              obtain ⟨x8_9, x12_9, rfl, rfl, HA, HK9, ⟨m9, rfl⟩⟩ := hrel
                              cases gk with
                              | zero => exact absurd HA.out (by simp [endonymref2_Read.l2])
                              | succ k9 =>
                               have H := HA.out
                               clear HA
                               simp only [endonymref2_Read.l2] at H
                               by_cases c48 : x8_9 < (a0.size : Int)
                               ·as_aux_lemma =>
                                 rw [if_pos c48] at H
                                 have c48b0 := decide_eq_true c48
                                 clear c48
                                 (first | rw [c48b0] | (simp only [i64_w, i32_w]; rw [c48b0]) | skip)
                                 by_cases c49 : 0 ≤ x8_9
                                 case neg => rw [if_neg c49] at H; exact absurd H (by simp)
                                 rw [if_pos c49] at H
                                 have c49b0 := decide_eq_true c49
                                 clear c49
                                 replace H := Option.bind_eq_some_iff.mp H
                                 obtain ⟨t232, A510, H⟩ := H
                                 try dsimp only at H
                                 have A51 := Aside0.mk A510
                                 clear A510
                                 by_cases c52 : t232 = true
                                 ·subst c52
                                  have H1 : (if (wrap64 (x8_9 - x8_44)) < 4 then (endonymref2_Read.l2 k9 a0 x7_4 (wrap64 (x8_9 + 1)) x9_21 x10_21 x8_44 (wrap64 ((wrap64 (10 * x12_9)) + (((bt a0 x8_9) - 48) % 256))) x13_39) else (endonymref2_Read.j11 k9 a0 x7_4 x8_9 x9_21 x10_21 x8_44 x12_9 x13_39)) = some (r1, r2, r3, r4, r5) := by rw [if_pos rfl] at H; exact H
                                  clear H
                                  have H := H1
                                  clear H1
                                  by_cases c53 : (wrap64 (x8_9 - x8_44)) < 4
                                  ·rw [if_pos c53] at H
                                   have c53b0 := decide_eq_true c53
                                   clear c53
                                   have H' := Aside0.mk H
                                   clear H
                                   have p50 : 0 ≤ (x8_9 : Int) := sqD
                                   have q50 : x8_9 < (a0.size : Int) := sqD
                                   have hx50 := bt_at a0 x8_9
                                   replace p50 := eq_true p50
                                   replace q50 := eq_true q50
                                   go_wp2_with (first | (go_at_call 60; (with_reducible refine (endonymref2_digit.calls (bt a0 x8_9) true _ A51.out).mono ?_); rintro e w' ⟨rfl, ⟨nd, rfl⟩⟩; have p54 : 0 ≤ (x8_9 : Int) := sqD; have q54 : x8_9 < (a0.size : Int) := sqD; have hx54 := bt_at a0 x8_9; replace p54 := eq_true p54; replace q54 := eq_true q54))
                                   go_roundg k9
                                   case measure => have := HJ1.out; have := HJ4.out; have := HJ6.out; have := HJ17.out; have := HJ21.out; have := HJ34.out; have := HJ39.out; have := HJ44.out; have := HK9.out; omega
                                   case rel => exact ⟨(wrap64 (x8_9 + 1)), (wrap64 ((wrap64 (10 * x12_9)) + (((bt a0 x8_9) - 48) % 256))), (by first | rfl | (simp; done) | (simp [wrap64]; done) | (simp [*]; done)), (by first | rfl | (simp; done) | (simp [wrap64]; done) | (simp [*]; done)), H', ⟨by have := HJ1.out; have := HJ4.out; have := HJ6.out; have := HJ17.out; have := HJ21.out; have := HJ34.out; have := HJ39.out; have := HJ44.out; have := HK9.out; omega⟩, sqW⟩
                                  rw [if_neg c53] at H
                                  have c53b0 := decide_eq_false c53
                                  clear c53
                                  have H' := Aside0.mk H
                                  clear H
                                  have p50 : 0 ≤ (x8_9 : Int) := sqD
                                  have q50 : x8_9 < (a0.size : Int) := sqD
                                  have hx50 := bt_at a0 x8_9
                                  replace p50 := eq_true p50
                                  replace q50 := eq_true q50
                                  go_wp2_with (first | (go_at_call 60; (with_reducible refine (endonymref2_digit.calls (bt a0 x8_9) true _ A51.out).mono ?_); rintro e w' ⟨rfl, ⟨nd, rfl⟩⟩))
                                  go_meet
                                  case rel => exact ⟨_, (x8_9), (x12_9), (by first | rfl | (simp; done) | (simp [wrap64]; done) | (simp [*]; done)), (by first | rfl | (simp; done) | (simp [wrap64]; done) | (simp [*]; done)), H', ⟨by have := HJ1.out; have := HJ4.out; have := HJ6.out; have := HJ17.out; have := HJ21.out; have := HJ34.out; have := HJ39.out; have := HJ44.out; have := HK9.out; first | omega | exact Nat.le_refl _⟩, sqW⟩
                                 replace c52 := Bool.eq_false_iff.mpr c52
                                 subst c52
                                 have H1 : (endonymref2_Read.j11 k9 a0 x7_4 x8_9 x9_21 x10_21 x8_44 x12_9 x13_39) = some (r1, r2, r3, r4, r5) := by rw [if_neg (show ¬ (false = true) by decide)] at H; exact H
                                 clear H
                                 have H := H1
                                 clear H1
                                 have H' := Aside0.mk H
                                 clear H
                                 have p50 : 0 ≤ (x8_9 : Int) := sqD
                                 have q50 : x8_9 < (a0.size : Int) := sqD
                                 have hx50 := bt_at a0 x8_9
                                 replace p50 := eq_true p50
                                 replace q50 := eq_true q50
                                 go_wp2_with (first | (go_at_call 60; (with_reducible refine (endonymref2_digit.calls (bt a0 x8_9) false _ A51.out).mono ?_); rintro e w' ⟨rfl, ⟨nd, rfl⟩⟩))
                                 go_meet
                                 case rel => exact ⟨_, (x8_9), (x12_9), (by first | rfl | (simp; done) | (simp [wrap64]; done) | (simp [*]; done)), (by first | rfl | (simp; done) | (simp [wrap64]; done) | (simp [*]; done)), H', ⟨by have := HJ1.out; have := HJ4.out; have := HJ6.out; have := HJ17.out; have := HJ21.out; have := HJ34.out; have := HJ39.out; have := HJ44.out; have := HK9.out; first | omega | exact Nat.le_refl _⟩, sqW⟩
                               rw [if_neg c48] at H
                               have c48b0 := decide_eq_false c48
                               clear c48
                               (first | rw [c48b0] | (simp only [i64_w, i32_w]; rw [c48b0]) | skip)
                               have H' := Aside0.mk H
                               clear H
                               go_wp2
                               go_meet
                               case rel => exact ⟨_, (x8_9), (x12_9), (by first | rfl | (simp; done) | (simp [wrap64]; done) | (simp [*]; done)), (by first | rfl | (simp; done) | (simp [wrap64]; done) | (simp [*]; done)), H', ⟨by have := HJ1.out; have := HJ4.out; have := HJ6.out; have := HJ17.out; have := HJ21.out; have := HJ34.out; have := HJ39.out; have := HJ44.out; have := HK9.out; first | omega | exact Nat.le_refl _⟩, sqW⟩
                           case rest =>
                            as_aux_lemma =>
                             clear HC47
                             try clear c1
                             try clear p1
                             try clear q1
                             try clear hx1
                             try clear c2
                             try clear p2
                             try clear q2
                             try clear hx2
                             try clear c3
                             try clear c3b0
                             try clear c3b1
                             try clear p3
                             try clear q3
                             try clear hx3
                             try clear c4
                             try clear p4
                             try clear q4
                             try clear hx4
                             try clear qi4
                             try clear c5
                             try clear p5
                             try clear q5
                             try clear hx5
                             try clear c6
                             try clear p6
                             try clear c8
                             try clear c8b0
                             try clear c9
                             try clear c9b0
                             try clear p10
                             try clear q10
                             try clear hx10
                             try clear c12
                             try clear c13
                             try clear c13b0
                             try clear c14
                             try clear c14b0
                             try clear c14b1
                             try clear c15
                             try clear c15b0
                             try clear c15b1
                             try clear c16
                             try clear c16b0
                             try clear c16b1
                             try clear c16b2
                             try clear c17
                             try clear c17b0
                             try clear c17b1
                             try clear c19
                             try clear c19b0
                             try clear c20
                             try clear c20b0
                             try clear c21
                             try clear p21
                             try clear q21
                             try clear hx21
                             try clear c23
                             try clear c24
                             try clear c24b0
                             try clear c25
                             try clear c25b0
                             try clear p26
                             try clear q26
                             try clear hx26
                             try clear c28
                             try clear c29
                             try clear c29b0
                             try clear c30
                             try clear c30b0
                             try clear c30b1
                             try clear c31
                             try clear c31b0
                             try clear c31b1
                             try clear c32
                             try clear c32b0
                             try clear c32b1
                             try clear c32b2
                             try clear c33
                             try clear c33b0
                             try clear c33b1
                             try clear c34
                             try clear c34b0
                             try clear c34b1
                             try clear c36
                             try clear c36b0
                             try clear c37
                             try clear c37b0
                             try clear p38
                             try clear q38
                             try clear hx38
                             try clear c39
                             try clear c41
                             try clear c41b0
                             try clear c43
                             try clear c43b0
                             try clear c44
                             try clear p44
                             try clear q44
                             try clear hx44
                             try clear c46
                             try clear c48
                             try clear c48b0
                             try clear c49
                             try clear c49b0
                             try clear p50
                             try clear q50
                             try clear hx50
                             try clear c52
                             try clear c53
                             try clear c53b0
                             try clear p54
                             try clear q54
                             try clear hx54
                             try clear p1
                             try clear p10
                             try clear p2
                             try clear p21
                             try clear p26
                             try clear p3
                             try clear p38
                             try clear p4
                             try clear p44
                             try clear p50
                             try clear p54
                             try clear p6
                             try clear q1
                             try clear q10
                             try clear q2
                             try clear q21
                             try clear q26
                             try clear q3
                             try clear q38
                             try clear q4
                             try clear q44
                             try clear q50
                             try clear q54
                             obtain ⟨kq, x8_46, x12_46, rfl, rfl, HA, HJ46, ⟨mc46, rfl⟩⟩ := hcut
                             cases kq with
                             | zero => exact absurd HA.out (by simp [endonymref2_Read.j11])
                             | succ kj46 =>
                              have H := HA.out
                              clear HA
                              simp only [endonymref2_Read.j11] at H
                              have HC55 := Aside0.mk H
                              clear H
                              go_upto_region 33 with (fail)
                              go_cut [146] (fun v146 wc => ∃ (kq : Nat) (x146_54 : Bool), v146 = .bool x146_54 ∧ Aside0 (endonymref2_Read.j12 kq a0 x7_4 x8_46 x9_21 x10_21 x12_46 x13_39 x146_54 = some (r1, r2, r3, r4, r5)) ∧ Aside0 (kq ≤ kj46) ∧ Drawn0 w wc)
                              case first =>
                               have H := HC55.out
                               clear HC55
                               by_cases c56 : x8_46 = x8_44
                               ·rw [if_pos c56] at H
                                have c56b0 := beq_iff_eq.mpr c56
                                have c56b1 := bne_eq_false_iff_eq.mpr c56
                                clear c56
                                (first | rw [c56b0] | (simp only [i64_w, i32_w]; rw [c56b0]) | skip)
                                have H' := Aside0.mk H
                                clear H
                                go_wp2
                                go_meet
                                case rel => exact ⟨_, (true), (by first | rfl | (simp; done) | (simp [wrap64]; done) | (simp [*]; done)), H', ⟨by have := HJ1.out; have := HJ4.out; have := HJ6.out; have := HJ17.out; have := HJ21.out; have := HJ34.out; have := HJ39.out; have := HJ44.out; have := HJ46.out; first | omega | exact Nat.le_refl _⟩, sqW⟩
                               rw [if_neg c56] at H
                               have c56b0 := beq_eq_false_iff_ne.mpr c56
                               have c56b1 := bne_iff_ne.mpr c56
                               (first | rw [c56b0] | (simp only [i64_w, i32_w]; rw [c56b0]) | skip)
                               have H' := Aside0.mk H
                               clear H
                               go_wp2
                               go_meet
                               case rel => exact ⟨_, (decide ((wrap64 (x8_46 - x8_44)) > 3)), (by first | rfl | (simp; done) | (simp [wrap64]; done) | (simp [*]; done)), H', ⟨by have := HJ1.out; have := HJ4.out; have := HJ6.out; have := HJ17.out; have := HJ21.out; have := HJ34.out; have := HJ39.out; have := HJ44.out; have := HJ46.out; first | omega | exact Nat.le_refl _⟩, sqW⟩
                              case rest =>
                               as_aux_lemma =>
                                clear HC55
                                try clear c1
                                try clear p1
                                try clear q1
                                try clear hx1
                                try clear c2
                                try clear p2
                                try clear q2
                                try clear hx2
                                try clear c3
                                try clear c3b0
                                try clear c3b1
                                try clear p3
                                try clear q3
                                try clear hx3
                                try clear c4
                                try clear p4
                                try clear q4
                                try clear hx4
                                try clear qi4
                                try clear c5
                                try clear p5
                                try clear q5
                                try clear hx5
                                try clear c6
                                try clear p6
                                try clear c8
                                try clear c8b0
                                try clear c9
                                try clear c9b0
                                try clear p10
                                try clear q10
                                try clear hx10
                                try clear c12
                                try clear c13
                                try clear c13b0
                                try clear c14
                                try clear c14b0
                                try clear c14b1
                                try clear c15
                                try clear c15b0
                                try clear c15b1
                                try clear c16
                                try clear c16b0
                                try clear c16b1
                                try clear c16b2
                                try clear c17
                                try clear c17b0
                                try clear c17b1
                                try clear c19
                                try clear c19b0
                                try clear c20
                                try clear c20b0
                                try clear c21
                                try clear p21
                                try clear q21
                                try clear hx21
                                try clear c23
                                try clear c24
                                try clear c24b0
                                try clear c25
                                try clear c25b0
                                try clear p26
                                try clear q26
                                try clear hx26
                                try clear c28
                                try clear c29
                                try clear c29b0
                                try clear c30
                                try clear c30b0
                                try clear c30b1
                                try clear c31
                                try clear c31b0
                                try clear c31b1
                                try clear c32
                                try clear c32b0
                                try clear c32b1
                                try clear c32b2
                                try clear c33
                                try clear c33b0
                                try clear c33b1
                                try clear c34
                                try clear c34b0
                                try clear c34b1
                                try clear c36
                                try clear c36b0
                                try clear c37
                                try clear c37b0
                                try clear p38
                                try clear q38
                                try clear hx38
                                try clear c39
                                try clear c41
                                try clear c41b0
                                try clear c43
                                try clear c43b0
                                try clear c44
                                try clear p44
                                try clear q44
                                try clear hx44
                                try clear c46
                                try clear c48
                                try clear c48b0
                                try clear c49
                                try clear c49b0
                                try clear p50
                                try clear q50
                                try clear hx50
                                try clear c52
                                try clear c53
                                try clear c53b0
                                try clear p54
                                try clear q54
                                try clear hx54
                                try clear c56
                                try clear c56b0
                                try clear c56b1
                                try clear p1
                                try clear p10
                                try clear p2
                                try clear p21
                                try clear p26
                                try clear p3
                                try clear p38
                                try clear p4
                                try clear p44
                                try clear p5
                                try clear p50
                                try clear p54
                                try clear p6
                                try clear q1
                                try clear q10
                                try clear q2
                                try clear q21
                                try clear q26
                                try clear q3
                                try clear q38
                                try clear q4
                                try clear q44
                                try clear q5
                                try clear q50
                                try clear q54
                                obtain ⟨kq, x146_54, rfl, HA, HJ54, ⟨mc54, rfl⟩⟩ := hcut
                                cases kq with
                                | zero => exact absurd HA.out (by simp [endonymref2_Read.j12])
                                | succ kj54 =>
                                 have H := HA.out
                                 clear HA
                                 simp only [endonymref2_Read.j12] at H
                                 by_cases c57 : x146_54 = true
                                 ·subst c57
                                  have H1 : (some (false, (⟨#[]⟩ : ByteArray), 0, 0, false)) = some (r1, r2, r3, r4, r5) := by rw [if_pos rfl] at H; exact H
                                  clear H
                                  have H := H1
                                  clear H1
                                  simp only [Option.some.injEq, Prod.mk.injEq] at H
                                  obtain ⟨rfl, rfl, rfl, rfl, rfl⟩ := H
                                  go_wp2
                                  refine bodyPost_ret (results_list (rs := [.tmp 2, .tmp 3, .tmp 4, .tmp 5, .tmp 6]) rfl (by simp) (.tmp (.tmp (.tmp (.tmp (.tmp .nil)))))) rfl ?_
                                  exact ⟨by first | (exact absurd ‹decide ((-400) ≤ 0) = false› (by decide)) | rfl | (simp; done) | (simp [wrap64]; done) | (simp [*]; done), sqW⟩
                                 replace c57 := Bool.eq_false_iff.mpr c57
                                 subst c57
                                 have H1 : (if x13_39 = true then (if x8_46 = (a0.size : Int) then (if (x9_21.size : Int) ≤ 17 then (if (wrap64 (-x12_46)) ≥ (-400) then (some (x7_4, x9_21, x10_21, wrap64 (-x12_46), decide ((wrap64 (-x12_46)) ≤ 400))) else (some (x7_4, x9_21, x10_21, wrap64 (-x12_46), false))) else (some (x7_4, x9_21, x10_21, wrap64 (-x12_46), false))) else (some (x7_4, x9_21, x10_21, wrap64 (-x12_46), false))) else (if x8_46 = (a0.size : Int) then (if (x9_21.size : Int) ≤ 17 then (if x12_46 ≥ (-400) then (some (x7_4, x9_21, x10_21, x12_46, decide (x12_46 ≤ 400))) else (some (x7_4, x9_21, x10_21, x12_46, false))) else (some (x7_4, x9_21, x10_21, x12_46, false))) else (some (x7_4, x9_21, x10_21, x12_46, false)))) = some (r1, r2, r3, r4, r5) := by rw [if_neg (show ¬ (false = true) by decide)] at H; exact H
                                 clear H
                                 have H := H1
                                 clear H1
                                 by_cases c58 : x13_39 = true
                                 ·subst c58
                                  have H1 : (if x8_46 = (a0.size : Int) then (if (x9_21.size : Int) ≤ 17 then (if (wrap64 (-x12_46)) ≥ (-400) then (some (x7_4, x9_21, x10_21, wrap64 (-x12_46), decide ((wrap64 (-x12_46)) ≤ 400))) else (some (x7_4, x9_21, x10_21, wrap64 (-x12_46), false))) else (some (x7_4, x9_21, x10_21, wrap64 (-x12_46), false))) else (some (x7_4, x9_21, x10_21, wrap64 (-x12_46), false))) = some (r1, r2, r3, r4, r5) := by rw [if_pos rfl] at H; exact H
                                  clear H
                                  have H := H1
                                  clear H1
                                  by_cases c59 : x8_46 = (a0.size : Int)
                                  ·rw [if_pos c59] at H
                                   have c59b0 := beq_iff_eq.mpr c59
                                   have c59b1 := bne_eq_false_iff_eq.mpr c59
                                   clear c59
                                   by_cases c60 : (x9_21.size : Int) ≤ 17
                                   ·rw [if_pos c60] at H
                                    have c60b0 := decide_eq_true c60
                                    have c60b1 : decide (x9_21.size ≤ 17) = true := decide_eq_true (by omega)
                                    clear c60
                                    by_cases c61 : (wrap64 (-x12_46)) ≥ (-400)
                                    ·rw [if_pos c61] at H
                                     have c61b0 := decide_eq_true c61
                                     clear c61
                                     simp only [Option.some.injEq, Prod.mk.injEq] at H
                                     obtain ⟨rfl, rfl, rfl, rfl, rfl⟩ := H
                                     go_wp2
                                     refine bodyPost_ret (results_list (rs := [.tmp 2, .tmp 3, .tmp 4, .tmp 5, .tmp 6]) rfl (by simp) (.tmp (.tmp (.tmp (.tmp (.tmp .nil)))))) rfl ?_
                                     exact ⟨by first | (exact absurd ‹decide ((-400) ≤ 0) = false› (by decide)) | rfl | (simp; done) | (simp [wrap64]; done) | (simp [*]; done), sqW⟩
                                    rw [if_neg c61] at H
                                    have c61b0 := decide_eq_false c61
                                    clear c61
                                    simp only [Option.some.injEq, Prod.mk.injEq] at H
                                    obtain ⟨rfl, rfl, rfl, rfl, rfl⟩ := H
                                    go_wp2
                                    refine bodyPost_ret (results_list (rs := [.tmp 2, .tmp 3, .tmp 4, .tmp 5, .tmp 6]) rfl (by simp) (.tmp (.tmp (.tmp (.tmp (.tmp .nil)))))) rfl ?_
                                    exact ⟨by first | (exact absurd ‹decide ((-400) ≤ 0) = false› (by decide)) | rfl | (simp; done) | (simp [wrap64]; done) | (simp [*]; done), sqW⟩
                                   rw [if_neg c60] at H
                                   have c60b0 := decide_eq_false c60
                                   have c60b1 : decide (x9_21.size ≤ 17) = false := decide_eq_false (by omega)
                                   clear c60
                                   simp only [Option.some.injEq, Prod.mk.injEq] at H
                                   obtain ⟨rfl, rfl, rfl, rfl, rfl⟩ := H
                                   go_wp2
                                   refine bodyPost_ret (results_list (rs := [.tmp 2, .tmp 3, .tmp 4, .tmp 5, .tmp 6]) rfl (by simp) (.tmp (.tmp (.tmp (.tmp (.tmp .nil)))))) rfl ?_
                                   exact ⟨by first | (exact absurd ‹decide ((-400) ≤ 0) = false› (by decide)) | rfl | (simp; done) | (simp [wrap64]; done) | (simp [*]; done), sqW⟩
                                  rw [if_neg c59] at H
                                  have c59b0 := beq_eq_false_iff_ne.mpr c59
                                  have c59b1 := bne_iff_ne.mpr c59
                                  simp only [Option.some.injEq, Prod.mk.injEq] at H
                                  obtain ⟨rfl, rfl, rfl, rfl, rfl⟩ := H
                                  go_wp2
                                  refine bodyPost_ret (results_list (rs := [.tmp 2, .tmp 3, .tmp 4, .tmp 5, .tmp 6]) rfl (by simp) (.tmp (.tmp (.tmp (.tmp (.tmp .nil)))))) rfl ?_
                                  exact ⟨by first | (exact absurd ‹decide ((-400) ≤ 0) = false› (by decide)) | rfl | (simp; done) | (simp [wrap64]; done) | (simp [*]; done), sqW⟩
                                 replace c58 := Bool.eq_false_iff.mpr c58
                                 subst c58
                                 have H1 : (if x8_46 = (a0.size : Int) then (if (x9_21.size : Int) ≤ 17 then (if x12_46 ≥ (-400) then (some (x7_4, x9_21, x10_21, x12_46, decide (x12_46 ≤ 400))) else (some (x7_4, x9_21, x10_21, x12_46, false))) else (some (x7_4, x9_21, x10_21, x12_46, false))) else (some (x7_4, x9_21, x10_21, x12_46, false))) = some (r1, r2, r3, r4, r5) := by rw [if_neg (show ¬ (false = true) by decide)] at H; exact H
                                 clear H
                                 have H := H1
                                 clear H1
                                 by_cases c62 : x8_46 = (a0.size : Int)
                                 ·rw [if_pos c62] at H
                                  have c62b0 := beq_iff_eq.mpr c62
                                  have c62b1 := bne_eq_false_iff_eq.mpr c62
                                  clear c62
                                  by_cases c63 : (x9_21.size : Int) ≤ 17
                                  ·rw [if_pos c63] at H
                                   have c63b0 := decide_eq_true c63
                                   have c63b1 : decide (x9_21.size ≤ 17) = true := decide_eq_true (by omega)
                                   clear c63
                                   by_cases c64 : x12_46 ≥ (-400)
                                   ·rw [if_pos c64] at H
                                    have c64b0 := decide_eq_true c64
                                    clear c64
                                    simp only [Option.some.injEq, Prod.mk.injEq] at H
                                    obtain ⟨rfl, rfl, rfl, rfl, rfl⟩ := H
                                    go_wp2
                                    refine bodyPost_ret (results_list (rs := [.tmp 2, .tmp 3, .tmp 4, .tmp 5, .tmp 6]) rfl (by simp) (.tmp (.tmp (.tmp (.tmp (.tmp .nil)))))) rfl ?_
                                    exact ⟨by first | (exact absurd ‹decide ((-400) ≤ 0) = false› (by decide)) | rfl | (simp; done) | (simp [wrap64]; done) | (simp [*]; done), sqW⟩
                                   rw [if_neg c64] at H
                                   have c64b0 := decide_eq_false c64
                                   clear c64
                                   simp only [Option.some.injEq, Prod.mk.injEq] at H
                                   obtain ⟨rfl, rfl, rfl, rfl, rfl⟩ := H
                                   go_wp2
                                   refine bodyPost_ret (results_list (rs := [.tmp 2, .tmp 3, .tmp 4, .tmp 5, .tmp 6]) rfl (by simp) (.tmp (.tmp (.tmp (.tmp (.tmp .nil)))))) rfl ?_
                                   exact ⟨by first | (exact absurd ‹decide ((-400) ≤ 0) = false› (by decide)) | rfl | (simp; done) | (simp [wrap64]; done) | (simp [*]; done), sqW⟩
                                  rw [if_neg c63] at H
                                  have c63b0 := decide_eq_false c63
                                  have c63b1 : decide (x9_21.size ≤ 17) = false := decide_eq_false (by omega)
                                  clear c63
                                  simp only [Option.some.injEq, Prod.mk.injEq] at H
                                  obtain ⟨rfl, rfl, rfl, rfl, rfl⟩ := H
                                  go_wp2
                                  refine bodyPost_ret (results_list (rs := [.tmp 2, .tmp 3, .tmp 4, .tmp 5, .tmp 6]) rfl (by simp) (.tmp (.tmp (.tmp (.tmp (.tmp .nil)))))) rfl ?_
                                  exact ⟨by first | (exact absurd ‹decide ((-400) ≤ 0) = false› (by decide)) | rfl | (simp; done) | (simp [wrap64]; done) | (simp [*]; done), sqW⟩
                                 rw [if_neg c62] at H
                                 have c62b0 := beq_eq_false_iff_ne.mpr c62
                                 have c62b1 := bne_iff_ne.mpr c62
                                 simp only [Option.some.injEq, Prod.mk.injEq] at H
                                 obtain ⟨rfl, rfl, rfl, rfl, rfl⟩ := H
                                 go_wp2
                                 refine bodyPost_ret (results_list (rs := [.tmp 2, .tmp 3, .tmp 4, .tmp 5, .tmp 6]) rfl (by simp) (.tmp (.tmp (.tmp (.tmp (.tmp .nil)))))) rfl ?_
                                 exact ⟨by first | (exact absurd ‹decide ((-400) ≤ 0) = false› (by decide)) | rfl | (simp; done) | (simp [wrap64]; done) | (simp [*]; done), sqW⟩
                    replace c39 := Bool.eq_false_iff.mpr c39
                    subst c39
                    have H1 : (if x8_21 = (a0.size : Int) then (if (x9_21.size : Int) ≤ 17 then (if 0 ≥ (-400) then (some (x7_4, x9_21, x10_21, 0, decide (0 ≤ 400))) else (some (x7_4, x9_21, x10_21, 0, false))) else (some (x7_4, x9_21, x10_21, 0, false))) else (some (x7_4, x9_21, x10_21, 0, false))) = some (r1, r2, r3, r4, r5) := by rw [if_neg (show ¬ (false = true) by decide)] at H; exact H
                    clear H
                    have H := H1
                    clear H1
                    by_cases c65 : x8_21 = (a0.size : Int)
                    ·rw [if_pos c65] at H
                     have c65b0 := beq_iff_eq.mpr c65
                     have c65b1 := bne_eq_false_iff_eq.mpr c65
                     clear c65
                     by_cases c66 : (x9_21.size : Int) ≤ 17
                     ·rw [if_pos c66] at H
                      have c66b0 := decide_eq_true c66
                      have c66b1 : decide (x9_21.size ≤ 17) = true := decide_eq_true (by omega)
                      clear c66
                      by_cases c67 : 0 ≥ (-400)
                      ·rw [if_pos c67] at H
                       have c67b0 := decide_eq_true c67
                       clear c67
                       simp only [Option.some.injEq, Prod.mk.injEq] at H
                       obtain ⟨rfl, rfl, rfl, rfl, rfl⟩ := H
                       go_wp2
                       refine bodyPost_ret (results_list (rs := [.tmp 2, .tmp 3, .tmp 4, .tmp 5, .tmp 6]) rfl (by simp) (.tmp (.tmp (.tmp (.tmp (.tmp .nil)))))) rfl ?_
                       exact ⟨by first | (exact absurd ‹decide ((-400) ≤ 0) = false› (by decide)) | rfl | (simp; done) | (simp [wrap64]; done) | (simp [*]; done), sqW⟩
                      rw [if_neg c67] at H
                      have c67b0 := decide_eq_false c67
                      clear c67
                      simp only [Option.some.injEq, Prod.mk.injEq] at H
                      obtain ⟨rfl, rfl, rfl, rfl, rfl⟩ := H
                      go_wp2
                      refine bodyPost_ret (results_list (rs := [.tmp 2, .tmp 3, .tmp 4, .tmp 5, .tmp 6]) rfl (by simp) (.tmp (.tmp (.tmp (.tmp (.tmp .nil)))))) rfl ?_
                      exact ⟨by first | (exact absurd ‹decide ((-400) ≤ 0) = false› (by decide)) | rfl | (simp; done) | (simp [wrap64]; done) | (simp [*]; done), sqW⟩
                     rw [if_neg c66] at H
                     have c66b0 := decide_eq_false c66
                     have c66b1 : decide (x9_21.size ≤ 17) = false := decide_eq_false (by omega)
                     clear c66
                     simp only [Option.some.injEq, Prod.mk.injEq] at H
                     obtain ⟨rfl, rfl, rfl, rfl, rfl⟩ := H
                     go_wp2
                     refine bodyPost_ret (results_list (rs := [.tmp 2, .tmp 3, .tmp 4, .tmp 5, .tmp 6]) rfl (by simp) (.tmp (.tmp (.tmp (.tmp (.tmp .nil)))))) rfl ?_
                     exact ⟨by first | (exact absurd ‹decide ((-400) ≤ 0) = false› (by decide)) | rfl | (simp; done) | (simp [wrap64]; done) | (simp [*]; done), sqW⟩
                    rw [if_neg c65] at H
                    have c65b0 := beq_eq_false_iff_ne.mpr c65
                    have c65b1 := bne_iff_ne.mpr c65
                    simp only [Option.some.injEq, Prod.mk.injEq] at H
                    obtain ⟨rfl, rfl, rfl, rfl, rfl⟩ := H
                    go_wp2
                    refine bodyPost_ret (results_list (rs := [.tmp 2, .tmp 3, .tmp 4, .tmp 5, .tmp 6]) rfl (by simp) (.tmp (.tmp (.tmp (.tmp (.tmp .nil)))))) rfl ?_
                    exact ⟨by first | (exact absurd ‹decide ((-400) ≤ 0) = false› (by decide)) | rfl | (simp; done) | (simp [wrap64]; done) | (simp [*]; done), sqW⟩

end Go.Proofs.YtfmjdoofopamkaaGreatDoor.W
