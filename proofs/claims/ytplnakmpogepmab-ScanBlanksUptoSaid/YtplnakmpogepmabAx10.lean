-- written by wip/pp.py of this session (the kit's print with patches); checked by Lean alone
import Derived.Test.YtplnakmpogepmabAx0
import Derived.Test.YtplnakmpogepmabAx1
import Derived.Test.YtplnakmpogepmabAx4
namespace Go.Proofs.Ytplnakmpogepmab.A
open Go.RowKit Go.Proofs.YtplnakmpogepmabW.PrintWords Go.Proofs.YtplnakmpogepmabW.PrintLast Go.Proofs.YtplnakmpogepmabW.PrintMore
attribute [local go_sem] max2_int min2_int max_two min_two max_three min_three max_four min_four   -- for this text's walks alone
set_option linter.unusedVariables false
set_option linter.unusedSimpArgs false

/-! ### endonymlaw5_ScanBlanks: function 5 -/
mutual
def endonymlaw5_ScanBlanks.l0 : Nat → List ByteArray → List Int → ByteArray → ByteArray → List ByteArray → Int → Option (Bool)
  | 0, _, _, _, _, _, _ => none
  | k + 1, x0, x1, x2, x7, x8, x9 => if x9 < (x0.length : Int) then (endonymlaw5_ScanBlanks.j1 k x0 x1 x2 x7 x8 x9 (decide (x9 < 20))) else (endonymlaw5_ScanBlanks.j1 k x0 x1 x2 x7 x8 x9 false)
def endonymlaw5_ScanBlanks.j1 : Nat → List ByteArray → List Int → ByteArray → ByteArray → List ByteArray → Int → Bool → Option (Bool)
  | 0, _, _, _, _, _, _, _ => none
  | k + 1, x0, x1, x2, x7, x8, x9, x25 => if x25 = true then (endonymlaw5_ScanBlanks.l1 k x0 x1 x2 x7 x8 x9 (⟨#[]⟩ : ByteArray) 0) else (if x7.size + 2 ≤ 9223372036854775807 then (if (x7 ++ (⟨#[32, 35]⟩ : ByteArray)).size + x2.size ≤ 9223372036854775807 then ((scan_Words.f k ((x7 ++ (⟨#[32, 35]⟩ : ByteArray)) ++ x2)).bind fun bt227 => ((endonymlaw5_told.f k).bind fun t231 => (if t231 = true then (if (bt227.1.length : Int) = (x8.length : Int) then (endonymlaw5_ScanBlanks.j6 k x7 x8 bt227.1 (bt227.2 != (wrap64 ((x7.size : Int) + 1)))) else (endonymlaw5_ScanBlanks.j6 k x7 x8 bt227.1 true)) else (endonymlaw5_ScanBlanks.j6 k x7 x8 bt227.1 true)))) else (none)) else (none))
def endonymlaw5_ScanBlanks.l1 : Nat → List ByteArray → List Int → ByteArray → ByteArray → List ByteArray → Int → ByteArray → Int → Option (Bool)
  | 0, _, _, _, _, _, _, _, _ => none
  | k + 1, x0, x1, x2, x7, x8, x9, x10, x11 => if 0 ≤ x9 then (if x9 < (x0.length : Int) then (if x11 < ((rdOf ByteArray.empty x0 x9).size : Int) then (endonymlaw5_ScanBlanks.j3 k x0 x1 x2 x7 x8 x9 x10 x11 (decide (x11 < 20))) else (endonymlaw5_ScanBlanks.j3 k x0 x1 x2 x7 x8 x9 x10 x11 false)) else (none)) else (none)
def endonymlaw5_ScanBlanks.j3 : Nat → List ByteArray → List Int → ByteArray → ByteArray → List ByteArray → Int → ByteArray → Int → Bool → Option (Bool)
  | 0, _, _, _, _, _, _, _, _, _ => none
  | k + 1, x0, x1, x2, x7, x8, x9, x10, x11, x38 => if x38 = true then (if 0 ≤ x9 then (if x9 < (x0.length : Int) then (if 0 ≤ x11 then (if x11 < ((rdOf ByteArray.empty x0 x9).size : Int) then (if (bt (rdOf ByteArray.empty x0 x9) x11) > 32 then (if (bt (rdOf ByteArray.empty x0 x9) x11) = 35 then (endonymlaw5_ScanBlanks.l1 k x0 x1 x2 x7 x8 x9 x10 (wrap64 (x11 + 1))) else ((some (([bt (rdOf ByteArray.empty x0 x9) x11] : List Int) : List Int)).bind fun y220 => (if x10.size + (strOfNums y220).size ≤ 9223372036854775807 then (endonymlaw5_ScanBlanks.l1 k x0 x1 x2 x7 x8 x9 (x10 ++ (strOfNums y220)) (wrap64 (x11 + 1))) else (none)))) else (endonymlaw5_ScanBlanks.l1 k x0 x1 x2 x7 x8 x9 x10 (wrap64 (x11 + 1)))) else (none)) else (none)) else (none)) else (none)) else (if x10.toList = ([] : List UInt8) then (endonymlaw5_ScanBlanks.l0 k x0 x1 x2 x7 x8 (wrap64 (x9 + 1))) else (if x9 < (x1.length : Int) then (if 0 ≤ x9 then (endonymlaw5_ScanBlanks.j4 k x0 x1 x2 x7 x8 x9 x10 (wrap64 ((Go.bits .and .i64 (rd x1 x9) 3) + 1))) else (none)) else (endonymlaw5_ScanBlanks.j4 k x0 x1 x2 x7 x8 x9 x10 1)))
def endonymlaw5_ScanBlanks.j4 : Nat → List ByteArray → List Int → ByteArray → ByteArray → List ByteArray → Int → ByteArray → Int → Option (Bool)
  | 0, _, _, _, _, _, _, _, _ => none
  | k + 1, x0, x1, x2, x7, x8, x9, x10, x13 => endonymlaw5_ScanBlanks.l2 k x0 x1 x2 x7 x8 x9 x10 x13 0
def endonymlaw5_ScanBlanks.l2 : Nat → List ByteArray → List Int → ByteArray → ByteArray → List ByteArray → Int → ByteArray → Int → Int → Option (Bool)
  | 0, _, _, _, _, _, _, _, _, _ => none
  | k + 1, x0, x1, x2, x7, x8, x9, x10, x13, x14 => if x14 < x13 then (if (Int.tmod (wrap64 (x13 + x14)) 3) = 0 then (if x7.size + 1 ≤ 9223372036854775807 then (endonymlaw5_ScanBlanks.l2 k x0 x1 x2 (x7 ++ (⟨#[32]⟩ : ByteArray)) x8 x9 x10 x13 (wrap64 (x14 + 1))) else (none)) else (if (Int.tmod (wrap64 (x13 + x14)) 3) = 1 then (if x7.size + 1 ≤ 9223372036854775807 then (endonymlaw5_ScanBlanks.l2 k x0 x1 x2 (x7 ++ (⟨#[9]⟩ : ByteArray)) x8 x9 x10 x13 (wrap64 (x14 + 1))) else (none)) else (if (Int.tmod (wrap64 (x13 + x14)) 3) = 2 then (if x7.size + 1 ≤ 9223372036854775807 then (endonymlaw5_ScanBlanks.l2 k x0 x1 x2 (x7 ++ (⟨#[13]⟩ : ByteArray)) x8 x9 x10 x13 (wrap64 (x14 + 1))) else (none)) else (none)))) else (if x7.size + x10.size ≤ 9223372036854775807 then (if x8.length < 8796093022208 then (endonymlaw5_ScanBlanks.l0 k x0 x1 x2 (x7 ++ x10) (x8 ++ [x10]) (wrap64 (x9 + 1))) else (none)) else (none))
def endonymlaw5_ScanBlanks.j6 : Nat → ByteArray → List ByteArray → List (S34) → Bool → Option (Bool)
  | 0, _, _, _, _ => none
  | k + 1, x7, x8, x15, x113 => if x113 = true then (some false) else (endonymlaw5_ScanBlanks.l3 k x7 x8 x15 0)
def endonymlaw5_ScanBlanks.l3 : Nat → ByteArray → List ByteArray → List (S34) → Int → Option (Bool)
  | 0, _, _, _, _ => none
  | k + 1, x7, x8, x15, x17 => if x17 < (x15.length : Int) then (if 0 ≤ x17 then (if x17 < (x8.length : Int) then (if ((rd_T34 x15 x17).f0).toList = (rdOf ByteArray.empty x8 x17).toList then (if ((rd_T34 x15 x17).f1) < 0 then (some false) else (if (wrap64 (((rd_T34 x15 x17).f1) + ((rdOf ByteArray.empty x8 x17).size : Int))) > (x7.size : Int) then (some false) else (if 0 ≤ ((rd_T34 x15 x17).f1) then (if ((rd_T34 x15 x17).f1) ≤ (wrap64 (((rd_T34 x15 x17).f1) + ((rdOf ByteArray.empty x8 x17).size : Int))) then (if (wrap64 (((rd_T34 x15 x17).f1) + ((rdOf ByteArray.empty x8 x17).size : Int))) ≤ (x7.size : Int) then (if (x7.extract (((rd_T34 x15 x17).f1) : Int).toNat ((wrap64 (((rd_T34 x15 x17).f1) + ((rdOf ByteArray.empty x8 x17).size : Int))) : Int).toNat).toList = (rdOf ByteArray.empty x8 x17).toList then (endonymlaw5_ScanBlanks.l3 k x7 x8 x15 (wrap64 (x17 + 1))) else (some false)) else (none)) else (none)) else (none)))) else (some false)) else (none)) else (none)) else (some true)
end
def endonymlaw5_ScanBlanks.f (k : Nat) (l0 : List ByteArray) (l1 : List Int) (a2 : ByteArray) : Option (Bool) := endonymlaw5_ScanBlanks.l0 k l0 l1 a2 (⟨#[]⟩ : ByteArray) ([] : List ByteArray) 0
theorem endonymlaw5_ScanBlanks.mono_l : ∀ k, (∀ y0 y1 y2 y3 y4 y5, LeO (endonymlaw5_ScanBlanks.l0 k y0 y1 y2 y3 y4 y5) (endonymlaw5_ScanBlanks.l0 (k + 1) y0 y1 y2 y3 y4 y5)) ∧ (∀ y0 y1 y2 y3 y4 y5 y6, LeO (endonymlaw5_ScanBlanks.j1 k y0 y1 y2 y3 y4 y5 y6) (endonymlaw5_ScanBlanks.j1 (k + 1) y0 y1 y2 y3 y4 y5 y6)) ∧ (∀ y0 y1 y2 y3 y4 y5 y6 y7, LeO (endonymlaw5_ScanBlanks.l1 k y0 y1 y2 y3 y4 y5 y6 y7) (endonymlaw5_ScanBlanks.l1 (k + 1) y0 y1 y2 y3 y4 y5 y6 y7)) ∧ (∀ y0 y1 y2 y3 y4 y5 y6 y7 y8, LeO (endonymlaw5_ScanBlanks.j3 k y0 y1 y2 y3 y4 y5 y6 y7 y8) (endonymlaw5_ScanBlanks.j3 (k + 1) y0 y1 y2 y3 y4 y5 y6 y7 y8)) ∧ (∀ y0 y1 y2 y3 y4 y5 y6 y7, LeO (endonymlaw5_ScanBlanks.j4 k y0 y1 y2 y3 y4 y5 y6 y7) (endonymlaw5_ScanBlanks.j4 (k + 1) y0 y1 y2 y3 y4 y5 y6 y7)) ∧ (∀ y0 y1 y2 y3 y4 y5 y6 y7 y8, LeO (endonymlaw5_ScanBlanks.l2 k y0 y1 y2 y3 y4 y5 y6 y7 y8) (endonymlaw5_ScanBlanks.l2 (k + 1) y0 y1 y2 y3 y4 y5 y6 y7 y8)) ∧ (∀ y0 y1 y2 y3, LeO (endonymlaw5_ScanBlanks.j6 k y0 y1 y2 y3) (endonymlaw5_ScanBlanks.j6 (k + 1) y0 y1 y2 y3)) ∧ (∀ y0 y1 y2 y3, LeO (endonymlaw5_ScanBlanks.l3 k y0 y1 y2 y3) (endonymlaw5_ScanBlanks.l3 (k + 1) y0 y1 y2 y3))
  | 0 => ⟨fun _ _ _ _ _ _ r h => by simp [endonymlaw5_ScanBlanks.l0] at h, fun _ _ _ _ _ _ _ r h => by simp [endonymlaw5_ScanBlanks.j1] at h, fun _ _ _ _ _ _ _ _ r h => by simp [endonymlaw5_ScanBlanks.l1] at h, fun _ _ _ _ _ _ _ _ _ r h => by simp [endonymlaw5_ScanBlanks.j3] at h, fun _ _ _ _ _ _ _ _ r h => by simp [endonymlaw5_ScanBlanks.j4] at h, fun _ _ _ _ _ _ _ _ _ r h => by simp [endonymlaw5_ScanBlanks.l2] at h, fun _ _ _ _ r h => by simp [endonymlaw5_ScanBlanks.j6] at h, fun _ _ _ _ r h => by simp [endonymlaw5_ScanBlanks.l3] at h⟩
  | k + 1 => by
    obtain ⟨ih0, ih1, ih2, ih3, ih4, ih5, ih6, ih7⟩ := endonymlaw5_ScanBlanks.mono_l k
    refine ⟨?_, ?_, ?_, ?_, ?_, ?_, ?_, ?_⟩
    · intro y0 y1 y2 y3 y4 y5
      unfold endonymlaw5_ScanBlanks.l0
      repeat' first
      | (with_reducible exact ih0 _ _ _ _ _ _)
      | (with_reducible exact ih1 _ _ _ _ _ _ _)
      | (with_reducible exact ih2 _ _ _ _ _ _ _ _)
      | (with_reducible exact ih3 _ _ _ _ _ _ _ _ _)
      | (with_reducible exact ih4 _ _ _ _ _ _ _ _)
      | (with_reducible exact ih5 _ _ _ _ _ _ _ _ _)
      | (with_reducible exact ih6 _ _ _ _)
      | (with_reducible exact ih7 _ _ _ _)
      | (with_reducible exact endonymlaw5_told.mono _)
      | (with_reducible exact scan_Words.mono _ _)
      | (with_reducible exact LeO.refl _)
      | (with_reducible exact LeO.none _)
      | (with_reducible refine LeO.ite ?_ ?_)
      | (with_reducible refine LeO.bind ?_ (fun _ => ?_))
      | exact ih0 _ _ _ _ _ _
      | exact ih1 _ _ _ _ _ _ _
      | exact ih2 _ _ _ _ _ _ _ _
      | exact ih3 _ _ _ _ _ _ _ _ _
      | exact ih4 _ _ _ _ _ _ _ _
      | exact ih5 _ _ _ _ _ _ _ _ _
      | exact ih6 _ _ _ _
      | exact ih7 _ _ _ _
      | exact endonymlaw5_told.mono _
      | exact scan_Words.mono _ _
      | exact LeO.none _
      | refine LeO.ite ?_ ?_
      | refine LeO.bind ?_ (fun _ => ?_)
    · intro y0 y1 y2 y3 y4 y5 y6
      unfold endonymlaw5_ScanBlanks.j1
      repeat' first
      | (with_reducible exact ih0 _ _ _ _ _ _)
      | (with_reducible exact ih1 _ _ _ _ _ _ _)
      | (with_reducible exact ih2 _ _ _ _ _ _ _ _)
      | (with_reducible exact ih3 _ _ _ _ _ _ _ _ _)
      | (with_reducible exact ih4 _ _ _ _ _ _ _ _)
      | (with_reducible exact ih5 _ _ _ _ _ _ _ _ _)
      | (with_reducible exact ih6 _ _ _ _)
      | (with_reducible exact ih7 _ _ _ _)
      | (with_reducible exact endonymlaw5_told.mono _)
      | (with_reducible exact scan_Words.mono _ _)
      | (with_reducible exact LeO.refl _)
      | (with_reducible exact LeO.none _)
      | (with_reducible refine LeO.ite ?_ ?_)
      | (with_reducible refine LeO.bind ?_ (fun _ => ?_))
      | exact ih0 _ _ _ _ _ _
      | exact ih1 _ _ _ _ _ _ _
      | exact ih2 _ _ _ _ _ _ _ _
      | exact ih3 _ _ _ _ _ _ _ _ _
      | exact ih4 _ _ _ _ _ _ _ _
      | exact ih5 _ _ _ _ _ _ _ _ _
      | exact ih6 _ _ _ _
      | exact ih7 _ _ _ _
      | exact endonymlaw5_told.mono _
      | exact scan_Words.mono _ _
      | exact LeO.none _
      | refine LeO.ite ?_ ?_
      | refine LeO.bind ?_ (fun _ => ?_)
    · intro y0 y1 y2 y3 y4 y5 y6 y7
      unfold endonymlaw5_ScanBlanks.l1
      repeat' first
      | (with_reducible exact ih0 _ _ _ _ _ _)
      | (with_reducible exact ih1 _ _ _ _ _ _ _)
      | (with_reducible exact ih2 _ _ _ _ _ _ _ _)
      | (with_reducible exact ih3 _ _ _ _ _ _ _ _ _)
      | (with_reducible exact ih4 _ _ _ _ _ _ _ _)
      | (with_reducible exact ih5 _ _ _ _ _ _ _ _ _)
      | (with_reducible exact ih6 _ _ _ _)
      | (with_reducible exact ih7 _ _ _ _)
      | (with_reducible exact endonymlaw5_told.mono _)
      | (with_reducible exact scan_Words.mono _ _)
      | (with_reducible exact LeO.refl _)
      | (with_reducible exact LeO.none _)
      | (with_reducible refine LeO.ite ?_ ?_)
      | (with_reducible refine LeO.bind ?_ (fun _ => ?_))
      | exact ih0 _ _ _ _ _ _
      | exact ih1 _ _ _ _ _ _ _
      | exact ih2 _ _ _ _ _ _ _ _
      | exact ih3 _ _ _ _ _ _ _ _ _
      | exact ih4 _ _ _ _ _ _ _ _
      | exact ih5 _ _ _ _ _ _ _ _ _
      | exact ih6 _ _ _ _
      | exact ih7 _ _ _ _
      | exact endonymlaw5_told.mono _
      | exact scan_Words.mono _ _
      | exact LeO.none _
      | refine LeO.ite ?_ ?_
      | refine LeO.bind ?_ (fun _ => ?_)
    · intro y0 y1 y2 y3 y4 y5 y6 y7 y8
      unfold endonymlaw5_ScanBlanks.j3
      repeat' first
      | (with_reducible exact ih0 _ _ _ _ _ _)
      | (with_reducible exact ih1 _ _ _ _ _ _ _)
      | (with_reducible exact ih2 _ _ _ _ _ _ _ _)
      | (with_reducible exact ih3 _ _ _ _ _ _ _ _ _)
      | (with_reducible exact ih4 _ _ _ _ _ _ _ _)
      | (with_reducible exact ih5 _ _ _ _ _ _ _ _ _)
      | (with_reducible exact ih6 _ _ _ _)
      | (with_reducible exact ih7 _ _ _ _)
      | (with_reducible exact endonymlaw5_told.mono _)
      | (with_reducible exact scan_Words.mono _ _)
      | (with_reducible exact LeO.refl _)
      | (with_reducible exact LeO.none _)
      | (with_reducible refine LeO.ite ?_ ?_)
      | (with_reducible refine LeO.bind ?_ (fun _ => ?_))
      | exact ih0 _ _ _ _ _ _
      | exact ih1 _ _ _ _ _ _ _
      | exact ih2 _ _ _ _ _ _ _ _
      | exact ih3 _ _ _ _ _ _ _ _ _
      | exact ih4 _ _ _ _ _ _ _ _
      | exact ih5 _ _ _ _ _ _ _ _ _
      | exact ih6 _ _ _ _
      | exact ih7 _ _ _ _
      | exact endonymlaw5_told.mono _
      | exact scan_Words.mono _ _
      | exact LeO.none _
      | refine LeO.ite ?_ ?_
      | refine LeO.bind ?_ (fun _ => ?_)
    · intro y0 y1 y2 y3 y4 y5 y6 y7
      unfold endonymlaw5_ScanBlanks.j4
      repeat' first
      | (with_reducible exact ih0 _ _ _ _ _ _)
      | (with_reducible exact ih1 _ _ _ _ _ _ _)
      | (with_reducible exact ih2 _ _ _ _ _ _ _ _)
      | (with_reducible exact ih3 _ _ _ _ _ _ _ _ _)
      | (with_reducible exact ih4 _ _ _ _ _ _ _ _)
      | (with_reducible exact ih5 _ _ _ _ _ _ _ _ _)
      | (with_reducible exact ih6 _ _ _ _)
      | (with_reducible exact ih7 _ _ _ _)
      | (with_reducible exact endonymlaw5_told.mono _)
      | (with_reducible exact scan_Words.mono _ _)
      | (with_reducible exact LeO.refl _)
      | (with_reducible exact LeO.none _)
      | (with_reducible refine LeO.ite ?_ ?_)
      | (with_reducible refine LeO.bind ?_ (fun _ => ?_))
      | exact ih0 _ _ _ _ _ _
      | exact ih1 _ _ _ _ _ _ _
      | exact ih2 _ _ _ _ _ _ _ _
      | exact ih3 _ _ _ _ _ _ _ _ _
      | exact ih4 _ _ _ _ _ _ _ _
      | exact ih5 _ _ _ _ _ _ _ _ _
      | exact ih6 _ _ _ _
      | exact ih7 _ _ _ _
      | exact endonymlaw5_told.mono _
      | exact scan_Words.mono _ _
      | exact LeO.none _
      | refine LeO.ite ?_ ?_
      | refine LeO.bind ?_ (fun _ => ?_)
    · intro y0 y1 y2 y3 y4 y5 y6 y7 y8
      unfold endonymlaw5_ScanBlanks.l2
      repeat' first
      | (with_reducible exact ih0 _ _ _ _ _ _)
      | (with_reducible exact ih1 _ _ _ _ _ _ _)
      | (with_reducible exact ih2 _ _ _ _ _ _ _ _)
      | (with_reducible exact ih3 _ _ _ _ _ _ _ _ _)
      | (with_reducible exact ih4 _ _ _ _ _ _ _ _)
      | (with_reducible exact ih5 _ _ _ _ _ _ _ _ _)
      | (with_reducible exact ih6 _ _ _ _)
      | (with_reducible exact ih7 _ _ _ _)
      | (with_reducible exact endonymlaw5_told.mono _)
      | (with_reducible exact scan_Words.mono _ _)
      | (with_reducible exact LeO.refl _)
      | (with_reducible exact LeO.none _)
      | (with_reducible refine LeO.ite ?_ ?_)
      | (with_reducible refine LeO.bind ?_ (fun _ => ?_))
      | exact ih0 _ _ _ _ _ _
      | exact ih1 _ _ _ _ _ _ _
      | exact ih2 _ _ _ _ _ _ _ _
      | exact ih3 _ _ _ _ _ _ _ _ _
      | exact ih4 _ _ _ _ _ _ _ _
      | exact ih5 _ _ _ _ _ _ _ _ _
      | exact ih6 _ _ _ _
      | exact ih7 _ _ _ _
      | exact endonymlaw5_told.mono _
      | exact scan_Words.mono _ _
      | exact LeO.none _
      | refine LeO.ite ?_ ?_
      | refine LeO.bind ?_ (fun _ => ?_)
    · intro y0 y1 y2 y3
      unfold endonymlaw5_ScanBlanks.j6
      repeat' first
      | (with_reducible exact ih0 _ _ _ _ _ _)
      | (with_reducible exact ih1 _ _ _ _ _ _ _)
      | (with_reducible exact ih2 _ _ _ _ _ _ _ _)
      | (with_reducible exact ih3 _ _ _ _ _ _ _ _ _)
      | (with_reducible exact ih4 _ _ _ _ _ _ _ _)
      | (with_reducible exact ih5 _ _ _ _ _ _ _ _ _)
      | (with_reducible exact ih6 _ _ _ _)
      | (with_reducible exact ih7 _ _ _ _)
      | (with_reducible exact endonymlaw5_told.mono _)
      | (with_reducible exact scan_Words.mono _ _)
      | (with_reducible exact LeO.refl _)
      | (with_reducible exact LeO.none _)
      | (with_reducible refine LeO.ite ?_ ?_)
      | (with_reducible refine LeO.bind ?_ (fun _ => ?_))
      | exact ih0 _ _ _ _ _ _
      | exact ih1 _ _ _ _ _ _ _
      | exact ih2 _ _ _ _ _ _ _ _
      | exact ih3 _ _ _ _ _ _ _ _ _
      | exact ih4 _ _ _ _ _ _ _ _
      | exact ih5 _ _ _ _ _ _ _ _ _
      | exact ih6 _ _ _ _
      | exact ih7 _ _ _ _
      | exact endonymlaw5_told.mono _
      | exact scan_Words.mono _ _
      | exact LeO.none _
      | refine LeO.ite ?_ ?_
      | refine LeO.bind ?_ (fun _ => ?_)
    · intro y0 y1 y2 y3
      unfold endonymlaw5_ScanBlanks.l3
      repeat' first
      | (with_reducible exact ih0 _ _ _ _ _ _)
      | (with_reducible exact ih1 _ _ _ _ _ _ _)
      | (with_reducible exact ih2 _ _ _ _ _ _ _ _)
      | (with_reducible exact ih3 _ _ _ _ _ _ _ _ _)
      | (with_reducible exact ih4 _ _ _ _ _ _ _ _)
      | (with_reducible exact ih5 _ _ _ _ _ _ _ _ _)
      | (with_reducible exact ih6 _ _ _ _)
      | (with_reducible exact ih7 _ _ _ _)
      | (with_reducible exact endonymlaw5_told.mono _)
      | (with_reducible exact scan_Words.mono _ _)
      | (with_reducible exact LeO.refl _)
      | (with_reducible exact LeO.none _)
      | (with_reducible refine LeO.ite ?_ ?_)
      | (with_reducible refine LeO.bind ?_ (fun _ => ?_))
      | exact ih0 _ _ _ _ _ _
      | exact ih1 _ _ _ _ _ _ _
      | exact ih2 _ _ _ _ _ _ _ _
      | exact ih3 _ _ _ _ _ _ _ _ _
      | exact ih4 _ _ _ _ _ _ _ _
      | exact ih5 _ _ _ _ _ _ _ _ _
      | exact ih6 _ _ _ _
      | exact ih7 _ _ _ _
      | exact endonymlaw5_told.mono _
      | exact scan_Words.mono _ _
      | exact LeO.none _
      | refine LeO.ite ?_ ?_
      | refine LeO.bind ?_ (fun _ => ?_)
theorem endonymlaw5_ScanBlanks.mono : ∀ a0 a1 a2 k, LeO (endonymlaw5_ScanBlanks.f k a0 a1 a2) (endonymlaw5_ScanBlanks.f (k + 1) a0 a1 a2) := by
  intro a0 a1 a2 k
  obtain ⟨ih0, ih1, ih2, ih3, ih4, ih5, ih6, ih7⟩ := endonymlaw5_ScanBlanks.mono_l k
  unfold endonymlaw5_ScanBlanks.f
  repeat' first
      | (with_reducible exact ih0 _ _ _ _ _ _)
      | (with_reducible exact ih1 _ _ _ _ _ _ _)
      | (with_reducible exact ih2 _ _ _ _ _ _ _ _)
      | (with_reducible exact ih3 _ _ _ _ _ _ _ _ _)
      | (with_reducible exact ih4 _ _ _ _ _ _ _ _)
      | (with_reducible exact ih5 _ _ _ _ _ _ _ _ _)
      | (with_reducible exact ih6 _ _ _ _)
      | (with_reducible exact ih7 _ _ _ _)
      | (with_reducible exact endonymlaw5_told.mono _)
      | (with_reducible exact scan_Words.mono _ _)
      | (with_reducible exact LeO.refl _)
      | (with_reducible exact LeO.none _)
      | (with_reducible refine LeO.ite ?_ ?_)
      | (with_reducible refine LeO.bind ?_ (fun _ => ?_))
      | exact ih0 _ _ _ _ _ _
      | exact ih1 _ _ _ _ _ _ _
      | exact ih2 _ _ _ _ _ _ _ _
      | exact ih3 _ _ _ _ _ _ _ _ _
      | exact ih4 _ _ _ _ _ _ _ _
      | exact ih5 _ _ _ _ _ _ _ _ _
      | exact ih6 _ _ _ _
      | exact ih7 _ _ _ _
      | exact endonymlaw5_told.mono _
      | exact scan_Words.mono _ _
      | exact LeO.none _
      | refine LeO.ite ?_ ?_
      | refine LeO.bind ?_ (fun _ => ?_)
set_option maxHeartbeats 8000000 in
set_option maxRecDepth 100000 in
theorem endonymlaw5_ScanBlanks.calls (k : Nat) (A0 : Option Addr) (c0 : Nat) (l0 : List ByteArray) (A1 : Option Addr) (c1 : Nat) (l1 : List Int) (a2 : ByteArray) (r : Bool) (w : World) (hr0 : Kd.C Kd.string w A0 l0.length l0) (hc0 : l0.length ≤ c0) (hr1 : Kd.C (Kd.int .i64) w A1 l1.length l1) (hc1 : l1.length ≤ c1) (h : endonymlaw5_ScanBlanks.f k l0 l1 a2 = some r) :
    Calls Try.prog 5 #[.slice A0 l0.length c0, .slice A1 l1.length c1, .string a2] w fun e w' => e = .returned (.bool r) ∧ Below w.heap.size w w' := by
  have HR0 := Aside0.mk hr0
  have HC0 := Aside0.mk hc0
  clear hr0 hc0
  have HR1 := Aside0.mk hr1
  have HC1 := Aside0.mk hc1
  clear hr1 hc1
  have HB := Aside0.mk (Below.refl w.heap.size w)
  have H : (endonymlaw5_ScanBlanks.l0 k l0 l1 a2 (⟨#[]⟩ : ByteArray) ([] : List ByteArray) 0) = some r := h
  clear h
  have H' := Aside0.mk H
  clear H
  go_enter Try.func5, Try.ntmps5
  go_wp2
  repeat (go_quiet (fail); try go_wp2)
  go_loopg [7, 8, 9] k (fun kq v7 v8 v9 w' => ∃ (x7_1 : ByteArray) (x8_1 : List ByteArray) (x9_1 : Int), v7 = .string x7_1 ∧ v9 = .int .i64 x9_1 ∧ Aside0 (endonymlaw5_ScanBlanks.l0 kq l0 l1 a2 x7_1 x8_1 x9_1 = some r) ∧ Aside0 (kq ≤ k) ∧ Aside0 (Kd.R Kd.string 9 w' w.heap.size (fun _ => True) v8 x8_1) ∧ Aside0 (Below w.heap.size w w'))
  case atStart => exact ⟨((⟨#[]⟩ : ByteArray)), (([] : List ByteArray)), (0), (by first | rfl | (simp; done) | (simp [*]; done)), (by first | rfl | (simp; done) | (simp [*]; done) | (rw [Rm.wsz _ (by assumption)])), H', ⟨Nat.le_refl _⟩, ⟨by first | exact Kd.R_nil _ _ _ _ _ | exact Kd.N_nil _ _ _ _ _ | exact Kd.V_nil _ _ _ _ _ | exact Kd.Q_nil _ _ _ _ _ | exact Kd.S_nil _ _ _ _ _⟩, ⟨by repeat (first | (with_reducible first | exact HB.out | apply below_alloc | apply pw_below_drewN | apply below_drew1) | exact HB.out)⟩⟩
  case round =>
    clear H'
    try clear c1
    try clear p2
    obtain ⟨x7_1, x8_1, x9_1, rfl, rfl, HA, HK1, HO_8, HB⟩ := hrel
    cases gk with
    | zero => exact absurd HA.out (by simp [endonymlaw5_ScanBlanks.l0])
    | succ k1 =>
      have H := HA.out
      clear HA
      simp only [endonymlaw5_ScanBlanks.l0] at H
      have HC4 := Aside0.mk H
      clear H
      go_upto_region 4 with (fail)
      repeat (go_quiet (fail); go_upto_region 4 with (fail))
      go_cut [25] (fun v25 wc => ∃ (kq : Nat) (x25_3 : Bool), v25 = .bool x25_3 ∧ Aside0 (endonymlaw5_ScanBlanks.j1 kq l0 l1 a2 x7_1 x8_1 x9_1 x25_3 = some r) ∧ Aside0 (kq ≤ k1) ∧ Aside0 (Kd.R Kd.string 9 wc w.heap.size (fun _ => True) u8 x8_1) ∧ Aside0 (Below w.heap.size w wc))
      case first =>
        have H := HC4.out
        clear HC4
        by_cases c5 : x9_1 < (l0.length : Int)
        · rw [if_pos c5] at H
          have c5b0 : decide (x9_1 < (l0.length : Int)) = true := decide_eq_true c5
          clear c5
          (first | rw [c5b0] | (simp only [i64_w, i32_w]; rw [c5b0]) | skip)
          have H' := Aside0.mk H
          clear H
          go_wp2
          repeat (go_quiet (fail); try go_wp2)
          go_meet
          case rel => exact ⟨_, (decide (x9_1 < 20)), (by first | rfl | (simp; done) | (simp [*]; done) | (rw [Rm.wsz _ (by assumption)])), H', ⟨by have := HK1.out; first | omega | exact Nat.le_refl _⟩, ⟨by (with_reducible repeat (first | apply Kd.R_alloc | apply Kd.R_drewN | apply Kd.R_drew)); exact HO_8.out⟩, ⟨by repeat (first | (with_reducible first | exact HB.out | apply below_alloc | apply pw_below_drewN | apply below_drew1) | exact HB.out)⟩⟩
        · rw [if_neg c5] at H
          have c5b0 : decide (x9_1 < (l0.length : Int)) = false := decide_eq_false c5
          clear c5
          (first | rw [c5b0] | (simp only [i64_w, i32_w]; rw [c5b0]) | skip)
          have H' := Aside0.mk H
          clear H
          go_wp2
          repeat (go_quiet (fail); try go_wp2)
          go_meet
          case rel => exact ⟨_, (false), (by first | rfl | (simp; done) | (simp [*]; done) | (rw [Rm.wsz _ (by assumption)])), H', ⟨by have := HK1.out; first | omega | exact Nat.le_refl _⟩, ⟨by (with_reducible repeat (first | apply Kd.R_alloc | apply Kd.R_drewN | apply Kd.R_drew)); exact HO_8.out⟩, ⟨by repeat (first | (with_reducible first | exact HB.out | apply below_alloc | apply pw_below_drewN | apply below_drew1) | exact HB.out)⟩⟩
      case rest =>
        clear HC4
        try clear c1
        try clear p2
        try clear c5
        try clear c5b0
        try clear p2
        obtain ⟨kq, x25_3, rfl, HA, HJ3, HO_8, HB⟩ := hcut
        cases kq with
        | zero => exact absurd HA.out (by simp [endonymlaw5_ScanBlanks.j1])
        | succ kj3 =>
          have H := HA.out
          clear HA
          simp only [endonymlaw5_ScanBlanks.j1] at H
          by_cases c6 : x25_3 = true
          · subst c6
            have H1 : (endonymlaw5_ScanBlanks.l1 kj3 l0 l1 a2 x7_1 x8_1 x9_1 (⟨#[]⟩ : ByteArray) 0) = some r := by rw [if_pos rfl] at H; exact H
            clear H
            have H := H1
            clear H1
            have H' := Aside0.mk H
            clear H
            go_wp2
            repeat (go_quiet (fail); try go_wp2)
            go_loopg [10, 11] kj3 (fun kq v10 v11 w' => ∃ (x10_3 : ByteArray) (x11_3 : Int), v10 = .string x10_3 ∧ v11 = .int .i64 x11_3 ∧ Aside0 (endonymlaw5_ScanBlanks.l1 kq l0 l1 a2 x7_1 x8_1 x9_1 x10_3 x11_3 = some r) ∧ Aside0 (kq ≤ kj3) ∧ Aside0 (Kd.R Kd.string 9 w' w.heap.size (fun _ => True) u8 x8_1) ∧ Aside0 (Below w.heap.size w w'))
            case atStart => exact ⟨((⟨#[]⟩ : ByteArray)), (0), (by first | rfl | (simp; done) | (simp [*]; done)), (by first | rfl | (simp; done) | (simp [*]; done) | (rw [Rm.wsz _ (by assumption)])), H', ⟨Nat.le_refl _⟩, ⟨by (with_reducible repeat (first | apply Kd.R_alloc | apply Kd.R_drewN | apply Kd.R_drew)); exact HO_8.out⟩, ⟨by repeat (first | (with_reducible first | exact HB.out | apply below_alloc | apply pw_below_drewN | apply below_drew1) | exact HB.out)⟩⟩
            case round =>
              clear H'
              try clear c1
              try clear p2
              try clear c5
              try clear c5b0
              try clear c6
              try clear p2
              obtain ⟨x10_3, x11_3, rfl, rfl, HA, HK3, HO_8, HB⟩ := hrel
              cases gk with
              | zero => exact absurd HA.out (by simp [endonymlaw5_ScanBlanks.l1])
              | succ k3 =>
                have H := HA.out
                clear HA
                simp only [endonymlaw5_ScanBlanks.l1] at H
                have HC7 := Aside0.mk H
                clear H
                go_upto_region 8 with (fail)
                repeat (go_quiet (fail); go_upto_region 8 with (fail))
                go_cut [38] (fun v38 wc => ∃ (kq : Nat) (x38_6 : Bool), v38 = .bool x38_6 ∧ Aside0 (endonymlaw5_ScanBlanks.j3 kq l0 l1 a2 x7_1 x8_1 x9_1 x10_3 x11_3 x38_6 = some r) ∧ Aside0 (kq ≤ k3) ∧ Aside0 (Kd.R Kd.string 9 wc w.heap.size (fun _ => True) u8 x8_1) ∧ Aside0 (Below w.heap.size w wc))
                case first =>
                  have H := HC7.out
                  clear HC7
                  by_cases c8 : 0 ≤ x9_1
                  · rw [if_pos c8] at H
                    have c8b0 : decide (0 ≤ x9_1) = true := decide_eq_true c8
                    clear c8
                    (first | rw [c8b0] | (simp only [i64_w, i32_w]; rw [c8b0]) | skip)
                    by_cases c9 : x9_1 < (l0.length : Int)
                    · rw [if_pos c9] at H
                      have c9b0 : decide (x9_1 < (l0.length : Int)) = true := decide_eq_true c9
                      clear c9
                      by_cases c10 : x11_3 < ((rdOf ByteArray.empty l0 x9_1).size : Int)
                      · rw [if_pos c10] at H
                        have c10b0 : decide (x11_3 < ((rdOf ByteArray.empty l0 x9_1).size : Int)) = true := decide_eq_true c10
                        clear c10
                        have H' := Aside0.mk H
                        clear H
                        have p218 : 0 ≤ (x9_1 : Int) := of_decide_eq_true (by first | (with_reducible assumption) | assumption)
                        have q218 : x9_1 < (l0.length : Int) := of_decide_eq_true (by first | (with_reducible assumption) | assumption)
                        obtain ⟨ad218, e218, hx218_0⟩ := Kd.at_string HR0.out x9_1 p218 q218
                        cases e218
                        replace hx218_0 := (HB.out.cell (World.block_lt_of_cell? w _ hx218_0)).trans hx218_0
                        replace p218 := eq_true p218
                        replace q218 := eq_true q218
                        go_wp2
                        repeat (go_quiet (fail); try go_wp2)
                        go_meet
                        case rel => exact ⟨_, (decide (x11_3 < 20)), (by first | rfl | (simp; done) | (simp [*]; done) | (rw [Rm.wsz _ (by assumption)])), H', ⟨by have := HK1.out; have := HJ3.out; have := HK3.out; first | omega | exact Nat.le_refl _⟩, ⟨by (with_reducible repeat (first | apply Kd.R_alloc | apply Kd.R_drewN | apply Kd.R_drew)); exact HO_8.out⟩, ⟨by repeat (first | (with_reducible first | exact HB.out | apply below_alloc | apply pw_below_drewN | apply below_drew1) | exact HB.out)⟩⟩
                      · rw [if_neg c10] at H
                        have c10b0 : decide (x11_3 < ((rdOf ByteArray.empty l0 x9_1).size : Int)) = false := decide_eq_false c10
                        clear c10
                        have H' := Aside0.mk H
                        clear H
                        have p218 : 0 ≤ (x9_1 : Int) := of_decide_eq_true (by first | (with_reducible assumption) | assumption)
                        have q218 : x9_1 < (l0.length : Int) := of_decide_eq_true (by first | (with_reducible assumption) | assumption)
                        obtain ⟨ad218, e218, hx218_0⟩ := Kd.at_string HR0.out x9_1 p218 q218
                        cases e218
                        replace hx218_0 := (HB.out.cell (World.block_lt_of_cell? w _ hx218_0)).trans hx218_0
                        replace p218 := eq_true p218
                        replace q218 := eq_true q218
                        go_wp2
                        repeat (go_quiet (fail); try go_wp2)
                        go_meet
                        case rel => exact ⟨_, (false), (by first | rfl | (simp; done) | (simp [*]; done) | (rw [Rm.wsz _ (by assumption)])), H', ⟨by have := HK1.out; have := HJ3.out; have := HK3.out; first | omega | exact Nat.le_refl _⟩, ⟨by (with_reducible repeat (first | apply Kd.R_alloc | apply Kd.R_drewN | apply Kd.R_drew)); exact HO_8.out⟩, ⟨by repeat (first | (with_reducible first | exact HB.out | apply below_alloc | apply pw_below_drewN | apply below_drew1) | exact HB.out)⟩⟩
                    · rw [if_neg c9] at H
                      exact absurd H (by simp)
                  · rw [if_neg c8] at H
                    exact absurd H (by simp)
                case rest =>
                  clear HC7
                  try clear c1
                  try clear p2
                  try clear q2
                  try clear hx2
                  try clear c5
                  try clear c5b0
                  try clear c6
                  try clear c8
                  try clear c8b0
                  try clear c9
                  try clear c9b0
                  try clear c10
                  try clear c10b0
                  try clear hx218_0
                  try clear p2
                  try clear p218
                  try clear q218
                  obtain ⟨kq, x38_6, rfl, HA, HJ6, HO_8, HB⟩ := hcut
                  cases kq with
                  | zero => exact absurd HA.out (by simp [endonymlaw5_ScanBlanks.j3])
                  | succ kj6 =>
                    have H := HA.out
                    clear HA
                    simp only [endonymlaw5_ScanBlanks.j3] at H
                    by_cases c11 : x38_6 = true
                    · subst c11
                      have H1 : (if 0 ≤ x9_1 then (if x9_1 < (l0.length : Int) then (if 0 ≤ x11_3 then (if x11_3 < ((rdOf ByteArray.empty l0 x9_1).size : Int) then (if (bt (rdOf ByteArray.empty l0 x9_1) x11_3) > 32 then (if (bt (rdOf ByteArray.empty l0 x9_1) x11_3) = 35 then (endonymlaw5_ScanBlanks.l1 kj6 l0 l1 a2 x7_1 x8_1 x9_1 x10_3 (wrap64 (x11_3 + 1))) else ((some (([bt (rdOf ByteArray.empty l0 x9_1) x11_3] : List Int) : List Int)).bind fun y220 => (if x10_3.size + (strOfNums y220).size ≤ 9223372036854775807 then (endonymlaw5_ScanBlanks.l1 kj6 l0 l1 a2 x7_1 x8_1 x9_1 (x10_3 ++ (strOfNums y220)) (wrap64 (x11_3 + 1))) else (none)))) else (endonymlaw5_ScanBlanks.l1 kj6 l0 l1 a2 x7_1 x8_1 x9_1 x10_3 (wrap64 (x11_3 + 1)))) else (none)) else (none)) else (none)) else (none)) = some r := by rw [if_pos rfl] at H; exact H
                      clear H
                      have H := H1
                      clear H1
                      by_cases c12 : 0 ≤ x9_1
                      · rw [if_pos c12] at H
                        have c12b0 : decide (0 ≤ x9_1) = true := decide_eq_true c12
                        clear c12
                        by_cases c13 : x9_1 < (l0.length : Int)
                        · rw [if_pos c13] at H
                          have c13b0 : decide (x9_1 < (l0.length : Int)) = true := decide_eq_true c13
                          clear c13
                          by_cases c14 : 0 ≤ x11_3
                          · rw [if_pos c14] at H
                            have c14b0 : decide (0 ≤ x11_3) = true := decide_eq_true c14
                            clear c14
                            by_cases c15 : x11_3 < ((rdOf ByteArray.empty l0 x9_1).size : Int)
                            · rw [if_pos c15] at H
                              have c15b0 : decide (x11_3 < ((rdOf ByteArray.empty l0 x9_1).size : Int)) = true := decide_eq_true c15
                              clear c15
                              by_cases c17 : (bt (rdOf ByteArray.empty l0 x9_1) x11_3) > 32
                              · rw [if_pos c17] at H
                                have c17b0 : decide (32 < (bt (rdOf ByteArray.empty l0 x9_1) x11_3)) = true := decide_eq_true c17
                                clear c17
                                by_cases c18 : (bt (rdOf ByteArray.empty l0 x9_1) x11_3) = 35
                                · rw [if_pos c18] at H
                                  have c18b0 : ((bt (rdOf ByteArray.empty l0 x9_1) x11_3) == 35) = true := beq_iff_eq.mpr c18
                                  have c18b1 : ((bt (rdOf ByteArray.empty l0 x9_1) x11_3) != 35) = false := bne_eq_false_iff_eq.mpr c18
                                  clear c18
                                  have H' := Aside0.mk H
                                  clear H
                                  have p219 : 0 ≤ (x9_1 : Int) := of_decide_eq_true (by first | (with_reducible assumption) | assumption)
                                  have q219 : x9_1 < (l0.length : Int) := of_decide_eq_true (by first | (with_reducible assumption) | assumption)
                                  obtain ⟨ad219, e219, hx219_0⟩ := Kd.at_string HR0.out x9_1 p219 q219
                                  cases e219
                                  replace hx219_0 := (HB.out.cell (World.block_lt_of_cell? w _ hx219_0)).trans hx219_0
                                  replace p219 := eq_true p219
                                  replace q219 := eq_true q219
                                  have p16 : 0 ≤ (x11_3 : Int) := of_decide_eq_true (by first | (with_reducible assumption) | assumption)
                                  have q16 : x11_3 < ((rdOf ByteArray.empty l0 x9_1).size : Int) := of_decide_eq_true (by first | (with_reducible assumption) | assumption)
                                  have hx16 := bt_at (rdOf ByteArray.empty l0 x9_1) x11_3
                                  replace p16 := eq_true p16
                                  replace q16 := eq_true q16
                                  go_wp2
                                  repeat (go_quiet (fail); try go_wp2)
                                  go_roundg kj6
                                  case measure => have := HK1.out; have := HJ3.out; have := HK3.out; have := HJ6.out; omega
                                  case rel => exact ⟨(x10_3), (wrap64 (x11_3 + 1)), (by first | rfl | (simp; done) | (simp [*]; done)), (by first | rfl | (simp; done) | (simp [*]; done) | (rw [Rm.wsz _ (by assumption)])), H', ⟨by have := HK1.out; have := HJ3.out; have := HK3.out; have := HJ6.out; omega⟩, ⟨by (with_reducible repeat (first | apply Kd.R_alloc | apply Kd.R_drewN | apply Kd.R_drew)); exact HO_8.out⟩, ⟨by repeat (first | (with_reducible first | exact HB.out | apply below_alloc | apply pw_below_drewN | apply below_drew1) | exact HB.out)⟩⟩
                                · rw [if_neg c18] at H
                                  have c18b0 : ((bt (rdOf ByteArray.empty l0 x9_1) x11_3) == 35) = false := beq_eq_false_iff_ne.mpr c18
                                  have c18b1 : ((bt (rdOf ByteArray.empty l0 x9_1) x11_3) != 35) = true := bne_iff_ne.mpr c18
                                  obtain ⟨y220, hy220⟩ : ∃ y_ : List Int, y_ = (([bt (rdOf ByteArray.empty l0 x9_1) x11_3] : List Int)) := ⟨_, rfl⟩
                                  replace H : (if x10_3.size + (strOfNums y220).size ≤ 9223372036854775807 then (endonymlaw5_ScanBlanks.l1 kj6 l0 l1 a2 x7_1 x8_1 x9_1 (x10_3 ++ (strOfNums y220)) (wrap64 (x11_3 + 1))) else (none)) = some r := by first | (rw [hy220]; with_reducible exact H) | (have H2_ := (Option.bind_some _ _).symm.trans H; rw [hy220]; with_reducible exact H2_) | (have H2_ := (Option.bind_some _ _).symm.trans H; with_reducible exact H2_) | with_reducible exact H | (rw [hy220]; exact H) | exact H
                                  have Ny220 := Aside0.mk hy220
                                  clear hy220
                                  by_cases c19 : x10_3.size + (strOfNums y220).size ≤ 9223372036854775807
                                  · rw [if_pos c19] at H
                                    have c19b0 := eq_true c19
                                    have c19b1 : decide (x10_3.size + (strOfNums y220).size ≤ 9223372036854775807) = true := decide_eq_true c19
                                    try have c19b2 : (9223372036854775807 < x10_3.size + (strOfNums y220).size) = False := eq_false (Nat.not_lt.2 c19)
                                    have H' := Aside0.mk H
                                    clear H
                                    have p219 : 0 ≤ (x9_1 : Int) := of_decide_eq_true (by first | (with_reducible assumption) | assumption)
                                    have q219 : x9_1 < (l0.length : Int) := of_decide_eq_true (by first | (with_reducible assumption) | assumption)
                                    obtain ⟨ad219, e219, hx219_0⟩ := Kd.at_string HR0.out x9_1 p219 q219
                                    cases e219
                                    replace hx219_0 := (HB.out.cell (World.block_lt_of_cell? w _ hx219_0)).trans hx219_0
                                    replace p219 := eq_true p219
                                    replace q219 := eq_true q219
                                    have p16 : 0 ≤ (x11_3 : Int) := of_decide_eq_true (by first | (with_reducible assumption) | assumption)
                                    have q16 : x11_3 < ((rdOf ByteArray.empty l0 x9_1).size : Int) := of_decide_eq_true (by first | (with_reducible assumption) | assumption)
                                    have hx16 := bt_at (rdOf ByteArray.empty l0 x9_1) x11_3
                                    replace p16 := eq_true p16
                                    replace q16 := eq_true q16
                                    go_wp2_with (first | ((with_reducible refine gate_dst (N := 55) rfl ?_); (try (refine gate_guard (by rfl) ?_; dsimp only)); refine Kd.R_lit (Kd.int .u8) _ 5 ?hg (N := 55) ?hd (xs := ([bt (rdOf ByteArray.empty l0 x9_1) x11_3] : List Int)) (inner := [.int .u8 (bt (rdOf ByteArray.empty l0 x9_1) x11_3)]) (ok := fun _ => True) (okp := fun _ => True) ?hr ?hp (fun _ hk => hk) trivial (Below.refl _ _) (Nat.le_refl _) (by simp) ?_; (case hd => rfl); (case hg => rfl); (case hr => first | (go_simp; done) | (go_simp; rfl)); (case hp => exact (Reps.one (show Kd.M (Kd.int .u8) _ _ _ (bt (rdOf ByteArray.empty l0 x9_1) x11_3) [.int .u8 (bt (rdOf ByteArray.empty l0 x9_1) x11_3)] from rfl) (Reps.none _ _))); intro v221 w20 ho21 hb hg_ hnew_; clear hg_ hnew_; (first | rw [← Ny220.out] at ho21 | (simp only [Int.reduceToNat] at ho21; rw [← Ny220.out] at ho21)); have n0_ := Aside0.mk (Kd.R_below (by (with_reducible repeat (first | apply Kd.R_alloc | apply Kd.R_drewN | apply Kd.R_drew)); exact HO_8.out) hb); have n1_ := Aside0.mk (Kd.R_lower ho21 (below_size (by repeat (first | (with_reducible first | exact HB.out | apply below_alloc | apply pw_below_drewN | apply below_drew1) | exact HB.out)))); have n2_ := Aside0.mk (below_step (by repeat (first | (with_reducible first | exact HB.out | apply below_alloc | apply pw_below_drewN | apply below_drew1) | exact HB.out)) hb); clear HO_8; clear HB; have HO_8 := n0_; have HO222 := n1_; have HB := n2_; clear n0_ n1_ n2_; clear hb ho21; have hcv22 := own_string (P := Try.prog) Try.underlying43 Try.underlying5 Try.underlying9 (Kd.own_of_R HO222.out)))
                                    repeat (go_quiet (first | ((with_reducible refine gate_dst (N := 55) rfl ?_); (try (refine gate_guard (by rfl) ?_; dsimp only)); refine Kd.R_lit (Kd.int .u8) _ 5 ?hg (N := 55) ?hd (xs := ([bt (rdOf ByteArray.empty l0 x9_1) x11_3] : List Int)) (inner := [.int .u8 (bt (rdOf ByteArray.empty l0 x9_1) x11_3)]) (ok := fun _ => True) (okp := fun _ => True) ?hr ?hp (fun _ hk => hk) trivial (Below.refl _ _) (Nat.le_refl _) (by simp) ?_; (case hd => rfl); (case hg => rfl); (case hr => first | (go_simp; done) | (go_simp; rfl)); (case hp => exact (Reps.one (show Kd.M (Kd.int .u8) _ _ _ (bt (rdOf ByteArray.empty l0 x9_1) x11_3) [.int .u8 (bt (rdOf ByteArray.empty l0 x9_1) x11_3)] from rfl) (Reps.none _ _))); intro v221 w20 ho21 hb hg_ hnew_; clear hg_ hnew_; (first | rw [← Ny220.out] at ho21 | (simp only [Int.reduceToNat] at ho21; rw [← Ny220.out] at ho21)); have n0_ := Aside0.mk (Kd.R_below (by (with_reducible repeat (first | apply Kd.R_alloc | apply Kd.R_drewN | apply Kd.R_drew)); exact HO_8.out) hb); have n1_ := Aside0.mk (Kd.R_lower ho21 (below_size (by repeat (first | (with_reducible first | exact HB.out | apply below_alloc | apply pw_below_drewN | apply below_drew1) | exact HB.out)))); have n2_ := Aside0.mk (below_step (by repeat (first | (with_reducible first | exact HB.out | apply below_alloc | apply pw_below_drewN | apply below_drew1) | exact HB.out)) hb); clear HO_8; clear HB; have HO_8 := n0_; have HO222 := n1_; have HB := n2_; clear n0_ n1_ n2_; clear hb ho21; have hcv22 := own_string (P := Try.prog) Try.underlying43 Try.underlying5 Try.underlying9 (Kd.own_of_R HO222.out))); try go_wp2_with (first | ((with_reducible refine gate_dst (N := 55) rfl ?_); (try (refine gate_guard (by rfl) ?_; dsimp only)); refine Kd.R_lit (Kd.int .u8) _ 5 ?hg (N := 55) ?hd (xs := ([bt (rdOf ByteArray.empty l0 x9_1) x11_3] : List Int)) (inner := [.int .u8 (bt (rdOf ByteArray.empty l0 x9_1) x11_3)]) (ok := fun _ => True) (okp := fun _ => True) ?hr ?hp (fun _ hk => hk) trivial (Below.refl _ _) (Nat.le_refl _) (by simp) ?_; (case hd => rfl); (case hg => rfl); (case hr => first | (go_simp; done) | (go_simp; rfl)); (case hp => exact (Reps.one (show Kd.M (Kd.int .u8) _ _ _ (bt (rdOf ByteArray.empty l0 x9_1) x11_3) [.int .u8 (bt (rdOf ByteArray.empty l0 x9_1) x11_3)] from rfl) (Reps.none _ _))); intro v221 w20 ho21 hb hg_ hnew_; clear hg_ hnew_; (first | rw [← Ny220.out] at ho21 | (simp only [Int.reduceToNat] at ho21; rw [← Ny220.out] at ho21)); have n0_ := Aside0.mk (Kd.R_below (by (with_reducible repeat (first | apply Kd.R_alloc | apply Kd.R_drewN | apply Kd.R_drew)); exact HO_8.out) hb); have n1_ := Aside0.mk (Kd.R_lower ho21 (below_size (by repeat (first | (with_reducible first | exact HB.out | apply below_alloc | apply pw_below_drewN | apply below_drew1) | exact HB.out)))); have n2_ := Aside0.mk (below_step (by repeat (first | (with_reducible first | exact HB.out | apply below_alloc | apply pw_below_drewN | apply below_drew1) | exact HB.out)) hb); clear HO_8; clear HB; have HO_8 := n0_; have HO222 := n1_; have HB := n2_; clear n0_ n1_ n2_; clear hb ho21; have hcv22 := own_string (P := Try.prog) Try.underlying43 Try.underlying5 Try.underlying9 (Kd.own_of_R HO222.out))))
                                    go_roundg kj6
                                    case measure => have := HK1.out; have := HJ3.out; have := HK3.out; have := HJ6.out; omega
                                    case rel => exact ⟨(x10_3 ++ (strOfNums y220)), (wrap64 (x11_3 + 1)), (by first | rfl | (simp; done) | (simp [*]; done)), (by first | rfl | (simp; done) | (simp [*]; done) | (rw [Rm.wsz _ (by assumption)])), H', ⟨by have := HK1.out; have := HJ3.out; have := HK3.out; have := HJ6.out; omega⟩, ⟨by (with_reducible repeat (first | apply Kd.R_alloc | apply Kd.R_drewN | apply Kd.R_drew)); exact HO_8.out⟩, ⟨by repeat (first | (with_reducible first | exact HB.out | apply below_alloc | apply pw_below_drewN | apply below_drew1) | exact HB.out)⟩⟩
                                  · rw [if_neg c19] at H
                                    exact absurd H (by simp)
                              · rw [if_neg c17] at H
                                have c17b0 : decide (32 < (bt (rdOf ByteArray.empty l0 x9_1) x11_3)) = false := decide_eq_false c17
                                clear c17
                                have H' := Aside0.mk H
                                clear H
                                have p219 : 0 ≤ (x9_1 : Int) := of_decide_eq_true (by first | (with_reducible assumption) | assumption)
                                have q219 : x9_1 < (l0.length : Int) := of_decide_eq_true (by first | (with_reducible assumption) | assumption)
                                obtain ⟨ad219, e219, hx219_0⟩ := Kd.at_string HR0.out x9_1 p219 q219
                                cases e219
                                replace hx219_0 := (HB.out.cell (World.block_lt_of_cell? w _ hx219_0)).trans hx219_0
                                replace p219 := eq_true p219
                                replace q219 := eq_true q219
                                have p16 : 0 ≤ (x11_3 : Int) := of_decide_eq_true (by first | (with_reducible assumption) | assumption)
                                have q16 : x11_3 < ((rdOf ByteArray.empty l0 x9_1).size : Int) := of_decide_eq_true (by first | (with_reducible assumption) | assumption)
                                have hx16 := bt_at (rdOf ByteArray.empty l0 x9_1) x11_3
                                replace p16 := eq_true p16
                                replace q16 := eq_true q16
                                go_wp2
                                repeat (go_quiet (fail); try go_wp2)
                                go_roundg kj6
                                case measure => have := HK1.out; have := HJ3.out; have := HK3.out; have := HJ6.out; omega
                                case rel => exact ⟨(x10_3), (wrap64 (x11_3 + 1)), (by first | rfl | (simp; done) | (simp [*]; done)), (by first | rfl | (simp; done) | (simp [*]; done) | (rw [Rm.wsz _ (by assumption)])), H', ⟨by have := HK1.out; have := HJ3.out; have := HK3.out; have := HJ6.out; omega⟩, ⟨by (with_reducible repeat (first | apply Kd.R_alloc | apply Kd.R_drewN | apply Kd.R_drew)); exact HO_8.out⟩, ⟨by repeat (first | (with_reducible first | exact HB.out | apply below_alloc | apply pw_below_drewN | apply below_drew1) | exact HB.out)⟩⟩
                            · rw [if_neg c15] at H
                              exact absurd H (by simp)
                          · rw [if_neg c14] at H
                            exact absurd H (by simp)
                        · rw [if_neg c13] at H
                          exact absurd H (by simp)
                      · rw [if_neg c12] at H
                        exact absurd H (by simp)
                    · replace c11 := Bool.eq_false_iff.mpr c11
                      subst c11
                      have H1 : (if x10_3.toList = ([] : List UInt8) then (endonymlaw5_ScanBlanks.l0 kj6 l0 l1 a2 x7_1 x8_1 (wrap64 (x9_1 + 1))) else (if x9_1 < (l1.length : Int) then (if 0 ≤ x9_1 then (endonymlaw5_ScanBlanks.j4 kj6 l0 l1 a2 x7_1 x8_1 x9_1 x10_3 (wrap64 ((Go.bits .and .i64 (rd l1 x9_1) 3) + 1))) else (none)) else (endonymlaw5_ScanBlanks.j4 kj6 l0 l1 a2 x7_1 x8_1 x9_1 x10_3 1))) = some r := by rw [if_neg (show ¬ (false = true) by decide)] at H; exact H
                      clear H
                      have H := H1
                      clear H1
                      by_cases c23 : x10_3.toList = ([] : List UInt8)
                      · rw [if_pos c23] at H
                        have c23b0 : (x10_3.toList == ([] : List UInt8)) = true := beq_iff_eq.mpr c23
                        have c23b1 : (x10_3.toList != ([] : List UInt8)) = false := bne_eq_false_iff_eq.mpr c23
                        clear c23
                        have H' := Aside0.mk H
                        clear H
                        go_wp2
                        repeat (go_quiet (fail); try go_wp2)
                        go_roundg kj6
                        case measure => have := HK1.out; have := HJ3.out; have := HK3.out; have := HJ6.out; omega
                        case rel => exact ⟨(x7_1), (x8_1), (wrap64 (x9_1 + 1)), (by first | rfl | (simp; done) | (simp [*]; done)), (by first | rfl | (simp; done) | (simp [*]; done) | (rw [Rm.wsz _ (by assumption)])), H', ⟨by have := HK1.out; have := HJ3.out; have := HK3.out; have := HJ6.out; omega⟩, ⟨by (with_reducible repeat (first | apply Kd.R_alloc | apply Kd.R_drewN | apply Kd.R_drew)); exact HO_8.out⟩, ⟨by repeat (first | (with_reducible first | exact HB.out | apply below_alloc | apply pw_below_drewN | apply below_drew1) | exact HB.out)⟩⟩
                      · rw [if_neg c23] at H
                        have c23b0 : (x10_3.toList == ([] : List UInt8)) = false := beq_eq_false_iff_ne.mpr c23
                        have c23b1 : (x10_3.toList != ([] : List UInt8)) = true := bne_iff_ne.mpr c23
                        have HC24 := Aside0.mk H
                        clear H
                        go_upto_if 63 with (fail)
                        repeat (go_quiet (fail); go_upto_if 63 with (fail))
                        go_cut [13] (fun v13 wc => ∃ (kq : Nat) (x13_23 : Int), v13 = .int .i64 x13_23 ∧ Aside0 (endonymlaw5_ScanBlanks.j4 kq l0 l1 a2 x7_1 x8_1 x9_1 x10_3 x13_23 = some r) ∧ Aside0 (kq ≤ kj6) ∧ Aside0 (Kd.R Kd.string 9 wc w.heap.size (fun _ => True) u8 x8_1) ∧ Aside0 (Below w.heap.size w wc))
                        case first =>
                          have H := HC24.out
                          clear HC24
                          by_cases c25 : x9_1 < (l1.length : Int)
                          · rw [if_pos c25] at H
                            have c25b0 : decide (x9_1 < (l1.length : Int)) = true := decide_eq_true c25
                            clear c25
                            (first | rw [c25b0] | (simp only [i64_w, i32_w]; rw [c25b0]) | skip)
                            by_cases c26 : 0 ≤ x9_1
                            · rw [if_pos c26] at H
                              have c26b0 : decide (0 ≤ x9_1) = true := decide_eq_true c26
                              clear c26
                              have H' := Aside0.mk H
                              clear H
                              have p223 : 0 ≤ (x9_1 : Int) := of_decide_eq_true (by first | (with_reducible assumption) | assumption)
                              have q223 : x9_1 < (l1.length : Int) := of_decide_eq_true (by first | (with_reducible assumption) | assumption)
                              obtain ⟨ad223, e223, hx223_0⟩ := Kd.at_int HR1.out x9_1 p223 q223
                              cases e223
                              replace hx223_0 := (HB.out.cell (World.block_lt_of_cell? w _ hx223_0)).trans hx223_0
                              replace p223 := eq_true p223
                              replace q223 := eq_true q223
                              go_wp2
                              repeat (go_quiet (fail); try go_wp2)
                              go_meet
                              case rel => exact ⟨_, (wrap64 ((Go.bits .and .i64 (rd l1 x9_1) 3) + 1)), (by first | rfl | (simp; done) | (simp [*]; done) | (rw [Rm.wsz _ (by assumption)])), H', ⟨by have := HK1.out; have := HJ3.out; have := HK3.out; have := HJ6.out; first | omega | exact Nat.le_refl _⟩, ⟨by (with_reducible repeat (first | apply Kd.R_alloc | apply Kd.R_drewN | apply Kd.R_drew)); exact HO_8.out⟩, ⟨by repeat (first | (with_reducible first | exact HB.out | apply below_alloc | apply pw_below_drewN | apply below_drew1) | exact HB.out)⟩⟩
                            · rw [if_neg c26] at H
                              exact absurd H (by simp)
                          · rw [if_neg c25] at H
                            have c25b0 : decide (x9_1 < (l1.length : Int)) = false := decide_eq_false c25
                            clear c25
                            (first | rw [c25b0] | (simp only [i64_w, i32_w]; rw [c25b0]) | skip)
                            have H' := Aside0.mk H
                            clear H
                            go_wp2
                            repeat (go_quiet (fail); try go_wp2)
                            go_meet
                            case rel => exact ⟨_, (1), (by first | rfl | (simp; done) | (simp [*]; done) | (rw [Rm.wsz _ (by assumption)])), H', ⟨by have := HK1.out; have := HJ3.out; have := HK3.out; have := HJ6.out; first | omega | exact Nat.le_refl _⟩, ⟨by (with_reducible repeat (first | apply Kd.R_alloc | apply Kd.R_drewN | apply Kd.R_drew)); exact HO_8.out⟩, ⟨by repeat (first | (with_reducible first | exact HB.out | apply below_alloc | apply pw_below_drewN | apply below_drew1) | exact HB.out)⟩⟩
                        case rest =>
                          clear HC24
                          try clear c1
                          try clear p1
                          try clear q1
                          try clear hx1
                          try clear c2
                          try clear p2
                          try clear q2
                          try clear hx2
                          try clear hcv2
                          try clear c5
                          try clear c5b0
                          try clear c6
                          try clear p6
                          try clear c8
                          try clear c8b0
                          try clear c9
                          try clear c9b0
                          try clear c10
                          try clear c10b0
                          try clear c11
                          try clear c12
                          try clear c12b0
                          try clear c13
                          try clear c13b0
                          try clear c14
                          try clear c14b0
                          try clear c15
                          try clear c15b0
                          try clear p16
                          try clear q16
                          try clear hx16
                          try clear c17
                          try clear c17b0
                          try clear c18
                          try clear c18b0
                          try clear c18b1
                          try clear c19
                          try clear c19b0
                          try clear c19b1
                          try clear c19b2
                          try clear p21
                          try clear q21
                          try clear hx21
                          try clear p22
                          try clear q22
                          try clear hx22
                          try clear hcv22
                          try clear c23
                          try clear c23b0
                          try clear c23b1
                          try clear c25
                          try clear c25b0
                          try clear c26
                          try clear c26b0
                          try clear hx218_0
                          try clear hx219_0
                          try clear hx223_0
                          try clear p16
                          try clear p2
                          try clear p218
                          try clear p219
                          try clear p223
                          try clear q16
                          try clear q2
                          try clear q218
                          try clear q219
                          try clear q223
                          obtain ⟨kq, x13_23, rfl, HA, HJ23, HO_8, HB⟩ := hcut
                          cases kq with
                          | zero => exact absurd HA.out (by simp [endonymlaw5_ScanBlanks.j4])
                          | succ kj23 =>
                            have H := HA.out
                            clear HA
                            simp only [endonymlaw5_ScanBlanks.j4] at H
                            have H' := Aside0.mk H
                            clear H
                            go_wp2
                            repeat (go_quiet (fail); try go_wp2)
                            go_loopg [7, 14] kj23 (fun kq v7 v14 w' => ∃ (x7_6 : ByteArray) (x14_6 : Int), v7 = .string x7_6 ∧ v14 = .int .i64 x14_6 ∧ Aside0 (endonymlaw5_ScanBlanks.l2 kq l0 l1 a2 x7_6 x8_1 x9_1 x10_3 x13_23 x14_6 = some r) ∧ Aside0 (kq ≤ kj23) ∧ Aside0 (Kd.R Kd.string 9 w' w.heap.size (fun _ => True) u8 x8_1) ∧ Aside0 (Below w.heap.size w w'))
                            case atStart => exact ⟨(x7_1), (0), (by first | rfl | (simp; done) | (simp [*]; done)), (by first | rfl | (simp; done) | (simp [*]; done) | (rw [Rm.wsz _ (by assumption)])), H', ⟨Nat.le_refl _⟩, ⟨by (with_reducible repeat (first | apply Kd.R_alloc | apply Kd.R_drewN | apply Kd.R_drew)); exact HO_8.out⟩, ⟨by repeat (first | (with_reducible first | exact HB.out | apply below_alloc | apply pw_below_drewN | apply below_drew1) | exact HB.out)⟩⟩
                            case round =>
                              clear H'
                              try clear c1
                              try clear p1
                              try clear q1
                              try clear hx1
                              try clear c2
                              try clear p2
                              try clear q2
                              try clear hx2
                              try clear hcv2
                              try clear c5
                              try clear c5b0
                              try clear c6
                              try clear p6
                              try clear c8
                              try clear c8b0
                              try clear c9
                              try clear c9b0
                              try clear c10
                              try clear c10b0
                              try clear c11
                              try clear c12
                              try clear c12b0
                              try clear c13
                              try clear c13b0
                              try clear c14
                              try clear c14b0
                              try clear c15
                              try clear c15b0
                              try clear p16
                              try clear q16
                              try clear hx16
                              try clear c17
                              try clear c17b0
                              try clear c18
                              try clear c18b0
                              try clear c18b1
                              try clear c19
                              try clear c19b0
                              try clear c19b1
                              try clear c19b2
                              try clear p21
                              try clear q21
                              try clear hx21
                              try clear p22
                              try clear q22
                              try clear hx22
                              try clear hcv22
                              try clear c23
                              try clear c23b0
                              try clear c23b1
                              try clear c25
                              try clear c25b0
                              try clear c26
                              try clear c26b0
                              try clear hx218_0
                              try clear hx219_0
                              try clear hx223_0
                              try clear p1
                              try clear p16
                              try clear p2
                              try clear p21
                              try clear p218
                              try clear p219
                              try clear p22
                              try clear p223
                              try clear p6
                              try clear q1
                              try clear q16
                              try clear q2
                              try clear q21
                              try clear q218
                              try clear q219
                              try clear q22
                              try clear q223
                              obtain ⟨x7_6, x14_6, rfl, rfl, HA, HK6, HO_8, HB⟩ := hrel
                              cases gk with
                              | zero => exact absurd HA.out (by simp [endonymlaw5_ScanBlanks.l2])
                              | succ k6 =>
                                have H := HA.out
                                clear HA
                                simp only [endonymlaw5_ScanBlanks.l2] at H
                                by_cases c27 : x14_6 < x13_23
                                · rw [if_pos c27] at H
                                  have c27b0 : decide (x14_6 < x13_23) = true := decide_eq_true c27
                                  clear c27
                                  by_cases c28 : (Int.tmod (wrap64 (x13_23 + x14_6)) 3) = 0
                                  · rw [if_pos c28] at H
                                    have c28r : ∀ w_ : World, Sem.run Try.prog (Instr.index 44 (Value.agg #[Value.string (⟨#[32]⟩ : ByteArray), Value.string (⟨#[9]⟩ : ByteArray), Value.string (⟨#[13]⟩ : ByteArray)]) (Value.int IntKind.i64 0)) w_ = Result.ok (Value.string (⟨#[32]⟩ : ByteArray)) w_ := fun _ => rfl
                                    by_cases c29 : x7_6.size + 1 ≤ 9223372036854775807
                                    · rw [if_pos c29] at H
                                      have c29b0 := eq_true c29
                                      have c29b1 : decide (x7_6.size + 1 ≤ 9223372036854775807) = true := decide_eq_true c29
                                      try have c29b2 : (9223372036854775807 < x7_6.size + 1) = False := eq_false (Nat.not_lt.2 c29)
                                      have H' := Aside0.mk H
                                      clear H
                                      go_wp2
                                      repeat (go_quiet (fail); try go_wp2)
                                      go_roundg k6
                                      case measure => have := HK1.out; have := HJ3.out; have := HK3.out; have := HJ6.out; have := HJ23.out; have := HK6.out; omega
                                      case rel => exact ⟨(x7_6 ++ (⟨#[32]⟩ : ByteArray)), (wrap64 (x14_6 + 1)), (by first | rfl | (simp; done) | (simp [*]; done)), (by first | rfl | (simp; done) | (simp [*]; done) | (rw [Rm.wsz _ (by assumption)])), H', ⟨by have := HK1.out; have := HJ3.out; have := HK3.out; have := HJ6.out; have := HJ23.out; have := HK6.out; omega⟩, ⟨by (with_reducible repeat (first | apply Kd.R_alloc | apply Kd.R_drewN | apply Kd.R_drew)); exact HO_8.out⟩, ⟨by repeat (first | (with_reducible first | exact HB.out | apply below_alloc | apply pw_below_drewN | apply below_drew1) | exact HB.out)⟩⟩
                                    · rw [if_neg c29] at H
                                      exact absurd H (by simp)
                                  · rw [if_neg c28] at H
                                    by_cases c30 : (Int.tmod (wrap64 (x13_23 + x14_6)) 3) = 1
                                    · rw [if_pos c30] at H
                                      have c30r : ∀ w_ : World, Sem.run Try.prog (Instr.index 44 (Value.agg #[Value.string (⟨#[32]⟩ : ByteArray), Value.string (⟨#[9]⟩ : ByteArray), Value.string (⟨#[13]⟩ : ByteArray)]) (Value.int IntKind.i64 1)) w_ = Result.ok (Value.string (⟨#[9]⟩ : ByteArray)) w_ := fun _ => rfl
                                      by_cases c31 : x7_6.size + 1 ≤ 9223372036854775807
                                      · rw [if_pos c31] at H
                                        have c31b0 := eq_true c31
                                        have c31b1 : decide (x7_6.size + 1 ≤ 9223372036854775807) = true := decide_eq_true c31
                                        try have c31b2 : (9223372036854775807 < x7_6.size + 1) = False := eq_false (Nat.not_lt.2 c31)
                                        have H' := Aside0.mk H
                                        clear H
                                        go_wp2
                                        repeat (go_quiet (fail); try go_wp2)
                                        go_roundg k6
                                        case measure => have := HK1.out; have := HJ3.out; have := HK3.out; have := HJ6.out; have := HJ23.out; have := HK6.out; omega
                                        case rel => exact ⟨(x7_6 ++ (⟨#[9]⟩ : ByteArray)), (wrap64 (x14_6 + 1)), (by first | rfl | (simp; done) | (simp [*]; done)), (by first | rfl | (simp; done) | (simp [*]; done) | (rw [Rm.wsz _ (by assumption)])), H', ⟨by have := HK1.out; have := HJ3.out; have := HK3.out; have := HJ6.out; have := HJ23.out; have := HK6.out; omega⟩, ⟨by (with_reducible repeat (first | apply Kd.R_alloc | apply Kd.R_drewN | apply Kd.R_drew)); exact HO_8.out⟩, ⟨by repeat (first | (with_reducible first | exact HB.out | apply below_alloc | apply pw_below_drewN | apply below_drew1) | exact HB.out)⟩⟩
                                      · rw [if_neg c31] at H
                                        exact absurd H (by simp)
                                    · rw [if_neg c30] at H
                                      by_cases c32 : (Int.tmod (wrap64 (x13_23 + x14_6)) 3) = 2
                                      · rw [if_pos c32] at H
                                        have c32r : ∀ w_ : World, Sem.run Try.prog (Instr.index 44 (Value.agg #[Value.string (⟨#[32]⟩ : ByteArray), Value.string (⟨#[9]⟩ : ByteArray), Value.string (⟨#[13]⟩ : ByteArray)]) (Value.int IntKind.i64 2)) w_ = Result.ok (Value.string (⟨#[13]⟩ : ByteArray)) w_ := fun _ => rfl
                                        by_cases c33 : x7_6.size + 1 ≤ 9223372036854775807
                                        · rw [if_pos c33] at H
                                          have c33b0 := eq_true c33
                                          have c33b1 : decide (x7_6.size + 1 ≤ 9223372036854775807) = true := decide_eq_true c33
                                          try have c33b2 : (9223372036854775807 < x7_6.size + 1) = False := eq_false (Nat.not_lt.2 c33)
                                          have H' := Aside0.mk H
                                          clear H
                                          go_wp2
                                          repeat (go_quiet (fail); try go_wp2)
                                          go_roundg k6
                                          case measure => have := HK1.out; have := HJ3.out; have := HK3.out; have := HJ6.out; have := HJ23.out; have := HK6.out; omega
                                          case rel => exact ⟨(x7_6 ++ (⟨#[13]⟩ : ByteArray)), (wrap64 (x14_6 + 1)), (by first | rfl | (simp; done) | (simp [*]; done)), (by first | rfl | (simp; done) | (simp [*]; done) | (rw [Rm.wsz _ (by assumption)])), H', ⟨by have := HK1.out; have := HJ3.out; have := HK3.out; have := HJ6.out; have := HJ23.out; have := HK6.out; omega⟩, ⟨by (with_reducible repeat (first | apply Kd.R_alloc | apply Kd.R_drewN | apply Kd.R_drew)); exact HO_8.out⟩, ⟨by repeat (first | (with_reducible first | exact HB.out | apply below_alloc | apply pw_below_drewN | apply below_drew1) | exact HB.out)⟩⟩
                                        · rw [if_neg c33] at H
                                          exact absurd H (by simp)
                                      · rw [if_neg c32] at H
                                        exact absurd H (by simp)
                                · rw [if_neg c27] at H
                                  have c27b0 : decide (x14_6 < x13_23) = false := decide_eq_false c27
                                  clear c27
                                  by_cases c34 : x7_6.size + x10_3.size ≤ 9223372036854775807
                                  · rw [if_pos c34] at H
                                    have c34b0 := eq_true c34
                                    have c34b1 : decide (x7_6.size + x10_3.size ≤ 9223372036854775807) = true := decide_eq_true c34
                                    try have c34b2 : (9223372036854775807 < x7_6.size + x10_3.size) = False := eq_false (Nat.not_lt.2 c34)
                                    by_cases c35 : x8_1.length < 8796093022208
                                    · rw [if_pos c35] at H
                                      have LMc35 := Aside0.mk c35
                                      clear c35
                                      obtain ⟨y224, hy224⟩ : ∃ y_ : List ByteArray, y_ = (x8_1 ++ [x10_3]) := ⟨_, rfl⟩
                                      replace H : (endonymlaw5_ScanBlanks.l0 k6 l0 l1 a2 (x7_6 ++ x10_3) y224 (wrap64 (x9_1 + 1))) = some r := by first | (rw [hy224]; with_reducible exact H) | (have H2_ := (Option.bind_some _ _).symm.trans H; rw [hy224]; with_reducible exact H2_) | (have H2_ := (Option.bind_some _ _).symm.trans H; with_reducible exact H2_) | with_reducible exact H | (rw [hy224]; exact H) | exact H
                                      have Ny224 := Aside0.mk hy224
                                      clear hy224
                                      have H' := Aside0.mk H
                                      clear H
                                      go_wp2_with (first | ((with_reducible refine gate_builtin (b := .append) (xs := #[.tmp 86, .tmp 88]) rfl ?_); (try (refine gate_guard (by rfl) ?_; dsimp only)); at_builtin; refine Kd.R_append Kd.string (w0 := w) w.heap.size rfl (.tmp 86) (.tmp 88) 22 9 (.string ⟨#[]⟩) 16 rfl Try.underlying22 info9 rfl (by decide) (by omega) u8 x8_1 x10_3 [.string x10_3] (fun _ => True) (fun _ => False) rfl rfl ?aP (fun _ hk => hk.elim) ?aF ?aO ?aB ?aS ?aL ?_; (case aP => exact rfl); (case aB => exact (by repeat (first | (with_reducible first | exact HB.out | apply below_alloc | apply pw_below_drewN | apply below_drew1) | exact HB.out))); (case aF => exact (fun _ _ => trivial)); (case aO => exact (by (with_reducible repeat (first | apply Kd.R_alloc | apply Kd.R_drewN | apply Kd.R_drew)); exact HO_8.out)); (case aS => exact (below_size (by repeat (first | (with_reducible first | exact HB.out | apply below_alloc | apply pw_below_drewN | apply below_drew1) | exact HB.out)))); (case aL => have := LMc35.out; omega); intro v225 w36 ho hb hg hat; rw [← Ny224.out] at ho; have n0_ := Aside0.mk (hb); have n1_ := Aside0.mk (ho); clear HB; clear HO_8; have HB := n0_; have HO226 := n1_; clear n0_ n1_; clear ho hb hg hat))
                                      repeat (go_quiet (first | ((with_reducible refine gate_builtin (b := .append) (xs := #[.tmp 86, .tmp 88]) rfl ?_); (try (refine gate_guard (by rfl) ?_; dsimp only)); at_builtin; refine Kd.R_append Kd.string (w0 := w) w.heap.size rfl (.tmp 86) (.tmp 88) 22 9 (.string ⟨#[]⟩) 16 rfl Try.underlying22 info9 rfl (by decide) (by omega) u8 x8_1 x10_3 [.string x10_3] (fun _ => True) (fun _ => False) rfl rfl ?aP (fun _ hk => hk.elim) ?aF ?aO ?aB ?aS ?aL ?_; (case aP => exact rfl); (case aB => exact (by repeat (first | (with_reducible first | exact HB.out | apply below_alloc | apply pw_below_drewN | apply below_drew1) | exact HB.out))); (case aF => exact (fun _ _ => trivial)); (case aO => exact (by (with_reducible repeat (first | apply Kd.R_alloc | apply Kd.R_drewN | apply Kd.R_drew)); exact HO_8.out)); (case aS => exact (below_size (by repeat (first | (with_reducible first | exact HB.out | apply below_alloc | apply pw_below_drewN | apply below_drew1) | exact HB.out)))); (case aL => have := LMc35.out; omega); intro v225 w36 ho hb hg hat; rw [← Ny224.out] at ho; have n0_ := Aside0.mk (hb); have n1_ := Aside0.mk (ho); clear HB; clear HO_8; have HB := n0_; have HO226 := n1_; clear n0_ n1_; clear ho hb hg hat)); try go_wp2_with (first | ((with_reducible refine gate_builtin (b := .append) (xs := #[.tmp 86, .tmp 88]) rfl ?_); (try (refine gate_guard (by rfl) ?_; dsimp only)); at_builtin; refine Kd.R_append Kd.string (w0 := w) w.heap.size rfl (.tmp 86) (.tmp 88) 22 9 (.string ⟨#[]⟩) 16 rfl Try.underlying22 info9 rfl (by decide) (by omega) u8 x8_1 x10_3 [.string x10_3] (fun _ => True) (fun _ => False) rfl rfl ?aP (fun _ hk => hk.elim) ?aF ?aO ?aB ?aS ?aL ?_; (case aP => exact rfl); (case aB => exact (by repeat (first | (with_reducible first | exact HB.out | apply below_alloc | apply pw_below_drewN | apply below_drew1) | exact HB.out))); (case aF => exact (fun _ _ => trivial)); (case aO => exact (by (with_reducible repeat (first | apply Kd.R_alloc | apply Kd.R_drewN | apply Kd.R_drew)); exact HO_8.out)); (case aS => exact (below_size (by repeat (first | (with_reducible first | exact HB.out | apply below_alloc | apply pw_below_drewN | apply below_drew1) | exact HB.out)))); (case aL => have := LMc35.out; omega); intro v225 w36 ho hb hg hat; rw [← Ny224.out] at ho; have n0_ := Aside0.mk (hb); have n1_ := Aside0.mk (ho); clear HB; clear HO_8; have HB := n0_; have HO226 := n1_; clear n0_ n1_; clear ho hb hg hat)))
                                      go_roundg k6
                                      case measure => have := HK1.out; have := HJ3.out; have := HK3.out; have := HJ6.out; have := HJ23.out; have := HK6.out; omega
                                      case rel => exact ⟨(x7_6 ++ x10_3), (y224), (wrap64 (x9_1 + 1)), (by first | rfl | (simp; done) | (simp [*]; done)), (by first | rfl | (simp; done) | (simp [*]; done) | (rw [Rm.wsz _ (by assumption)])), H', ⟨by have := HK1.out; have := HJ3.out; have := HK3.out; have := HJ6.out; have := HJ23.out; have := HK6.out; omega⟩, ⟨by (with_reducible repeat (first | apply Kd.R_alloc | apply Kd.R_drewN | apply Kd.R_drew)); exact HO226.out⟩, ⟨by repeat (first | (with_reducible first | exact HB.out | apply below_alloc | apply pw_below_drewN | apply below_drew1) | exact HB.out)⟩⟩
                                    · rw [if_neg c35] at H
                                      exact absurd H (by simp)
                                  · rw [if_neg c34] at H
                                    exact absurd H (by simp)
          · replace c6 := Bool.eq_false_iff.mpr c6
            subst c6
            have H1 : (if x7_1.size + 2 ≤ 9223372036854775807 then (if (x7_1 ++ (⟨#[32, 35]⟩ : ByteArray)).size + a2.size ≤ 9223372036854775807 then ((scan_Words.f kj3 ((x7_1 ++ (⟨#[32, 35]⟩ : ByteArray)) ++ a2)).bind fun bt227 => ((endonymlaw5_told.f kj3).bind fun t231 => (if t231 = true then (if (bt227.1.length : Int) = (x8_1.length : Int) then (endonymlaw5_ScanBlanks.j6 kj3 x7_1 x8_1 bt227.1 (bt227.2 != (wrap64 ((x7_1.size : Int) + 1)))) else (endonymlaw5_ScanBlanks.j6 kj3 x7_1 x8_1 bt227.1 true)) else (endonymlaw5_ScanBlanks.j6 kj3 x7_1 x8_1 bt227.1 true)))) else (none)) else (none)) = some r := by rw [if_neg (show ¬ (false = true) by decide)] at H; exact H
            clear H
            have H := H1
            clear H1
            by_cases c37 : x7_1.size + 2 ≤ 9223372036854775807
            · rw [if_pos c37] at H
              have c37b0 := eq_true c37
              have c37b1 : decide (x7_1.size + 2 ≤ 9223372036854775807) = true := decide_eq_true c37
              try have c37b2 : (9223372036854775807 < x7_1.size + 2) = False := eq_false (Nat.not_lt.2 c37)
              by_cases c38 : (x7_1 ++ (⟨#[32, 35]⟩ : ByteArray)).size + a2.size ≤ 9223372036854775807
              · rw [if_pos c38] at H
                have c38b0 := eq_true c38
                have c38b1 : decide ((x7_1 ++ (⟨#[32, 35]⟩ : ByteArray)).size + a2.size ≤ 9223372036854775807) = true := decide_eq_true c38
                try have c38b2 : (9223372036854775807 < (x7_1 ++ (⟨#[32, 35]⟩ : ByteArray)).size + a2.size) = False := eq_false (Nat.not_lt.2 c38)
                replace H := Option.bind_eq_some_iff.mp H
                obtain ⟨⟨t227, t228⟩, A390, H⟩ := H
                replace H : ((endonymlaw5_told.f kj3).bind fun t231 => (if t231 = true then (if (t227.length : Int) = (x8_1.length : Int) then (endonymlaw5_ScanBlanks.j6 kj3 x7_1 x8_1 t227 (t228 != (wrap64 ((x7_1.size : Int) + 1)))) else (endonymlaw5_ScanBlanks.j6 kj3 x7_1 x8_1 t227 true)) else (endonymlaw5_ScanBlanks.j6 kj3 x7_1 x8_1 t227 true))) = some r := H
                have A39 := Aside0.mk A390
                clear A390
                have HC40 := Aside0.mk H
                clear H
                go_upto_region 24 with (first | (go_at_call 10; (with_reducible refine (scan_Words.calls kj3 ((x7_1 ++ (⟨#[32, 35]⟩ : ByteArray)) ++ a2) t227 t228 _ A39.out).mono ?_); rintro e w41 ⟨v229, rfl, ho0, hb⟩; have n0_ := Aside0.mk (Kd.R_below (by (with_reducible repeat (first | apply Kd.R_alloc | apply Kd.R_drewN | apply Kd.R_drew)); exact HO_8.out) hb); have n1_ := Aside0.mk (Kd.R_lower ho0 (below_size (by repeat (first | (with_reducible first | exact HB.out | apply below_alloc | apply pw_below_drewN | apply below_drew1) | exact HB.out)))); have n2_ := Aside0.mk (below_step (by repeat (first | (with_reducible first | exact HB.out | apply below_alloc | apply pw_below_drewN | apply below_drew1) | exact HB.out)) hb); clear HO_8; clear HB; have HO_8 := n0_; have HO230 := n1_; have HB := n2_; clear n0_ n1_ n2_; (try clear hb); (try clear hb2); (try clear hk); (try clear hi); (try clear ho0)))
                repeat (go_quiet (first | (go_at_call 10; (with_reducible refine (scan_Words.calls kj3 ((x7_1 ++ (⟨#[32, 35]⟩ : ByteArray)) ++ a2) t227 t228 _ A39.out).mono ?_); rintro e w41 ⟨v229, rfl, ho0, hb⟩; have n0_ := Aside0.mk (Kd.R_below (by (with_reducible repeat (first | apply Kd.R_alloc | apply Kd.R_drewN | apply Kd.R_drew)); exact HO_8.out) hb); have n1_ := Aside0.mk (Kd.R_lower ho0 (below_size (by repeat (first | (with_reducible first | exact HB.out | apply below_alloc | apply pw_below_drewN | apply below_drew1) | exact HB.out)))); have n2_ := Aside0.mk (below_step (by repeat (first | (with_reducible first | exact HB.out | apply below_alloc | apply pw_below_drewN | apply below_drew1) | exact HB.out)) hb); clear HO_8; clear HB; have HO_8 := n0_; have HO230 := n1_; have HB := n2_; clear n0_ n1_ n2_; (try clear hb); (try clear hb2); (try clear hk); (try clear hi); (try clear ho0))); go_upto_region 24 with (first | (go_at_call 10; (with_reducible refine (scan_Words.calls kj3 ((x7_1 ++ (⟨#[32, 35]⟩ : ByteArray)) ++ a2) t227 t228 _ A39.out).mono ?_); rintro e w41 ⟨v229, rfl, ho0, hb⟩; have n0_ := Aside0.mk (Kd.R_below (by (with_reducible repeat (first | apply Kd.R_alloc | apply Kd.R_drewN | apply Kd.R_drew)); exact HO_8.out) hb); have n1_ := Aside0.mk (Kd.R_lower ho0 (below_size (by repeat (first | (with_reducible first | exact HB.out | apply below_alloc | apply pw_below_drewN | apply below_drew1) | exact HB.out)))); have n2_ := Aside0.mk (below_step (by repeat (first | (with_reducible first | exact HB.out | apply below_alloc | apply pw_below_drewN | apply below_drew1) | exact HB.out)) hb); clear HO_8; clear HB; have HO_8 := n0_; have HO230 := n1_; have HB := n2_; clear n0_ n1_ n2_; (try clear hb); (try clear hb2); (try clear hk); (try clear hi); (try clear ho0))))
                (try simp only [Act.put, List.setIfInBounds_toArray, List.set_cons_zero, List.set_cons_succ])
                go_cut [113] (fun v113 wc => ∃ (kq : Nat) (x113_39 : Bool), v113 = .bool x113_39 ∧ Aside0 (endonymlaw5_ScanBlanks.j6 kq x7_1 x8_1 t227 x113_39 = some r) ∧ Aside0 (kq ≤ kj3) ∧ Aside0 (Kd.R Kd.string 9 wc w.heap.size (fun _ => True) u8 x8_1) ∧ Aside0 (Kd.R k34 34 wc w.heap.size (fun _ => True) v229 t227) ∧ Aside0 (Below w.heap.size w wc))
                case first =>
                  have H := HC40.out
                  clear HC40
                  replace H := Option.bind_eq_some_iff.mp H
                  obtain ⟨t231, A420, H⟩ := H
                  replace H : (if t231 = true then (if (t227.length : Int) = (x8_1.length : Int) then (endonymlaw5_ScanBlanks.j6 kj3 x7_1 x8_1 t227 (t228 != (wrap64 ((x7_1.size : Int) + 1)))) else (endonymlaw5_ScanBlanks.j6 kj3 x7_1 x8_1 t227 true)) else (endonymlaw5_ScanBlanks.j6 kj3 x7_1 x8_1 t227 true)) = some r := H
                  have A42 := Aside0.mk A420
                  clear A420
                  by_cases c43 : t231 = true
                  · subst c43
                    have H1 : (if (t227.length : Int) = (x8_1.length : Int) then (endonymlaw5_ScanBlanks.j6 kj3 x7_1 x8_1 t227 (t228 != (wrap64 ((x7_1.size : Int) + 1)))) else (endonymlaw5_ScanBlanks.j6 kj3 x7_1 x8_1 t227 true)) = some r := by rw [if_pos rfl] at H; exact H
                    clear H
                    have H := H1
                    clear H1
                    by_cases c44 : (t227.length : Int) = (x8_1.length : Int)
                    · rw [if_pos c44] at H
                      have c44b0 : ((t227.length : Int) == (x8_1.length : Int)) = true := beq_iff_eq.mpr c44
                      have c44b1 : ((t227.length : Int) != (x8_1.length : Int)) = false := bne_eq_false_iff_eq.mpr c44
                      have c44b2 : (t227.length == x8_1.length) = true := by first | simpa using c44 | (simp at c44 ⊢; omega)
                      clear c44
                      (first | rw [c44b0] | (simp only [i64_w, i32_w]; rw [c44b0]) | skip)
                      have H' := Aside0.mk H
                      clear H
                      go_wp2_with (first | (go_at_call 8; (with_reducible refine (endonymlaw5_told.calls kj3  true _ A42.out).mono ?_); rintro e w45 ⟨rfl, hb⟩; have n0_ := Aside0.mk (Kd.R_below (by (with_reducible repeat (first | apply Kd.R_alloc | apply Kd.R_drewN | apply Kd.R_drew)); exact HO_8.out) hb); have n1_ := Aside0.mk (Kd.R_below (by (with_reducible repeat (first | apply Kd.R_alloc | apply Kd.R_drewN | apply Kd.R_drew)); exact HO230.out) hb); have n2_ := Aside0.mk (below_step (by repeat (first | (with_reducible first | exact HB.out | apply below_alloc | apply pw_below_drewN | apply below_drew1) | exact HB.out)) hb); clear HO_8; clear HO230; clear HB; have HO_8 := n0_; have HO230 := n1_; have HB := n2_; clear n0_ n1_ n2_; (try clear hb); (try clear hb2); (try clear hk); (try clear hi); obtain ⟨Ao46, co46, eo46⟩ := Kd.R_slice HO230.out; subst eo46; obtain ⟨Ao47, co47, eo47⟩ := Kd.R_slice HO_8.out; subst eo47))
                      repeat (go_quiet (first | (go_at_call 8; (with_reducible refine (endonymlaw5_told.calls kj3  true _ A42.out).mono ?_); rintro e w45 ⟨rfl, hb⟩; have n0_ := Aside0.mk (Kd.R_below (by (with_reducible repeat (first | apply Kd.R_alloc | apply Kd.R_drewN | apply Kd.R_drew)); exact HO_8.out) hb); have n1_ := Aside0.mk (Kd.R_below (by (with_reducible repeat (first | apply Kd.R_alloc | apply Kd.R_drewN | apply Kd.R_drew)); exact HO230.out) hb); have n2_ := Aside0.mk (below_step (by repeat (first | (with_reducible first | exact HB.out | apply below_alloc | apply pw_below_drewN | apply below_drew1) | exact HB.out)) hb); clear HO_8; clear HO230; clear HB; have HO_8 := n0_; have HO230 := n1_; have HB := n2_; clear n0_ n1_ n2_; (try clear hb); (try clear hb2); (try clear hk); (try clear hi); obtain ⟨Ao46, co46, eo46⟩ := Kd.R_slice HO230.out; subst eo46; obtain ⟨Ao47, co47, eo47⟩ := Kd.R_slice HO_8.out; subst eo47)); try go_wp2_with (first | (go_at_call 8; (with_reducible refine (endonymlaw5_told.calls kj3  true _ A42.out).mono ?_); rintro e w45 ⟨rfl, hb⟩; have n0_ := Aside0.mk (Kd.R_below (by (with_reducible repeat (first | apply Kd.R_alloc | apply Kd.R_drewN | apply Kd.R_drew)); exact HO_8.out) hb); have n1_ := Aside0.mk (Kd.R_below (by (with_reducible repeat (first | apply Kd.R_alloc | apply Kd.R_drewN | apply Kd.R_drew)); exact HO230.out) hb); have n2_ := Aside0.mk (below_step (by repeat (first | (with_reducible first | exact HB.out | apply below_alloc | apply pw_below_drewN | apply below_drew1) | exact HB.out)) hb); clear HO_8; clear HO230; clear HB; have HO_8 := n0_; have HO230 := n1_; have HB := n2_; clear n0_ n1_ n2_; (try clear hb); (try clear hb2); (try clear hk); (try clear hi); obtain ⟨Ao46, co46, eo46⟩ := Kd.R_slice HO230.out; subst eo46; obtain ⟨Ao47, co47, eo47⟩ := Kd.R_slice HO_8.out; subst eo47)))
                      go_meet
                      case rel => exact ⟨_, ((t228 != (wrap64 ((x7_1.size : Int) + 1)))), (by first | rfl | (simp; done) | (simp [*]; done) | (rw [Rm.wsz _ (by assumption)])), H', ⟨by have := HK1.out; have := HJ3.out; first | omega | exact Nat.le_refl _⟩, ⟨by (with_reducible repeat (first | apply Kd.R_alloc | apply Kd.R_drewN | apply Kd.R_drew)); exact HO_8.out⟩, ⟨by (with_reducible repeat (first | apply Kd.R_alloc | apply Kd.R_drewN | apply Kd.R_drew)); exact HO230.out⟩, ⟨by repeat (first | (with_reducible first | exact HB.out | apply below_alloc | apply pw_below_drewN | apply below_drew1) | exact HB.out)⟩⟩
                    · rw [if_neg c44] at H
                      have c44b0 : ((t227.length : Int) == (x8_1.length : Int)) = false := beq_eq_false_iff_ne.mpr c44
                      have c44b1 : ((t227.length : Int) != (x8_1.length : Int)) = true := bne_iff_ne.mpr c44
                      have c44b2 : (t227.length == x8_1.length) = false := by first | simpa using c44 | (simp at c44 ⊢; omega)
                      (first | rw [c44b0] | (simp only [i64_w, i32_w]; rw [c44b0]) | skip)
                      have H' := Aside0.mk H
                      clear H
                      go_wp2_with (first | (go_at_call 8; (with_reducible refine (endonymlaw5_told.calls kj3  true _ A42.out).mono ?_); rintro e w48 ⟨rfl, hb⟩; have n0_ := Aside0.mk (Kd.R_below (by (with_reducible repeat (first | apply Kd.R_alloc | apply Kd.R_drewN | apply Kd.R_drew)); exact HO_8.out) hb); have n1_ := Aside0.mk (Kd.R_below (by (with_reducible repeat (first | apply Kd.R_alloc | apply Kd.R_drewN | apply Kd.R_drew)); exact HO230.out) hb); have n2_ := Aside0.mk (below_step (by repeat (first | (with_reducible first | exact HB.out | apply below_alloc | apply pw_below_drewN | apply below_drew1) | exact HB.out)) hb); clear HO_8; clear HO230; clear HB; have HO_8 := n0_; have HO230 := n1_; have HB := n2_; clear n0_ n1_ n2_; (try clear hb); (try clear hb2); (try clear hk); (try clear hi); obtain ⟨Ao49, co49, eo49⟩ := Kd.R_slice HO230.out; subst eo49; obtain ⟨Ao50, co50, eo50⟩ := Kd.R_slice HO_8.out; subst eo50))
                      repeat (go_quiet (first | (go_at_call 8; (with_reducible refine (endonymlaw5_told.calls kj3  true _ A42.out).mono ?_); rintro e w48 ⟨rfl, hb⟩; have n0_ := Aside0.mk (Kd.R_below (by (with_reducible repeat (first | apply Kd.R_alloc | apply Kd.R_drewN | apply Kd.R_drew)); exact HO_8.out) hb); have n1_ := Aside0.mk (Kd.R_below (by (with_reducible repeat (first | apply Kd.R_alloc | apply Kd.R_drewN | apply Kd.R_drew)); exact HO230.out) hb); have n2_ := Aside0.mk (below_step (by repeat (first | (with_reducible first | exact HB.out | apply below_alloc | apply pw_below_drewN | apply below_drew1) | exact HB.out)) hb); clear HO_8; clear HO230; clear HB; have HO_8 := n0_; have HO230 := n1_; have HB := n2_; clear n0_ n1_ n2_; (try clear hb); (try clear hb2); (try clear hk); (try clear hi); obtain ⟨Ao49, co49, eo49⟩ := Kd.R_slice HO230.out; subst eo49; obtain ⟨Ao50, co50, eo50⟩ := Kd.R_slice HO_8.out; subst eo50)); try go_wp2_with (first | (go_at_call 8; (with_reducible refine (endonymlaw5_told.calls kj3  true _ A42.out).mono ?_); rintro e w48 ⟨rfl, hb⟩; have n0_ := Aside0.mk (Kd.R_below (by (with_reducible repeat (first | apply Kd.R_alloc | apply Kd.R_drewN | apply Kd.R_drew)); exact HO_8.out) hb); have n1_ := Aside0.mk (Kd.R_below (by (with_reducible repeat (first | apply Kd.R_alloc | apply Kd.R_drewN | apply Kd.R_drew)); exact HO230.out) hb); have n2_ := Aside0.mk (below_step (by repeat (first | (with_reducible first | exact HB.out | apply below_alloc | apply pw_below_drewN | apply below_drew1) | exact HB.out)) hb); clear HO_8; clear HO230; clear HB; have HO_8 := n0_; have HO230 := n1_; have HB := n2_; clear n0_ n1_ n2_; (try clear hb); (try clear hb2); (try clear hk); (try clear hi); obtain ⟨Ao49, co49, eo49⟩ := Kd.R_slice HO230.out; subst eo49; obtain ⟨Ao50, co50, eo50⟩ := Kd.R_slice HO_8.out; subst eo50)))
                      go_meet
                      case rel => exact ⟨_, (true), (by first | rfl | (simp; done) | (simp [*]; done) | (rw [Rm.wsz _ (by assumption)])), H', ⟨by have := HK1.out; have := HJ3.out; first | omega | exact Nat.le_refl _⟩, ⟨by (with_reducible repeat (first | apply Kd.R_alloc | apply Kd.R_drewN | apply Kd.R_drew)); exact HO_8.out⟩, ⟨by (with_reducible repeat (first | apply Kd.R_alloc | apply Kd.R_drewN | apply Kd.R_drew)); exact HO230.out⟩, ⟨by repeat (first | (with_reducible first | exact HB.out | apply below_alloc | apply pw_below_drewN | apply below_drew1) | exact HB.out)⟩⟩
                  · replace c43 := Bool.eq_false_iff.mpr c43
                    subst c43
                    have H1 : (endonymlaw5_ScanBlanks.j6 kj3 x7_1 x8_1 t227 true) = some r := by rw [if_neg (show ¬ (false = true) by decide)] at H; exact H
                    clear H
                    have H := H1
                    clear H1
                    have H' := Aside0.mk H
                    clear H
                    go_wp2_with (first | (go_at_call 8; (with_reducible refine (endonymlaw5_told.calls kj3  false _ A42.out).mono ?_); rintro e w51 ⟨rfl, hb⟩; have n0_ := Aside0.mk (Kd.R_below (by (with_reducible repeat (first | apply Kd.R_alloc | apply Kd.R_drewN | apply Kd.R_drew)); exact HO_8.out) hb); have n1_ := Aside0.mk (Kd.R_below (by (with_reducible repeat (first | apply Kd.R_alloc | apply Kd.R_drewN | apply Kd.R_drew)); exact HO230.out) hb); have n2_ := Aside0.mk (below_step (by repeat (first | (with_reducible first | exact HB.out | apply below_alloc | apply pw_below_drewN | apply below_drew1) | exact HB.out)) hb); clear HO_8; clear HO230; clear HB; have HO_8 := n0_; have HO230 := n1_; have HB := n2_; clear n0_ n1_ n2_; (try clear hb); (try clear hb2); (try clear hk); (try clear hi)))
                    repeat (go_quiet (first | (go_at_call 8; (with_reducible refine (endonymlaw5_told.calls kj3  false _ A42.out).mono ?_); rintro e w51 ⟨rfl, hb⟩; have n0_ := Aside0.mk (Kd.R_below (by (with_reducible repeat (first | apply Kd.R_alloc | apply Kd.R_drewN | apply Kd.R_drew)); exact HO_8.out) hb); have n1_ := Aside0.mk (Kd.R_below (by (with_reducible repeat (first | apply Kd.R_alloc | apply Kd.R_drewN | apply Kd.R_drew)); exact HO230.out) hb); have n2_ := Aside0.mk (below_step (by repeat (first | (with_reducible first | exact HB.out | apply below_alloc | apply pw_below_drewN | apply below_drew1) | exact HB.out)) hb); clear HO_8; clear HO230; clear HB; have HO_8 := n0_; have HO230 := n1_; have HB := n2_; clear n0_ n1_ n2_; (try clear hb); (try clear hb2); (try clear hk); (try clear hi))); try go_wp2_with (first | (go_at_call 8; (with_reducible refine (endonymlaw5_told.calls kj3  false _ A42.out).mono ?_); rintro e w51 ⟨rfl, hb⟩; have n0_ := Aside0.mk (Kd.R_below (by (with_reducible repeat (first | apply Kd.R_alloc | apply Kd.R_drewN | apply Kd.R_drew)); exact HO_8.out) hb); have n1_ := Aside0.mk (Kd.R_below (by (with_reducible repeat (first | apply Kd.R_alloc | apply Kd.R_drewN | apply Kd.R_drew)); exact HO230.out) hb); have n2_ := Aside0.mk (below_step (by repeat (first | (with_reducible first | exact HB.out | apply below_alloc | apply pw_below_drewN | apply below_drew1) | exact HB.out)) hb); clear HO_8; clear HO230; clear HB; have HO_8 := n0_; have HO230 := n1_; have HB := n2_; clear n0_ n1_ n2_; (try clear hb); (try clear hb2); (try clear hk); (try clear hi))))
                    go_meet
                    case rel => exact ⟨_, (true), (by first | rfl | (simp; done) | (simp [*]; done) | (rw [Rm.wsz _ (by assumption)])), H', ⟨by have := HK1.out; have := HJ3.out; first | omega | exact Nat.le_refl _⟩, ⟨by (with_reducible repeat (first | apply Kd.R_alloc | apply Kd.R_drewN | apply Kd.R_drew)); exact HO_8.out⟩, ⟨by (with_reducible repeat (first | apply Kd.R_alloc | apply Kd.R_drewN | apply Kd.R_drew)); exact HO230.out⟩, ⟨by repeat (first | (with_reducible first | exact HB.out | apply below_alloc | apply pw_below_drewN | apply below_drew1) | exact HB.out)⟩⟩
                case rest =>
                  clear HC40
                  try clear c1
                  try clear p1
                  try clear q1
                  try clear hx1
                  try clear c2
                  try clear p2
                  try clear q2
                  try clear hx2
                  try clear hcv2
                  try clear c3
                  try clear c4
                  try clear c5
                  try clear c5b0
                  try clear c6
                  try clear p6
                  try clear c8
                  try clear c8b0
                  try clear c9
                  try clear c9b0
                  try clear c10
                  try clear c10b0
                  try clear c11
                  try clear c12
                  try clear c12b0
                  try clear c13
                  try clear c13b0
                  try clear c14
                  try clear c14b0
                  try clear c15
                  try clear c15b0
                  try clear p16
                  try clear q16
                  try clear hx16
                  try clear c17
                  try clear c17b0
                  try clear c18
                  try clear c18b0
                  try clear c18b1
                  try clear c19
                  try clear c19b0
                  try clear c19b1
                  try clear c19b2
                  try clear p21
                  try clear q21
                  try clear hx21
                  try clear p22
                  try clear q22
                  try clear hx22
                  try clear hcv22
                  try clear c23
                  try clear c23b0
                  try clear c23b1
                  try clear c25
                  try clear c25b0
                  try clear c26
                  try clear c26b0
                  try clear c27
                  try clear c27b0
                  try clear c28
                  try clear c29
                  try clear c29b0
                  try clear c29b1
                  try clear c29b2
                  try clear c30
                  try clear c31
                  try clear c31b0
                  try clear c31b1
                  try clear c31b2
                  try clear c32
                  try clear c33
                  try clear c33b0
                  try clear c33b1
                  try clear c33b2
                  try clear c34
                  try clear c34b0
                  try clear c34b1
                  try clear c34b2
                  try clear c35
                  try clear c37
                  try clear c37b0
                  try clear c37b1
                  try clear c37b2
                  try clear c38
                  try clear c38b0
                  try clear c38b1
                  try clear c38b2
                  try clear c43
                  try clear c44
                  try clear c44b0
                  try clear c44b1
                  try clear c44b2
                  try clear hx218_0
                  try clear hx219_0
                  try clear hx223_0
                  try clear p1
                  try clear p16
                  try clear p2
                  try clear p21
                  try clear p218
                  try clear p219
                  try clear p22
                  try clear p223
                  try clear p6
                  try clear q1
                  try clear q16
                  try clear q2
                  try clear q21
                  try clear q218
                  try clear q219
                  try clear q22
                  try clear q223
                  obtain ⟨kq, x113_39, rfl, HA, HJ39, HO_8, HO_15, HB⟩ := hcut
                  cases kq with
                  | zero => exact absurd HA.out (by simp [endonymlaw5_ScanBlanks.j6])
                  | succ kj39 =>
                    have H := HA.out
                    clear HA
                    simp only [endonymlaw5_ScanBlanks.j6] at H
                    by_cases c52 : x113_39 = true
                    · subst c52
                      have H1 : (some false) = some r := by rw [if_pos rfl] at H; exact H
                      clear H
                      have H := H1
                      clear H1
                      obtain rfl := Option.some.inj H
                      go_wp2
                      repeat (go_quiet (fail); try go_wp2)
                      go_ret
                      exact ⟨by first | rfl | (simp [errW_none, errW_some] <;> rfl) | (simp [*, errW_none, errW_some] <;> rfl), by repeat (first | (with_reducible first | exact HB.out | apply below_alloc | apply pw_below_drewN | apply below_drew1) | exact HB.out)⟩
                    · replace c52 := Bool.eq_false_iff.mpr c52
                      subst c52
                      have H1 : (endonymlaw5_ScanBlanks.l3 kj39 x7_1 x8_1 t227 0) = some r := by rw [if_neg (show ¬ (false = true) by decide)] at H; exact H
                      clear H
                      have H := H1
                      clear H1
                      have H' := Aside0.mk H
                      clear H
                      go_wp2
                      repeat (go_quiet (fail); try go_wp2)
                      go_loopg [17] kj39 (fun kq v17 w' => ∃ (x17_4 : Int), v17 = .int .i64 x17_4 ∧ Aside0 (endonymlaw5_ScanBlanks.l3 kq x7_1 x8_1 t227 x17_4 = some r) ∧ Aside0 (kq ≤ kj39) ∧ Aside0 (Kd.R Kd.string 9 w' w.heap.size (fun _ => True) u8 x8_1) ∧ Aside0 (Kd.R k34 34 w' w.heap.size (fun _ => True) v229 t227) ∧ Aside0 (Below w.heap.size w w'))
                      case atStart => exact ⟨(0), (by first | rfl | (simp; done) | (simp [*]; done) | (rw [Rm.wsz _ (by assumption)])), H', ⟨Nat.le_refl _⟩, ⟨by (with_reducible repeat (first | apply Kd.R_alloc | apply Kd.R_drewN | apply Kd.R_drew)); exact HO_8.out⟩, ⟨by (with_reducible repeat (first | apply Kd.R_alloc | apply Kd.R_drewN | apply Kd.R_drew)); exact HO_15.out⟩, ⟨by repeat (first | (with_reducible first | exact HB.out | apply below_alloc | apply pw_below_drewN | apply below_drew1) | exact HB.out)⟩⟩
                      case round =>
                        clear H'
                        try clear c1
                        try clear p1
                        try clear q1
                        try clear hx1
                        try clear c2
                        try clear p2
                        try clear q2
                        try clear hx2
                        try clear hcv2
                        try clear c3
                        try clear c4
                        try clear c5
                        try clear c5b0
                        try clear c6
                        try clear p6
                        try clear c8
                        try clear c8b0
                        try clear c9
                        try clear c9b0
                        try clear c10
                        try clear c10b0
                        try clear c11
                        try clear c12
                        try clear c12b0
                        try clear c13
                        try clear c13b0
                        try clear c14
                        try clear c14b0
                        try clear c15
                        try clear c15b0
                        try clear p16
                        try clear q16
                        try clear hx16
                        try clear c17
                        try clear c17b0
                        try clear c18
                        try clear c18b0
                        try clear c18b1
                        try clear c19
                        try clear c19b0
                        try clear c19b1
                        try clear c19b2
                        try clear p21
                        try clear q21
                        try clear hx21
                        try clear p22
                        try clear q22
                        try clear hx22
                        try clear hcv22
                        try clear c23
                        try clear c23b0
                        try clear c23b1
                        try clear c25
                        try clear c25b0
                        try clear c26
                        try clear c26b0
                        try clear c27
                        try clear c27b0
                        try clear c28
                        try clear c29
                        try clear c29b0
                        try clear c29b1
                        try clear c29b2
                        try clear c30
                        try clear c31
                        try clear c31b0
                        try clear c31b1
                        try clear c31b2
                        try clear c32
                        try clear c33
                        try clear c33b0
                        try clear c33b1
                        try clear c33b2
                        try clear c34
                        try clear c34b0
                        try clear c34b1
                        try clear c34b2
                        try clear c35
                        try clear c37
                        try clear c37b0
                        try clear c37b1
                        try clear c37b2
                        try clear c38
                        try clear c38b0
                        try clear c38b1
                        try clear c38b2
                        try clear c43
                        try clear c44
                        try clear c44b0
                        try clear c44b1
                        try clear c44b2
                        try clear c52
                        try clear hx218_0
                        try clear hx219_0
                        try clear hx223_0
                        try clear p1
                        try clear p16
                        try clear p2
                        try clear p21
                        try clear p218
                        try clear p219
                        try clear p22
                        try clear p223
                        try clear p6
                        try clear q1
                        try clear q16
                        try clear q2
                        try clear q21
                        try clear q218
                        try clear q219
                        try clear q22
                        try clear q223
                        obtain ⟨x17_4, rfl, HA, HK4, HO_8, HO_15, HB⟩ := hrel
                        cases gk with
                        | zero => exact absurd HA.out (by simp [endonymlaw5_ScanBlanks.l3])
                        | succ k4 =>
                          have H := HA.out
                          clear HA
                          simp only [endonymlaw5_ScanBlanks.l3] at H
                          by_cases c53 : x17_4 < (t227.length : Int)
                          · rw [if_pos c53] at H
                            have c53b0 : decide (x17_4 < (t227.length : Int)) = true := decide_eq_true c53
                            clear c53
                            by_cases c54 : 0 ≤ x17_4
                            · rw [if_pos c54] at H
                              have c54b0 : decide (0 ≤ x17_4) = true := decide_eq_true c54
                              clear c54
                              by_cases c55 : x17_4 < (x8_1.length : Int)
                              · rw [if_pos c55] at H
                                have c55b0 : decide (x17_4 < (x8_1.length : Int)) = true := decide_eq_true c55
                                clear c55
                                by_cases c56 : ((rd_T34 t227 x17_4).f0).toList = (rdOf ByteArray.empty x8_1 x17_4).toList
                                · rw [if_pos c56] at H
                                  have c56b0 : (((rd_T34 t227 x17_4).f0).toList == (rdOf ByteArray.empty x8_1 x17_4).toList) = true := beq_iff_eq.mpr c56
                                  have c56b1 : (((rd_T34 t227 x17_4).f0).toList != (rdOf ByteArray.empty x8_1 x17_4).toList) = false := bne_eq_false_iff_eq.mpr c56
                                  clear c56
                                  by_cases c57 : ((rd_T34 t227 x17_4).f1) < 0
                                  · rw [if_pos c57] at H
                                    have c57b0 : decide (((rd_T34 t227 x17_4).f1) < 0) = true := decide_eq_true c57
                                    clear c57
                                    obtain rfl := Option.some.inj H
                                    obtain ⟨Ao58, co58, eo58⟩ := Kd.R_slice HO_15.out
                                    subst eo58
                                    have p232 : 0 ≤ (x17_4 : Int) := of_decide_eq_true (by first | (with_reducible assumption) | assumption)
                                    have q232 : x17_4 < (t227.length : Int) := of_decide_eq_true (by first | (with_reducible assumption) | assumption)
                                    obtain ⟨ad232, e232, hx232_0, hx232_1⟩ := at_T34 (Kd.R_reads' HO_15.out).2.2 x17_4 p232 q232
                                    cases e232
                                    replace p232 := eq_true p232
                                    replace q232 := eq_true q232
                                    obtain ⟨Ao59, co59, eo59⟩ := Kd.R_slice HO_8.out
                                    subst eo59
                                    have p233 : 0 ≤ (x17_4 : Int) := of_decide_eq_true (by first | (with_reducible assumption) | assumption)
                                    have q233 : x17_4 < (x8_1.length : Int) := of_decide_eq_true (by first | (with_reducible assumption) | assumption)
                                    obtain ⟨ad233, e233, hx233_0⟩ := Kd.at_string (Kd.R_reads' HO_8.out).2.2 x17_4 p233 q233
                                    cases e233
                                    replace p233 := eq_true p233
                                    replace q233 := eq_true q233
                                    have p234 : 0 ≤ (x17_4 : Int) := of_decide_eq_true (by first | (with_reducible assumption) | assumption)
                                    have q234 : x17_4 < (t227.length : Int) := of_decide_eq_true (by first | (with_reducible assumption) | assumption)
                                    obtain ⟨ad234, e234, hx234_0, hx234_1⟩ := at_T34 (Kd.R_reads' HO_15.out).2.2 x17_4 p234 q234
                                    obtain rfl : ad232 = ad234 := (by injection e234)
                                    replace p234 := eq_true p234
                                    replace q234 := eq_true q234
                                    go_wp2
                                    repeat (go_quiet (fail); try go_wp2)
                                    go_ret
                                    exact ⟨by first | rfl | (simp [errW_none, errW_some] <;> rfl) | (simp [*, errW_none, errW_some] <;> rfl), by repeat (first | (with_reducible first | exact HB.out | apply below_alloc | apply pw_below_drewN | apply below_drew1) | exact HB.out)⟩
                                  · rw [if_neg c57] at H
                                    have c57b0 : decide (((rd_T34 t227 x17_4).f1) < 0) = false := decide_eq_false c57
                                    clear c57
                                    by_cases c60 : (wrap64 (((rd_T34 t227 x17_4).f1) + ((rdOf ByteArray.empty x8_1 x17_4).size : Int))) > (x7_1.size : Int)
                                    · rw [if_pos c60] at H
                                      have c60b0 : decide ((x7_1.size : Int) < (wrap64 (((rd_T34 t227 x17_4).f1) + ((rdOf ByteArray.empty x8_1 x17_4).size : Int)))) = true := decide_eq_true c60
                                      clear c60
                                      obtain rfl := Option.some.inj H
                                      obtain ⟨Ao61, co61, eo61⟩ := Kd.R_slice HO_15.out
                                      subst eo61
                                      have p232 : 0 ≤ (x17_4 : Int) := of_decide_eq_true (by first | (with_reducible assumption) | assumption)
                                      have q232 : x17_4 < (t227.length : Int) := of_decide_eq_true (by first | (with_reducible assumption) | assumption)
                                      obtain ⟨ad232, e232, hx232_0, hx232_1⟩ := at_T34 (Kd.R_reads' HO_15.out).2.2 x17_4 p232 q232
                                      cases e232
                                      replace p232 := eq_true p232
                                      replace q232 := eq_true q232
                                      obtain ⟨Ao62, co62, eo62⟩ := Kd.R_slice HO_8.out
                                      subst eo62
                                      have p233 : 0 ≤ (x17_4 : Int) := of_decide_eq_true (by first | (with_reducible assumption) | assumption)
                                      have q233 : x17_4 < (x8_1.length : Int) := of_decide_eq_true (by first | (with_reducible assumption) | assumption)
                                      obtain ⟨ad233, e233, hx233_0⟩ := Kd.at_string (Kd.R_reads' HO_8.out).2.2 x17_4 p233 q233
                                      cases e233
                                      replace p233 := eq_true p233
                                      replace q233 := eq_true q233
                                      have p234 : 0 ≤ (x17_4 : Int) := of_decide_eq_true (by first | (with_reducible assumption) | assumption)
                                      have q234 : x17_4 < (t227.length : Int) := of_decide_eq_true (by first | (with_reducible assumption) | assumption)
                                      obtain ⟨ad234, e234, hx234_0, hx234_1⟩ := at_T34 (Kd.R_reads' HO_15.out).2.2 x17_4 p234 q234
                                      obtain rfl : ad232 = ad234 := (by injection e234)
                                      replace p234 := eq_true p234
                                      replace q234 := eq_true q234
                                      have p235 : 0 ≤ (x17_4 : Int) := of_decide_eq_true (by first | (with_reducible assumption) | assumption)
                                      have q235 : x17_4 < (t227.length : Int) := of_decide_eq_true (by first | (with_reducible assumption) | assumption)
                                      obtain ⟨ad235, e235, hx235_0, hx235_1⟩ := at_T34 (Kd.R_reads' HO_15.out).2.2 x17_4 p235 q235
                                      obtain rfl : ad232 = ad235 := (by injection e235)
                                      replace p235 := eq_true p235
                                      replace q235 := eq_true q235
                                      have p236 : 0 ≤ (x17_4 : Int) := of_decide_eq_true (by first | (with_reducible assumption) | assumption)
                                      have q236 : x17_4 < (x8_1.length : Int) := of_decide_eq_true (by first | (with_reducible assumption) | assumption)
                                      obtain ⟨ad236, e236, hx236_0⟩ := Kd.at_string (Kd.R_reads' HO_8.out).2.2 x17_4 p236 q236
                                      obtain rfl : ad233 = ad236 := (by injection e236)
                                      replace p236 := eq_true p236
                                      replace q236 := eq_true q236
                                      go_wp2
                                      repeat (go_quiet (fail); try go_wp2)
                                      go_ret
                                      exact ⟨by first | rfl | (simp [errW_none, errW_some] <;> rfl) | (simp [*, errW_none, errW_some] <;> rfl), by repeat (first | (with_reducible first | exact HB.out | apply below_alloc | apply pw_below_drewN | apply below_drew1) | exact HB.out)⟩
                                    · rw [if_neg c60] at H
                                      have c60b0 : decide ((x7_1.size : Int) < (wrap64 (((rd_T34 t227 x17_4).f1) + ((rdOf ByteArray.empty x8_1 x17_4).size : Int)))) = false := decide_eq_false c60
                                      clear c60
                                      by_cases c63 : 0 ≤ ((rd_T34 t227 x17_4).f1)
                                      · rw [if_pos c63] at H
                                        have c63b0 := eq_true c63
                                        have c63b1 : decide (0 ≤ ((rd_T34 t227 x17_4).f1)) = true := decide_eq_true c63
                                        clear c63
                                        by_cases c64 : ((rd_T34 t227 x17_4).f1) ≤ (wrap64 (((rd_T34 t227 x17_4).f1) + ((rdOf ByteArray.empty x8_1 x17_4).size : Int)))
                                        · rw [if_pos c64] at H
                                          have c64b0 := eq_true c64
                                          have c64b1 : decide (((rd_T34 t227 x17_4).f1) ≤ (wrap64 (((rd_T34 t227 x17_4).f1) + ((rdOf ByteArray.empty x8_1 x17_4).size : Int)))) = true := decide_eq_true c64
                                          by_cases c65 : (wrap64 (((rd_T34 t227 x17_4).f1) + ((rdOf ByteArray.empty x8_1 x17_4).size : Int))) ≤ (x7_1.size : Int)
                                          · rw [if_pos c65] at H
                                            have c65b0 := eq_true c65
                                            have c65b1 : decide ((wrap64 (((rd_T34 t227 x17_4).f1) + ((rdOf ByteArray.empty x8_1 x17_4).size : Int))) ≤ (x7_1.size : Int)) = true := decide_eq_true c65
                                            by_cases c66 : (x7_1.extract (((rd_T34 t227 x17_4).f1) : Int).toNat ((wrap64 (((rd_T34 t227 x17_4).f1) + ((rdOf ByteArray.empty x8_1 x17_4).size : Int))) : Int).toNat).toList = (rdOf ByteArray.empty x8_1 x17_4).toList
                                            · rw [if_pos c66] at H
                                              have c66b0 : ((x7_1.extract (((rd_T34 t227 x17_4).f1) : Int).toNat ((wrap64 (((rd_T34 t227 x17_4).f1) + ((rdOf ByteArray.empty x8_1 x17_4).size : Int))) : Int).toNat).toList == (rdOf ByteArray.empty x8_1 x17_4).toList) = true := beq_iff_eq.mpr c66
                                              have c66b1 : ((x7_1.extract (((rd_T34 t227 x17_4).f1) : Int).toNat ((wrap64 (((rd_T34 t227 x17_4).f1) + ((rdOf ByteArray.empty x8_1 x17_4).size : Int))) : Int).toNat).toList != (rdOf ByteArray.empty x8_1 x17_4).toList) = false := bne_eq_false_iff_eq.mpr c66
                                              clear c66
                                              have H' := Aside0.mk H
                                              clear H
                                              obtain ⟨Ao67, co67, eo67⟩ := Kd.R_slice HO_15.out
                                              subst eo67
                                              have p232 : 0 ≤ (x17_4 : Int) := of_decide_eq_true (by first | (with_reducible assumption) | assumption)
                                              have q232 : x17_4 < (t227.length : Int) := of_decide_eq_true (by first | (with_reducible assumption) | assumption)
                                              obtain ⟨ad232, e232, hx232_0, hx232_1⟩ := at_T34 (Kd.R_reads' HO_15.out).2.2 x17_4 p232 q232
                                              cases e232
                                              replace p232 := eq_true p232
                                              replace q232 := eq_true q232
                                              obtain ⟨Ao68, co68, eo68⟩ := Kd.R_slice HO_8.out
                                              subst eo68
                                              have p233 : 0 ≤ (x17_4 : Int) := of_decide_eq_true (by first | (with_reducible assumption) | assumption)
                                              have q233 : x17_4 < (x8_1.length : Int) := of_decide_eq_true (by first | (with_reducible assumption) | assumption)
                                              obtain ⟨ad233, e233, hx233_0⟩ := Kd.at_string (Kd.R_reads' HO_8.out).2.2 x17_4 p233 q233
                                              cases e233
                                              replace p233 := eq_true p233
                                              replace q233 := eq_true q233
                                              have p234 : 0 ≤ (x17_4 : Int) := of_decide_eq_true (by first | (with_reducible assumption) | assumption)
                                              have q234 : x17_4 < (t227.length : Int) := of_decide_eq_true (by first | (with_reducible assumption) | assumption)
                                              obtain ⟨ad234, e234, hx234_0, hx234_1⟩ := at_T34 (Kd.R_reads' HO_15.out).2.2 x17_4 p234 q234
                                              obtain rfl : ad232 = ad234 := (by injection e234)
                                              replace p234 := eq_true p234
                                              replace q234 := eq_true q234
                                              have p235 : 0 ≤ (x17_4 : Int) := of_decide_eq_true (by first | (with_reducible assumption) | assumption)
                                              have q235 : x17_4 < (t227.length : Int) := of_decide_eq_true (by first | (with_reducible assumption) | assumption)
                                              obtain ⟨ad235, e235, hx235_0, hx235_1⟩ := at_T34 (Kd.R_reads' HO_15.out).2.2 x17_4 p235 q235
                                              obtain rfl : ad232 = ad235 := (by injection e235)
                                              replace p235 := eq_true p235
                                              replace q235 := eq_true q235
                                              have p236 : 0 ≤ (x17_4 : Int) := of_decide_eq_true (by first | (with_reducible assumption) | assumption)
                                              have q236 : x17_4 < (x8_1.length : Int) := of_decide_eq_true (by first | (with_reducible assumption) | assumption)
                                              obtain ⟨ad236, e236, hx236_0⟩ := Kd.at_string (Kd.R_reads' HO_8.out).2.2 x17_4 p236 q236
                                              obtain rfl : ad233 = ad236 := (by injection e236)
                                              replace p236 := eq_true p236
                                              replace q236 := eq_true q236
                                              have p237 : 0 ≤ (x17_4 : Int) := of_decide_eq_true (by first | (with_reducible assumption) | assumption)
                                              have q237 : x17_4 < (t227.length : Int) := of_decide_eq_true (by first | (with_reducible assumption) | assumption)
                                              obtain ⟨ad237, e237, hx237_0, hx237_1⟩ := at_T34 (Kd.R_reads' HO_15.out).2.2 x17_4 p237 q237
                                              obtain rfl : ad232 = ad237 := (by injection e237)
                                              replace p237 := eq_true p237
                                              replace q237 := eq_true q237
                                              have p238 : 0 ≤ (x17_4 : Int) := of_decide_eq_true (by first | (with_reducible assumption) | assumption)
                                              have q238 : x17_4 < (t227.length : Int) := of_decide_eq_true (by first | (with_reducible assumption) | assumption)
                                              obtain ⟨ad238, e238, hx238_0, hx238_1⟩ := at_T34 (Kd.R_reads' HO_15.out).2.2 x17_4 p238 q238
                                              obtain rfl : ad232 = ad238 := (by injection e238)
                                              replace p238 := eq_true p238
                                              replace q238 := eq_true q238
                                              have p239 : 0 ≤ (x17_4 : Int) := of_decide_eq_true (by first | (with_reducible assumption) | assumption)
                                              have q239 : x17_4 < (x8_1.length : Int) := of_decide_eq_true (by first | (with_reducible assumption) | assumption)
                                              obtain ⟨ad239, e239, hx239_0⟩ := Kd.at_string (Kd.R_reads' HO_8.out).2.2 x17_4 p239 q239
                                              obtain rfl : ad233 = ad239 := (by injection e239)
                                              replace p239 := eq_true p239
                                              replace q239 := eq_true q239
                                              have p240 : 0 ≤ (x17_4 : Int) := of_decide_eq_true (by first | (with_reducible assumption) | assumption)
                                              have q240 : x17_4 < (x8_1.length : Int) := of_decide_eq_true (by first | (with_reducible assumption) | assumption)
                                              obtain ⟨ad240, e240, hx240_0⟩ := Kd.at_string (Kd.R_reads' HO_8.out).2.2 x17_4 p240 q240
                                              obtain rfl : ad233 = ad240 := (by injection e240)
                                              replace p240 := eq_true p240
                                              replace q240 := eq_true q240
                                              go_wp2
                                              repeat (go_quiet (fail); try go_wp2)
                                              go_roundg k4
                                              case measure => have := HK1.out; have := HJ3.out; have := HJ39.out; have := HK4.out; omega
                                              case rel => exact ⟨(wrap64 (x17_4 + 1)), (by first | rfl | (simp; done) | (simp [*]; done) | (rw [Rm.wsz _ (by assumption)])), H', ⟨by have := HK1.out; have := HJ3.out; have := HJ39.out; have := HK4.out; omega⟩, ⟨by (with_reducible repeat (first | apply Kd.R_alloc | apply Kd.R_drewN | apply Kd.R_drew)); exact HO_8.out⟩, ⟨by (with_reducible repeat (first | apply Kd.R_alloc | apply Kd.R_drewN | apply Kd.R_drew)); exact HO_15.out⟩, ⟨by repeat (first | (with_reducible first | exact HB.out | apply below_alloc | apply pw_below_drewN | apply below_drew1) | exact HB.out)⟩⟩
                                            · rw [if_neg c66] at H
                                              have c66b0 : ((x7_1.extract (((rd_T34 t227 x17_4).f1) : Int).toNat ((wrap64 (((rd_T34 t227 x17_4).f1) + ((rdOf ByteArray.empty x8_1 x17_4).size : Int))) : Int).toNat).toList == (rdOf ByteArray.empty x8_1 x17_4).toList) = false := beq_eq_false_iff_ne.mpr c66
                                              have c66b1 : ((x7_1.extract (((rd_T34 t227 x17_4).f1) : Int).toNat ((wrap64 (((rd_T34 t227 x17_4).f1) + ((rdOf ByteArray.empty x8_1 x17_4).size : Int))) : Int).toNat).toList != (rdOf ByteArray.empty x8_1 x17_4).toList) = true := bne_iff_ne.mpr c66
                                              obtain rfl := Option.some.inj H
                                              obtain ⟨Ao69, co69, eo69⟩ := Kd.R_slice HO_15.out
                                              subst eo69
                                              have p232 : 0 ≤ (x17_4 : Int) := of_decide_eq_true (by first | (with_reducible assumption) | assumption)
                                              have q232 : x17_4 < (t227.length : Int) := of_decide_eq_true (by first | (with_reducible assumption) | assumption)
                                              obtain ⟨ad232, e232, hx232_0, hx232_1⟩ := at_T34 (Kd.R_reads' HO_15.out).2.2 x17_4 p232 q232
                                              cases e232
                                              replace p232 := eq_true p232
                                              replace q232 := eq_true q232
                                              obtain ⟨Ao70, co70, eo70⟩ := Kd.R_slice HO_8.out
                                              subst eo70
                                              have p233 : 0 ≤ (x17_4 : Int) := of_decide_eq_true (by first | (with_reducible assumption) | assumption)
                                              have q233 : x17_4 < (x8_1.length : Int) := of_decide_eq_true (by first | (with_reducible assumption) | assumption)
                                              obtain ⟨ad233, e233, hx233_0⟩ := Kd.at_string (Kd.R_reads' HO_8.out).2.2 x17_4 p233 q233
                                              cases e233
                                              replace p233 := eq_true p233
                                              replace q233 := eq_true q233
                                              have p234 : 0 ≤ (x17_4 : Int) := of_decide_eq_true (by first | (with_reducible assumption) | assumption)
                                              have q234 : x17_4 < (t227.length : Int) := of_decide_eq_true (by first | (with_reducible assumption) | assumption)
                                              obtain ⟨ad234, e234, hx234_0, hx234_1⟩ := at_T34 (Kd.R_reads' HO_15.out).2.2 x17_4 p234 q234
                                              obtain rfl : ad232 = ad234 := (by injection e234)
                                              replace p234 := eq_true p234
                                              replace q234 := eq_true q234
                                              have p235 : 0 ≤ (x17_4 : Int) := of_decide_eq_true (by first | (with_reducible assumption) | assumption)
                                              have q235 : x17_4 < (t227.length : Int) := of_decide_eq_true (by first | (with_reducible assumption) | assumption)
                                              obtain ⟨ad235, e235, hx235_0, hx235_1⟩ := at_T34 (Kd.R_reads' HO_15.out).2.2 x17_4 p235 q235
                                              obtain rfl : ad232 = ad235 := (by injection e235)
                                              replace p235 := eq_true p235
                                              replace q235 := eq_true q235
                                              have p236 : 0 ≤ (x17_4 : Int) := of_decide_eq_true (by first | (with_reducible assumption) | assumption)
                                              have q236 : x17_4 < (x8_1.length : Int) := of_decide_eq_true (by first | (with_reducible assumption) | assumption)
                                              obtain ⟨ad236, e236, hx236_0⟩ := Kd.at_string (Kd.R_reads' HO_8.out).2.2 x17_4 p236 q236
                                              obtain rfl : ad233 = ad236 := (by injection e236)
                                              replace p236 := eq_true p236
                                              replace q236 := eq_true q236
                                              have p237 : 0 ≤ (x17_4 : Int) := of_decide_eq_true (by first | (with_reducible assumption) | assumption)
                                              have q237 : x17_4 < (t227.length : Int) := of_decide_eq_true (by first | (with_reducible assumption) | assumption)
                                              obtain ⟨ad237, e237, hx237_0, hx237_1⟩ := at_T34 (Kd.R_reads' HO_15.out).2.2 x17_4 p237 q237
                                              obtain rfl : ad232 = ad237 := (by injection e237)
                                              replace p237 := eq_true p237
                                              replace q237 := eq_true q237
                                              have p238 : 0 ≤ (x17_4 : Int) := of_decide_eq_true (by first | (with_reducible assumption) | assumption)
                                              have q238 : x17_4 < (t227.length : Int) := of_decide_eq_true (by first | (with_reducible assumption) | assumption)
                                              obtain ⟨ad238, e238, hx238_0, hx238_1⟩ := at_T34 (Kd.R_reads' HO_15.out).2.2 x17_4 p238 q238
                                              obtain rfl : ad232 = ad238 := (by injection e238)
                                              replace p238 := eq_true p238
                                              replace q238 := eq_true q238
                                              have p239 : 0 ≤ (x17_4 : Int) := of_decide_eq_true (by first | (with_reducible assumption) | assumption)
                                              have q239 : x17_4 < (x8_1.length : Int) := of_decide_eq_true (by first | (with_reducible assumption) | assumption)
                                              obtain ⟨ad239, e239, hx239_0⟩ := Kd.at_string (Kd.R_reads' HO_8.out).2.2 x17_4 p239 q239
                                              obtain rfl : ad233 = ad239 := (by injection e239)
                                              replace p239 := eq_true p239
                                              replace q239 := eq_true q239
                                              have p240 : 0 ≤ (x17_4 : Int) := of_decide_eq_true (by first | (with_reducible assumption) | assumption)
                                              have q240 : x17_4 < (x8_1.length : Int) := of_decide_eq_true (by first | (with_reducible assumption) | assumption)
                                              obtain ⟨ad240, e240, hx240_0⟩ := Kd.at_string (Kd.R_reads' HO_8.out).2.2 x17_4 p240 q240
                                              obtain rfl : ad233 = ad240 := (by injection e240)
                                              replace p240 := eq_true p240
                                              replace q240 := eq_true q240
                                              go_wp2
                                              repeat (go_quiet (fail); try go_wp2)
                                              go_ret
                                              exact ⟨by first | rfl | (simp [errW_none, errW_some] <;> rfl) | (simp [*, errW_none, errW_some] <;> rfl), by repeat (first | (with_reducible first | exact HB.out | apply below_alloc | apply pw_below_drewN | apply below_drew1) | exact HB.out)⟩
                                          · rw [if_neg c65] at H
                                            exact absurd H (by simp)
                                        · rw [if_neg c64] at H
                                          exact absurd H (by simp)
                                      · rw [if_neg c63] at H
                                        exact absurd H (by simp)
                                · rw [if_neg c56] at H
                                  have c56b0 : (((rd_T34 t227 x17_4).f0).toList == (rdOf ByteArray.empty x8_1 x17_4).toList) = false := beq_eq_false_iff_ne.mpr c56
                                  have c56b1 : (((rd_T34 t227 x17_4).f0).toList != (rdOf ByteArray.empty x8_1 x17_4).toList) = true := bne_iff_ne.mpr c56
                                  obtain rfl := Option.some.inj H
                                  obtain ⟨Ao71, co71, eo71⟩ := Kd.R_slice HO_15.out
                                  subst eo71
                                  have p232 : 0 ≤ (x17_4 : Int) := of_decide_eq_true (by first | (with_reducible assumption) | assumption)
                                  have q232 : x17_4 < (t227.length : Int) := of_decide_eq_true (by first | (with_reducible assumption) | assumption)
                                  obtain ⟨ad232, e232, hx232_0, hx232_1⟩ := at_T34 (Kd.R_reads' HO_15.out).2.2 x17_4 p232 q232
                                  cases e232
                                  replace p232 := eq_true p232
                                  replace q232 := eq_true q232
                                  obtain ⟨Ao72, co72, eo72⟩ := Kd.R_slice HO_8.out
                                  subst eo72
                                  have p233 : 0 ≤ (x17_4 : Int) := of_decide_eq_true (by first | (with_reducible assumption) | assumption)
                                  have q233 : x17_4 < (x8_1.length : Int) := of_decide_eq_true (by first | (with_reducible assumption) | assumption)
                                  obtain ⟨ad233, e233, hx233_0⟩ := Kd.at_string (Kd.R_reads' HO_8.out).2.2 x17_4 p233 q233
                                  cases e233
                                  replace p233 := eq_true p233
                                  replace q233 := eq_true q233
                                  go_wp2
                                  repeat (go_quiet (fail); try go_wp2)
                                  go_ret
                                  exact ⟨by first | rfl | (simp [errW_none, errW_some] <;> rfl) | (simp [*, errW_none, errW_some] <;> rfl), by repeat (first | (with_reducible first | exact HB.out | apply below_alloc | apply pw_below_drewN | apply below_drew1) | exact HB.out)⟩
                              · rw [if_neg c55] at H
                                exact absurd H (by simp)
                            · rw [if_neg c54] at H
                              exact absurd H (by simp)
                          · rw [if_neg c53] at H
                            have c53b0 : decide (x17_4 < (t227.length : Int)) = false := decide_eq_false c53
                            clear c53
                            obtain rfl := Option.some.inj H
                            obtain ⟨Ao73, co73, eo73⟩ := Kd.R_slice HO_15.out
                            subst eo73
                            go_wp2
                            repeat (go_quiet (fail); try go_wp2)
                            go_ret
                            exact ⟨by first | rfl | (simp [errW_none, errW_some] <;> rfl) | (simp [*, errW_none, errW_some] <;> rfl), by repeat (first | (with_reducible first | exact HB.out | apply below_alloc | apply pw_below_drewN | apply below_drew1) | exact HB.out)⟩
              · rw [if_neg c38] at H
                exact absurd H (by simp)
            · rw [if_neg c37] at H
              exact absurd H (by simp)

end Go.Proofs.Ytplnakmpogepmab.A
