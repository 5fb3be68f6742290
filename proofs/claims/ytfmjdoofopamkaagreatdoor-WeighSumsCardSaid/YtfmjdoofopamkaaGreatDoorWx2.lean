import Derived.Test.YtfmjdoofopamkaaGreatDoorWx0
import Derived.Test.YtfmjdoofopamkaaGreatDoorWx1
namespace Go.Proofs.YtfmjdoofopamkaaGreatDoor.W
open Go.RowKit Go.Proofs.YtfmjdoofopamkaaGreatDoorW.PrintWords Go.Proofs.YtfmjdoofopamkaaGreatDoorW.PrintLast Go.Proofs.YtfmjdoofopamkaaGreatDoorW.PrintMore
set_option maxHeartbeats 8000000
set_option maxRecDepth 100000
attribute [local go_sem] max2_int min2_int max_two min_two max_three min_three max_four min_four
set_option linter.unusedVariables false
set_option linter.unusedSimpArgs false
mutual
def weigh_form.j7 : Nat → ByteArray → Int → Int → Int → Option (Int × Int × Bool)
 | 0, _, _, _, _ => none
 | k + 1, x0, x2, x3, x5 => if x5 = (x0.size : Int) then (some (x2, 0, true)) else (if 0 ≤ x5 then (if x5 < (x0.size : Int) then (if (bt x0 x5) = 101 then (if (wrap64 (x5 + 1)) < (x0.size : Int) then (if 0 ≤ (wrap64 (x5 + 1)) then (weigh_form.j8 k x0 x2 x3 (wrap64 (x5 + 1)) ((bt x0 (wrap64 (x5 + 1))) == 45)) else (none)) else (weigh_form.j8 k x0 x2 x3 (wrap64 (x5 + 1)) false)) else (some (0, 0, false))) else (none)) else (none))
def weigh_form.j8 : Nat → ByteArray → Int → Int → Int → Bool → Option (Int × Int × Bool)
 | 0, _, _, _, _, _ => none
 | k + 1, x0, x2, x3, x5, x7 => if x7 = true then (weigh_form.j9 k x0 x2 x3 (wrap64 (x5 + 1)) x7) else (weigh_form.j9 k x0 x2 x3 x5 x7)
def weigh_form.j9 : Nat → ByteArray → Int → Int → Int → Bool → Option (Int × Int × Bool)
 | 0, _, _, _, _, _ => none
 | k + 1, x0, x2, x3, x5, x7 => weigh_form.l2 k x0 x2 x3 x5 x5 x7
def weigh_form.l2 : Nat → ByteArray → Int → Int → Int → Int → Bool → Option (Int × Int × Bool)
 | 0, _, _, _, _, _, _ => none
 | k + 1, x0, x2, x3, x5, x6, x7 => if x5 < (x0.size : Int) then (if 0 ≤ x5 then ((weigh_digit.f (bt x0 x5)).bind fun t103 => (if t103 = true then (weigh_form.j11 k x0 x2 x3 x5 x6 x7 (decide (x5 < (wrap64 (x6 + 3))))) else (weigh_form.j11 k x0 x2 x3 x5 x6 x7 false))) else (none)) else (weigh_form.j11 k x0 x2 x3 x5 x6 x7 false)
def weigh_form.j11 : Nat → ByteArray → Int → Int → Int → Int → Bool → Bool → Option (Int × Int × Bool)
 | 0, _, _, _, _, _, _, _ => none
 | k + 1, x0, x2, x3, x5, x6, x7, x104 => if x104 = true then (if 0 ≤ x5 then (if x5 < (x0.size : Int) then (weigh_form.l2 k x0 x2 (wrap64 ((wrap64 (10 * x3)) + (((bt x0 x5) - 48) % 256))) (wrap64 (x5 + 1)) x6 x7) else (none)) else (none)) else (if x7 = true then (if x5 > x6 then (some (x2, wrap64 (-x3), (x5 == (x0.size : Int)))) else (some (x2, wrap64 (-x3), false))) else (if x5 > x6 then (some (x2, x3, (x5 == (x0.size : Int)))) else (some (x2, x3, false))))
def weigh_form.j0 : Nat → ByteArray → Int → Int → Int → Bool → Option (Int × Int × Bool)
 | 0, _, _, _, _, _ => none
 | k + 1, x0, x2, x3, x5, x15 => if x15 = true then (weigh_form.j1 k x0 x2 x3 1) else (weigh_form.j1 k x0 x2 x3 x5)
def weigh_form.j1 : Nat → ByteArray → Int → Int → Int → Option (Int × Int × Bool)
 | 0, _, _, _, _ => none
 | k + 1, x0, x2, x3, x5 => weigh_form.l0 k x0 x2 x3 x5 x5
def weigh_form.l0 : Nat → ByteArray → Int → Int → Int → Int → Option (Int × Int × Bool)
 | 0, _, _, _, _, _ => none
 | k + 1, x0, x2, x3, x5, x6 => if x5 < (x0.size : Int) then (if 0 ≤ x5 then ((weigh_digit.f (bt x0 x5)).bind fun t101 => (weigh_form.j3 k x0 x2 x3 x5 x6 t101)) else (none)) else (weigh_form.j3 k x0 x2 x3 x5 x6 false)
def weigh_form.j3 : Nat → ByteArray → Int → Int → Int → Int → Bool → Option (Int × Int × Bool)
 | 0, _, _, _, _, _, _ => none
 | k + 1, x0, x2, x3, x5, x6, x26 => if x26 = true then (weigh_form.l0 k x0 (wrap64 (x2 + 1)) x3 (wrap64 (x5 + 1)) x6) else (if x5 = x6 then (some (0, 0, false)) else (if x5 = (x0.size : Int) then (weigh_form.j4 k x0 x2 x3 x5 true) else (if 0 ≤ x5 then (if x5 < (x0.size : Int) then (weigh_form.j4 k x0 x2 x3 x5 ((bt x0 x5) != 46)) else (none)) else (none))))
def weigh_form.j4 : Nat → ByteArray → Int → Int → Int → Bool → Option (Int × Int × Bool)
 | 0, _, _, _, _, _ => none
 | k + 1, x0, x2, x3, x5, x43 => if x43 = true then (weigh_form.j7 k x0 x2 x3 x5) else (weigh_form.l1 k x0 x2 x3 (wrap64 (x5 + 1)) (wrap64 (x5 + 1)))
def weigh_form.l1 : Nat → ByteArray → Int → Int → Int → Int → Option (Int × Int × Bool)
 | 0, _, _, _, _, _ => none
 | k + 1, x0, x2, x3, x5, x6 => if x5 < (x0.size : Int) then (if 0 ≤ x5 then ((weigh_digit.f (bt x0 x5)).bind fun t102 => (weigh_form.j6 k x0 x2 x3 x5 x6 t102)) else (none)) else (weigh_form.j6 k x0 x2 x3 x5 x6 false)
def weigh_form.j6 : Nat → ByteArray → Int → Int → Int → Int → Bool → Option (Int × Int × Bool)
 | 0, _, _, _, _, _, _ => none
 | k + 1, x0, x2, x3, x5, x6, x56 => if x56 = true then (weigh_form.l1 k x0 (wrap64 (x2 + 1)) x3 (wrap64 (x5 + 1)) x6) else (if x5 = x6 then (some (0, 0, false)) else (weigh_form.j7 k x0 x2 x3 x5))
end
def weigh_form.f (k : Nat) (a0 : ByteArray) : Option (Int × Int × Bool) := if (a0.size : Int) > 0 then (if 0 < (a0.size : Int) then (weigh_form.j0 k a0 0 0 0 ((bt a0 0) == 45)) else (none)) else (weigh_form.j0 k a0 0 0 0 false)
theorem weigh_form.mono_l : ∀ k, (∀ y0 y1 y2 y3, LeO (weigh_form.j7 k y0 y1 y2 y3) (weigh_form.j7 (k + 1) y0 y1 y2 y3)) ∧ (∀ y0 y1 y2 y3 y4, LeO (weigh_form.j8 k y0 y1 y2 y3 y4) (weigh_form.j8 (k + 1) y0 y1 y2 y3 y4)) ∧ (∀ y0 y1 y2 y3 y4, LeO (weigh_form.j9 k y0 y1 y2 y3 y4) (weigh_form.j9 (k + 1) y0 y1 y2 y3 y4)) ∧ (∀ y0 y1 y2 y3 y4 y5, LeO (weigh_form.l2 k y0 y1 y2 y3 y4 y5) (weigh_form.l2 (k + 1) y0 y1 y2 y3 y4 y5)) ∧ (∀ y0 y1 y2 y3 y4 y5 y6, LeO (weigh_form.j11 k y0 y1 y2 y3 y4 y5 y6) (weigh_form.j11 (k + 1) y0 y1 y2 y3 y4 y5 y6)) ∧ (∀ y0 y1 y2 y3 y4, LeO (weigh_form.j0 k y0 y1 y2 y3 y4) (weigh_form.j0 (k + 1) y0 y1 y2 y3 y4)) ∧ (∀ y0 y1 y2 y3, LeO (weigh_form.j1 k y0 y1 y2 y3) (weigh_form.j1 (k + 1) y0 y1 y2 y3)) ∧ (∀ y0 y1 y2 y3 y4, LeO (weigh_form.l0 k y0 y1 y2 y3 y4) (weigh_form.l0 (k + 1) y0 y1 y2 y3 y4)) ∧ (∀ y0 y1 y2 y3 y4 y5, LeO (weigh_form.j3 k y0 y1 y2 y3 y4 y5) (weigh_form.j3 (k + 1) y0 y1 y2 y3 y4 y5)) ∧ (∀ y0 y1 y2 y3 y4, LeO (weigh_form.j4 k y0 y1 y2 y3 y4) (weigh_form.j4 (k + 1) y0 y1 y2 y3 y4)) ∧ (∀ y0 y1 y2 y3 y4, LeO (weigh_form.l1 k y0 y1 y2 y3 y4) (weigh_form.l1 (k + 1) y0 y1 y2 y3 y4)) ∧ (∀ y0 y1 y2 y3 y4 y5, LeO (weigh_form.j6 k y0 y1 y2 y3 y4 y5) (weigh_form.j6 (k + 1) y0 y1 y2 y3 y4 y5))
 | 0 => ⟨fun _ _ _ _ r h => by simp [weigh_form.j7] at h, fun _ _ _ _ _ r h => by simp [weigh_form.j8] at h, fun _ _ _ _ _ r h => by simp [weigh_form.j9] at h, fun _ _ _ _ _ _ r h => by simp [weigh_form.l2] at h, fun _ _ _ _ _ _ _ r h => by simp [weigh_form.j11] at h, fun _ _ _ _ _ r h => by simp [weigh_form.j0] at h, fun _ _ _ _ r h => by simp [weigh_form.j1] at h, fun _ _ _ _ _ r h => by simp [weigh_form.l0] at h, fun _ _ _ _ _ _ r h => by simp [weigh_form.j3] at h, fun _ _ _ _ _ r h => by simp [weigh_form.j4] at h, fun _ _ _ _ _ r h => by simp [weigh_form.l1] at h, fun _ _ _ _ _ _ r h => by simp [weigh_form.j6] at h⟩
 | k + 1 => by
  obtain ⟨ih0, ih1, ih2, ih3, ih4, ih5, ih6, ih7, ih8, ih9, ih10, ih11⟩ := weigh_form.mono_l k
  refine ⟨?_, ?_, ?_, ?_, ?_, ?_, ?_, ?_, ?_, ?_, ?_, ?_⟩
  ·
   intro y0 y1 y2 y3
   unfold weigh_form.j7
   repeat' first | (with_reducible first | apply ih0 | apply ih1 | apply ih2 | apply ih3 | apply ih4 | apply ih5 | apply ih6 | apply ih7 | apply ih8 | apply ih9 | apply ih10 | apply ih11 | apply LeO.refl | apply LeO.none | refine LeO.ite ?_ ?_ | refine LeO.bind ?_ (fun _ => ?_)) | apply LeO.none | refine LeO.ite ?_ ?_ | refine LeO.bind ?_ (fun _ => ?_)
  ·
   intro y0 y1 y2 y3 y4
   unfold weigh_form.j8
   repeat' first | (with_reducible first | apply ih0 | apply ih1 | apply ih2 | apply ih3 | apply ih4 | apply ih5 | apply ih6 | apply ih7 | apply ih8 | apply ih9 | apply ih10 | apply ih11 | apply LeO.refl | apply LeO.none | refine LeO.ite ?_ ?_ | refine LeO.bind ?_ (fun _ => ?_)) | apply LeO.none | refine LeO.ite ?_ ?_ | refine LeO.bind ?_ (fun _ => ?_)
  ·
   intro y0 y1 y2 y3 y4
   unfold weigh_form.j9
   repeat' first | (with_reducible first | apply ih0 | apply ih1 | apply ih2 | apply ih3 | apply ih4 | apply ih5 | apply ih6 | apply ih7 | apply ih8 | apply ih9 | apply ih10 | apply ih11 | apply LeO.refl | apply LeO.none | refine LeO.ite ?_ ?_ | refine LeO.bind ?_ (fun _ => ?_)) | apply LeO.none | refine LeO.ite ?_ ?_ | refine LeO.bind ?_ (fun _ => ?_)
  ·
   intro y0 y1 y2 y3 y4 y5
   unfold weigh_form.l2
   repeat' first | (with_reducible first | apply ih0 | apply ih1 | apply ih2 | apply ih3 | apply ih4 | apply ih5 | apply ih6 | apply ih7 | apply ih8 | apply ih9 | apply ih10 | apply ih11 | apply LeO.refl | apply LeO.none | refine LeO.ite ?_ ?_ | refine LeO.bind ?_ (fun _ => ?_)) | apply LeO.none | refine LeO.ite ?_ ?_ | refine LeO.bind ?_ (fun _ => ?_)
  ·
   intro y0 y1 y2 y3 y4 y5 y6
   unfold weigh_form.j11
   repeat' first | (with_reducible first | apply ih0 | apply ih1 | apply ih2 | apply ih3 | apply ih4 | apply ih5 | apply ih6 | apply ih7 | apply ih8 | apply ih9 | apply ih10 | apply ih11 | apply LeO.refl | apply LeO.none | refine LeO.ite ?_ ?_ | refine LeO.bind ?_ (fun _ => ?_)) | apply LeO.none | refine LeO.ite ?_ ?_ | refine LeO.bind ?_ (fun _ => ?_)
  ·
   intro y0 y1 y2 y3 y4
   unfold weigh_form.j0
   repeat' first | (with_reducible first | apply ih0 | apply ih1 | apply ih2 | apply ih3 | apply ih4 | apply ih5 | apply ih6 | apply ih7 | apply ih8 | apply ih9 | apply ih10 | apply ih11 | apply LeO.refl | apply LeO.none | refine LeO.ite ?_ ?_ | refine LeO.bind ?_ (fun _ => ?_)) | apply LeO.none | refine LeO.ite ?_ ?_ | refine LeO.bind ?_ (fun _ => ?_)
  ·
   intro y0 y1 y2 y3
   unfold weigh_form.j1
   repeat' first | (with_reducible first | apply ih0 | apply ih1 | apply ih2 | apply ih3 | apply ih4 | apply ih5 | apply ih6 | apply ih7 | apply ih8 | apply ih9 | apply ih10 | apply ih11 | apply LeO.refl | apply LeO.none | refine LeO.ite ?_ ?_ | refine LeO.bind ?_ (fun _ => ?_)) | apply LeO.none | refine LeO.ite ?_ ?_ | refine LeO.bind ?_ (fun _ => ?_)
  ·
   intro y0 y1 y2 y3 y4
   unfold weigh_form.l0
   repeat' first | (with_reducible first | apply ih0 | apply ih1 | apply ih2 | apply ih3 | apply ih4 | apply ih5 | apply ih6 | apply ih7 | apply ih8 | apply ih9 | apply ih10 | apply ih11 | apply LeO.refl | apply LeO.none | refine LeO.ite ?_ ?_ | refine LeO.bind ?_ (fun _ => ?_)) | apply LeO.none | refine LeO.ite ?_ ?_ | refine LeO.bind ?_ (fun _ => ?_)
  ·
   intro y0 y1 y2 y3 y4 y5
   unfold weigh_form.j3
   repeat' first | (with_reducible first | apply ih0 | apply ih1 | apply ih2 | apply ih3 | apply ih4 | apply ih5 | apply ih6 | apply ih7 | apply ih8 | apply ih9 | apply ih10 | apply ih11 | apply LeO.refl | apply LeO.none | refine LeO.ite ?_ ?_ | refine LeO.bind ?_ (fun _ => ?_)) | apply LeO.none | refine LeO.ite ?_ ?_ | refine LeO.bind ?_ (fun _ => ?_)
  ·
   intro y0 y1 y2 y3 y4
   unfold weigh_form.j4
   repeat' first | (with_reducible first | apply ih0 | apply ih1 | apply ih2 | apply ih3 | apply ih4 | apply ih5 | apply ih6 | apply ih7 | apply ih8 | apply ih9 | apply ih10 | apply ih11 | apply LeO.refl | apply LeO.none | refine LeO.ite ?_ ?_ | refine LeO.bind ?_ (fun _ => ?_)) | apply LeO.none | refine LeO.ite ?_ ?_ | refine LeO.bind ?_ (fun _ => ?_)
  ·
   intro y0 y1 y2 y3 y4
   unfold weigh_form.l1
   repeat' first | (with_reducible first | apply ih0 | apply ih1 | apply ih2 | apply ih3 | apply ih4 | apply ih5 | apply ih6 | apply ih7 | apply ih8 | apply ih9 | apply ih10 | apply ih11 | apply LeO.refl | apply LeO.none | refine LeO.ite ?_ ?_ | refine LeO.bind ?_ (fun _ => ?_)) | apply LeO.none | refine LeO.ite ?_ ?_ | refine LeO.bind ?_ (fun _ => ?_)
  ·
   intro y0 y1 y2 y3 y4 y5
   unfold weigh_form.j6
   repeat' first | (with_reducible first | apply ih0 | apply ih1 | apply ih2 | apply ih3 | apply ih4 | apply ih5 | apply ih6 | apply ih7 | apply ih8 | apply ih9 | apply ih10 | apply ih11 | apply LeO.refl | apply LeO.none | refine LeO.ite ?_ ?_ | refine LeO.bind ?_ (fun _ => ?_)) | apply LeO.none | refine LeO.ite ?_ ?_ | refine LeO.bind ?_ (fun _ => ?_)
theorem weigh_form.mono : ∀ a0 k, LeO (weigh_form.f k a0) (weigh_form.f (k + 1) a0) := by
 intro a0 k
 obtain ⟨ih0, ih1, ih2, ih3, ih4, ih5, ih6, ih7, ih8, ih9, ih10, ih11⟩ := weigh_form.mono_l k
 unfold weigh_form.f
 repeat' first | (with_reducible first | apply ih0 | apply ih1 | apply ih2 | apply ih3 | apply ih4 | apply ih5 | apply ih6 | apply ih7 | apply ih8 | apply ih9 | apply ih10 | apply ih11 | apply LeO.refl | apply LeO.none | refine LeO.ite ?_ ?_ | refine LeO.bind ?_ (fun _ => ?_)) | apply LeO.none | refine LeO.ite ?_ ?_ | refine LeO.bind ?_ (fun _ => ?_)
attribute [local go_sem] wpStretch
@[local go_sem] theorem toLabel_ret' {J : Nat → Nat → Act → World → Prop} {g : Nat} {Q : Exit → Act → World → Prop} {a : Act} {w : World} : Exit.toLabel J g Q .ret a w = Q .ret a w := rfl
@[local go_sem] theorem toLabel_exit' {J : Nat → Nat → Act → World → Prop} {g : Nat} {Q : Exit → Act → World → Prop} {a : Act} {w : World} (i : Nat) : Exit.toLabel J g Q (.exit i) a w = Q (.exit i) a w := rfl
theorem arr_explicit (t : Array Value) (n : Nat) (h : t.size = n) : t = ((List.range n).map fun i => t.getD i undef).toArray := by
 apply Array.ext
 ·
  simp [h]
 ·
  intro i h1 h2
  simp [Array.getD, h1]
def weigh_form.J (a0 : ByteArray) (r1 r2 : Int) (r3 : Bool) (W : World) (l g : Nat) (a' : Act) (w' : World) : Prop :=
 ∃ (x2 x3 x5 x6 : Int) (v7 : Value), a'.tmps.size = 129 ∧ a'.defers = [] ∧ a'.tmps.getD 0 undef = .string a0 ∧ a'.tmps.getD 2 undef = .int .i64 x2 ∧ a'.tmps.getD 3 undef = .int .i64 x3 ∧ a'.tmps.getD 5 undef = .int .i64 x5 ∧ a'.tmps.getD 6 undef = .int .i64 x6 ∧ a'.tmps.getD 7 undef = v7 ∧ Drawn0 W w' ∧ ((l = 0 ∧ Aside0 (weigh_form.l0 g a0 x2 x3 x5 x6 = some (r1, r2, r3))) ∨ (l = 2 ∧ Aside0 (weigh_form.l1 g a0 x2 x3 x5 x6 = some (r1, r2, r3))) ∨ (l = 1 ∧ Aside0 (weigh_form.j7 g a0 x2 x3 x5 = some (r1, r2, r3))) ∨ (l = 3 ∧ ∃ b : Bool, v7 = .bool b ∧ Aside0 (weigh_form.l2 g a0 x2 x3 x5 x6 b = some (r1, r2, r3))))
theorem weigh_form.J_elim {a0 : ByteArray} {r1 r2 : Int} {r3 : Bool} {W : World} {l g : Nat} {a' : Act} {w' : World} (h : weigh_form.J a0 r1 r2 r3 W l g a' w') :
  ∃ (x2 x3 x5 x6 : Int) (v7 : Value) (u1 u4 u8 u9 u10 u11 u12 u13 u14 u15 u16 u17 u18 u19 u20 u21 u22 u23 u24 u25 u26 u27 u28 u29 u30 u31 u32 u33 u34 u35 u36 u37 u38 u39 u40 u41 u42 u43 u44 u45 u46 u47 u48 u49 u50 u51 u52 u53 u54 u55 u56 u57 u58 u59 u60 u61 u62 u63 u64 u65 u66 u67 u68 u69 u70 u71 u72 u73 u74 u75 u76 u77 u78 u79 u80 u81 u82 u83 u84 u85 u86 u87 u88 u89 u90 u91 u92 u93 u94 u95 u96 u97 u98 u99 u100 u101 u102 u103 u104 u105 u106 u107 u108 u109 u110 u111 u112 u113 u114 u115 u116 u117 u118 u119 u120 u121 u122 u123 u124 u125 u126 u127 u128 : Value), a' = ⟨#[.string a0, u1, .int .i64 x2, .int .i64 x3, u4, .int .i64 x5, .int .i64 x6, v7, u8, u9, u10, u11, u12, u13, u14, u15, u16, u17, u18, u19, u20, u21, u22, u23, u24, u25, u26, u27, u28, u29, u30, u31, u32, u33, u34, u35, u36, u37, u38, u39, u40, u41, u42, u43, u44, u45, u46, u47, u48, u49, u50, u51, u52, u53, u54, u55, u56, u57, u58, u59, u60, u61, u62, u63, u64, u65, u66, u67, u68, u69, u70, u71, u72, u73, u74, u75, u76, u77, u78, u79, u80, u81, u82, u83, u84, u85, u86, u87, u88, u89, u90, u91, u92, u93, u94, u95, u96, u97, u98, u99, u100, u101, u102, u103, u104, u105, u106, u107, u108, u109, u110, u111, u112, u113, u114, u115, u116, u117, u118, u119, u120, u121, u122, u123, u124, u125, u126, u127, u128], []⟩ ∧ Drawn0 W w' ∧ ((l = 0 ∧ Aside0 (weigh_form.l0 g a0 x2 x3 x5 x6 = some (r1, r2, r3))) ∨ (l = 2 ∧ Aside0 (weigh_form.l1 g a0 x2 x3 x5 x6 = some (r1, r2, r3))) ∨ (l = 1 ∧ Aside0 (weigh_form.j7 g a0 x2 x3 x5 = some (r1, r2, r3))) ∨ (l = 3 ∧ ∃ b : Bool, v7 = .bool b ∧ Aside0 (weigh_form.l2 g a0 x2 x3 x5 x6 b = some (r1, r2, r3)))) := by
 obtain ⟨t, d⟩ := a'
 obtain ⟨x2, x3, x5, x6, v7, hs, hd, h0, h2, h3, h5, h6, h7, h⟩ := h
 refine ⟨x2, x3, x5, x6, v7, t.getD 1 undef, t.getD 4 undef, t.getD 8 undef, t.getD 9 undef, t.getD 10 undef, t.getD 11 undef, t.getD 12 undef, t.getD 13 undef, t.getD 14 undef, t.getD 15 undef, t.getD 16 undef, t.getD 17 undef, t.getD 18 undef, t.getD 19 undef, t.getD 20 undef, t.getD 21 undef, t.getD 22 undef, t.getD 23 undef, t.getD 24 undef, t.getD 25 undef, t.getD 26 undef, t.getD 27 undef, t.getD 28 undef, t.getD 29 undef, t.getD 30 undef, t.getD 31 undef, t.getD 32 undef, t.getD 33 undef, t.getD 34 undef, t.getD 35 undef, t.getD 36 undef, t.getD 37 undef, t.getD 38 undef, t.getD 39 undef, t.getD 40 undef, t.getD 41 undef, t.getD 42 undef, t.getD 43 undef, t.getD 44 undef, t.getD 45 undef, t.getD 46 undef, t.getD 47 undef, t.getD 48 undef, t.getD 49 undef, t.getD 50 undef, t.getD 51 undef, t.getD 52 undef, t.getD 53 undef, t.getD 54 undef, t.getD 55 undef, t.getD 56 undef, t.getD 57 undef, t.getD 58 undef, t.getD 59 undef, t.getD 60 undef, t.getD 61 undef, t.getD 62 undef, t.getD 63 undef, t.getD 64 undef, t.getD 65 undef, t.getD 66 undef, t.getD 67 undef, t.getD 68 undef, t.getD 69 undef, t.getD 70 undef, t.getD 71 undef, t.getD 72 undef, t.getD 73 undef, t.getD 74 undef, t.getD 75 undef, t.getD 76 undef, t.getD 77 undef, t.getD 78 undef, t.getD 79 undef, t.getD 80 undef, t.getD 81 undef, t.getD 82 undef, t.getD 83 undef, t.getD 84 undef, t.getD 85 undef, t.getD 86 undef, t.getD 87 undef, t.getD 88 undef, t.getD 89 undef, t.getD 90 undef, t.getD 91 undef, t.getD 92 undef, t.getD 93 undef, t.getD 94 undef, t.getD 95 undef, t.getD 96 undef, t.getD 97 undef, t.getD 98 undef, t.getD 99 undef, t.getD 100 undef, t.getD 101 undef, t.getD 102 undef, t.getD 103 undef, t.getD 104 undef, t.getD 105 undef, t.getD 106 undef, t.getD 107 undef, t.getD 108 undef, t.getD 109 undef, t.getD 110 undef, t.getD 111 undef, t.getD 112 undef, t.getD 113 undef, t.getD 114 undef, t.getD 115 undef, t.getD 116 undef, t.getD 117 undef, t.getD 118 undef, t.getD 119 undef, t.getD 120 undef, t.getD 121 undef, t.getD 122 undef, t.getD 123 undef, t.getD 124 undef, t.getD 125 undef, t.getD 126 undef, t.getD 127 undef, t.getD 128 undef, ?_, h⟩
 subst hd
 congr 1
 refine (arr_explicit t 129 hs).trans ?_
 show #[t.getD 0 undef, t.getD 1 undef, t.getD 2 undef, t.getD 3 undef, t.getD 4 undef, t.getD 5 undef, t.getD 6 undef, t.getD 7 undef, t.getD 8 undef, t.getD 9 undef, t.getD 10 undef, t.getD 11 undef, t.getD 12 undef, t.getD 13 undef, t.getD 14 undef, t.getD 15 undef, t.getD 16 undef, t.getD 17 undef, t.getD 18 undef, t.getD 19 undef, t.getD 20 undef, t.getD 21 undef, t.getD 22 undef, t.getD 23 undef, t.getD 24 undef, t.getD 25 undef, t.getD 26 undef, t.getD 27 undef, t.getD 28 undef, t.getD 29 undef, t.getD 30 undef, t.getD 31 undef, t.getD 32 undef, t.getD 33 undef, t.getD 34 undef, t.getD 35 undef, t.getD 36 undef, t.getD 37 undef, t.getD 38 undef, t.getD 39 undef, t.getD 40 undef, t.getD 41 undef, t.getD 42 undef, t.getD 43 undef, t.getD 44 undef, t.getD 45 undef, t.getD 46 undef, t.getD 47 undef, t.getD 48 undef, t.getD 49 undef, t.getD 50 undef, t.getD 51 undef, t.getD 52 undef, t.getD 53 undef, t.getD 54 undef, t.getD 55 undef, t.getD 56 undef, t.getD 57 undef, t.getD 58 undef, t.getD 59 undef, t.getD 60 undef, t.getD 61 undef, t.getD 62 undef, t.getD 63 undef, t.getD 64 undef, t.getD 65 undef, t.getD 66 undef, t.getD 67 undef, t.getD 68 undef, t.getD 69 undef, t.getD 70 undef, t.getD 71 undef, t.getD 72 undef, t.getD 73 undef, t.getD 74 undef, t.getD 75 undef, t.getD 76 undef, t.getD 77 undef, t.getD 78 undef, t.getD 79 undef, t.getD 80 undef, t.getD 81 undef, t.getD 82 undef, t.getD 83 undef, t.getD 84 undef, t.getD 85 undef, t.getD 86 undef, t.getD 87 undef, t.getD 88 undef, t.getD 89 undef, t.getD 90 undef, t.getD 91 undef, t.getD 92 undef, t.getD 93 undef, t.getD 94 undef, t.getD 95 undef, t.getD 96 undef, t.getD 97 undef, t.getD 98 undef, t.getD 99 undef, t.getD 100 undef, t.getD 101 undef, t.getD 102 undef, t.getD 103 undef, t.getD 104 undef, t.getD 105 undef, t.getD 106 undef, t.getD 107 undef, t.getD 108 undef, t.getD 109 undef, t.getD 110 undef, t.getD 111 undef, t.getD 112 undef, t.getD 113 undef, t.getD 114 undef, t.getD 115 undef, t.getD 116 undef, t.getD 117 undef, t.getD 118 undef, t.getD 119 undef, t.getD 120 undef, t.getD 121 undef, t.getD 122 undef, t.getD 123 undef, t.getD 124 undef, t.getD 125 undef, t.getD 126 undef, t.getD 127 undef, t.getD 128 undef] = _
 simp only [h0, h2, h3, h5, h6, h7]
theorem weigh_form.calls (k : Nat) (a0 : ByteArray) (r1 : Int) (r2 : Int) (r3 : Bool) (w : World) (h : weigh_form.f k a0 = some (r1, r2, r3)) :
  Calls Tryz.prog 25 #[.string a0] w fun e w' => e = .returned (.tuple #[.int .i64 r1, .int .i64 r2, .bool r3]) ∧ Drawn0 w w' := by
 have H : weigh_form.f k a0 = some (r1, r2, r3) := h
 clear h
 unfold weigh_form.f at H
 go_enter Tryz.func25, Tryz.ntmps25
 go_wp2
 refine wp_scope_labels (weigh_form.J a0 r1 r2 r3 w) (by decide) (k + 1) ?_ ?_
 ·
  simp only [Code.flat, List.cons_append, List.nil_append, wpStretch]
  by_cases c11 : (a0.size : Int) > 0
  ·
   rw [if_pos c11] at H
   have c11b1 : decide (0 < a0.size) = true := decide_eq_true (by omega)
   have c11b0 := decide_eq_true c11
   clear c11
   by_cases c12 : 0 < (a0.size : Int)
   ·
    rw [if_pos c12] at H
    have c12b0 := decide_eq_true c12
    have c12b1 : decide (0 < a0.size) = true := decide_eq_true (by omega)
    clear c12
    cases k with
    | zero => exact absurd H (by simp [weigh_form.j0])
    | succ k1 =>
     simp only [weigh_form.j0] at H
     by_cases c13 : (bt a0 0 == 45) = true
     ·
      rw [c13, if_pos rfl] at H
      have c13q : (bt a0 0 = 45) := by simpa using c13
      have c14b0 := beq_iff_eq.mpr c13q
      have c14b1 := bne_eq_false_iff_eq.mpr c13q
      clear c13q
      cases k1 with
      | zero => exact absurd H (by simp [weigh_form.j1])
      | succ k2 =>
       simp only [weigh_form.j1] at H
       have q15 : 0 < a0.size := (by have : (0 : Int) < (a0.size : Int) := sqD; omega)
       have hx15 : ∀ h : 0 < a0.size, ((a0[0]'h).toNat : Int) = bt a0 0 := bt_at a0 0
       have qi15 : (0 < (a0.size : Int)) = True := eq_true sqD
       replace q15 := eq_true q15
       have H' := Aside0.mk H
       clear H
       go_wp2
       exact ⟨k2, by omega, _, _, _, _, _, rfl, rfl, rfl, by first | rfl | (simp; done), by first | rfl | (simp; done), by first | rfl | (simp; done), by first | rfl | (simp; done), by first | rfl | (simp [*]; done), sqW, .inl ⟨rfl, H'⟩⟩
     ·
      replace c13 := Bool.eq_false_iff.mpr c13
      rw [c13, if_neg (show ¬ (false = true) by decide)] at H
      have c13q : ¬ (bt a0 0 = 45) := by simpa using c13
      have c16b0 := beq_eq_false_iff_ne.mpr c13q
      have c16b1 := bne_iff_ne.mpr c13q
      cases k1 with
      | zero => exact absurd H (by simp [weigh_form.j1])
      | succ k2 =>
       simp only [weigh_form.j1] at H
       have q17 : 0 < a0.size := (by have : (0 : Int) < (a0.size : Int) := sqD; omega)
       have hx17 : ∀ h : 0 < a0.size, ((a0[0]'h).toNat : Int) = bt a0 0 := bt_at a0 0
       have qi17 : (0 < (a0.size : Int)) = True := eq_true sqD
       replace q17 := eq_true q17
       have H' := Aside0.mk H
       clear H
       go_wp2
       exact ⟨k2, by omega, _, _, _, _, _, rfl, rfl, rfl, by first | rfl | (simp; done), by first | rfl | (simp; done), by first | rfl | (simp; done), by first | rfl | (simp; done), by first | rfl | (simp [*]; done), sqW, .inl ⟨rfl, H'⟩⟩
   ·
    rw [if_neg c12] at H
    have c12b0 := decide_eq_false c12
    have c12b1 : decide (0 < a0.size) = false := decide_eq_false (by omega)
    clear c12
    exact absurd H (by simp)
  ·
   rw [if_neg c11] at H
   have c11b1 : decide (0 < a0.size) = false := decide_eq_false (by omega)
   have c11b0 := decide_eq_false c11
   clear c11
   cases k with
   | zero => exact absurd H (by simp [weigh_form.j0])
   | succ k1 =>
    simp only [weigh_form.j0] at H
    first | rw [if_neg (show ¬ (false = true) by decide)] at H | simp only [Bool.false_eq_true, if_false] at H
    cases k1 with
    | zero => exact absurd H (by simp [weigh_form.j1])
    | succ k2 =>
     simp only [weigh_form.j1] at H
     have H' := Aside0.mk H
     clear H
     go_wp2
     exact ⟨k2, by omega, _, _, _, _, _, rfl, rfl, rfl, by first | rfl | (simp; done), by first | rfl | (simp; done), by first | rfl | (simp; done), by first | rfl | (simp; done), by first | rfl | (simp [*]; done), sqW, .inl ⟨rfl, H'⟩⟩
 ·
  intro l g a' w' hJ
  clear H
  obtain ⟨x2, x3, x5, x6, v7, u1, u4, u8, u9, u10, u11, u12, u13, u14, u15, u16, u17, u18, u19, u20, u21, u22, u23, u24, u25, u26, u27, u28, u29, u30, u31, u32, u33, u34, u35, u36, u37, u38, u39, u40, u41, u42, u43, u44, u45, u46, u47, u48, u49, u50, u51, u52, u53, u54, u55, u56, u57, u58, u59, u60, u61, u62, u63, u64, u65, u66, u67, u68, u69, u70, u71, u72, u73, u74, u75, u76, u77, u78, u79, u80, u81, u82, u83, u84, u85, u86, u87, u88, u89, u90, u91, u92, u93, u94, u95, u96, u97, u98, u99, u100, u101, u102, u103, u104, u105, u106, u107, u108, u109, u110, u111, u112, u113, u114, u115, u116, u117, u118, u119, u120, u121, u122, u123, u124, u125, u126, u127, u128, rfl, ⟨mc, rfl⟩, hL⟩ := weigh_form.J_elim hJ
  clear hJ
  rcases hL with ⟨rfl, HA⟩ | ⟨rfl, HA⟩ | ⟨rfl, HA⟩ | ⟨rfl, b, rfl, HA⟩
  ·
   refine ⟨_, (by simp only [Code.flat, List.cons_append, List.nil_append, behind, Nat.reduceBEq, if_true, Bool.false_eq_true, if_false]; exact rfl), ?_⟩
   simp only [wpStretch]
   have H := HA.out
   clear HA
   cases g with
   | zero => exact absurd H (by simp [weigh_form.l0])
   | succ k1 =>
    simp only [weigh_form.l0] at H
    by_cases c18 : x5 < (a0.size : Int)
    ·
     rw [if_pos c18] at H
     have c18b0 := decide_eq_true c18
     clear c18
     by_cases c19 : 0 ≤ x5
     ·
      rw [if_pos c19] at H
      have c19b0 := decide_eq_true c19
      clear c19
      replace H := Option.bind_eq_some_iff.mp H
      obtain ⟨t20, A200, H⟩ := H
      have A20 := Aside0.mk A200
      clear A200
      try dsimp only at H
      cases k1 with
      | zero => exact absurd H (by simp [weigh_form.j3])
      | succ k1j =>
       simp only [weigh_form.j3] at H
       by_cases c21 : t20 = true
       ·
        subst c21
        first | rw [if_pos rfl] at H | simp only [if_true] at H
        have p22 : 0 ≤ (x5 : Int) := sqD
        have q22 : x5 < (a0.size : Int) := sqD
        have hx22 := bt_at a0 x5
        replace p22 := eq_true p22
        replace q22 := eq_true q22
        have H' := Aside0.mk H
        clear H
        go_wp2_with (first | ((with_reducible refine gate_callee (f := 50) rfl ?_); refine goesL_ (some 7) rfl rfl Tryz.func50 (by kernel_rfl) rfl #[.int .u8 (bt a0 x5)] rfl sqA ?_; (with_reducible refine (weigh_digit.calls (bt a0 x5) true _ A20.out).mono ?_); rintro e w' ⟨rfl, ⟨nd, rfl⟩⟩; refine ⟨_, rfl, ?_⟩) | (go_at_call 50; (with_reducible refine (weigh_digit.calls (bt a0 x5) true _ A20.out).mono ?_); rintro e w' ⟨rfl, ⟨nd, rfl⟩⟩))
        go_step3
        exact ⟨k1j, by omega, _, _, _, _, _, rfl, rfl, rfl, by first | rfl | (simp; done), by first | rfl | (simp; done), by first | rfl | (simp; done), by first | rfl | (simp; done), by first | rfl | (simp [*]; done), sqW, .inl ⟨rfl, H'⟩⟩
       ·
        replace c21 := Bool.eq_false_iff.mpr c21
        subst c21
        first | rw [if_neg (show ¬ (false = true) by decide)] at H | simp only [Bool.false_eq_true, if_false] at H
        by_cases c23 : x5 = x6
        ·
         rw [if_pos c23] at H
         have c23b0 := beq_iff_eq.mpr c23
         have c23b1 := bne_eq_false_iff_eq.mpr c23
         clear c23
         have p24 : 0 ≤ (x5 : Int) := sqD
         have q24 : x5 < (a0.size : Int) := sqD
         have hx24 := bt_at a0 x5
         replace p24 := eq_true p24
         replace q24 := eq_true q24
         simp only [Option.some.injEq, Prod.mk.injEq] at H
         obtain ⟨rfl, rfl, rfl⟩ := H
         go_wp2_with (first | ((with_reducible refine gate_callee (f := 50) rfl ?_); refine goesL_ (some 7) rfl rfl Tryz.func50 (by kernel_rfl) rfl #[.int .u8 (bt a0 x5)] rfl sqA ?_; (with_reducible refine (weigh_digit.calls (bt a0 x5) false _ A20.out).mono ?_); rintro e w' ⟨rfl, ⟨nd, rfl⟩⟩; refine ⟨_, rfl, ?_⟩) | (go_at_call 50; (with_reducible refine (weigh_digit.calls (bt a0 x5) false _ A20.out).mono ?_); rintro e w' ⟨rfl, ⟨nd, rfl⟩⟩))
         try rw [toLabel_ret']
         go_ret3
         exact ⟨sqE, sqW⟩
        ·
         rw [if_neg c23] at H
         have c23b0 := beq_eq_false_iff_ne.mpr c23
         have c23b1 := bne_iff_ne.mpr c23
         by_cases c25 : x5 = (a0.size : Int)
         ·
          rw [if_pos c25] at H
          have c25b0 := beq_iff_eq.mpr c25
          have c25b1 := bne_eq_false_iff_eq.mpr c25
          clear c25
          cases k1j with
          | zero => exact absurd H (by simp [weigh_form.j4])
          | succ k1ja =>
           simp only [weigh_form.j4] at H
           first | rw [if_pos rfl] at H | simp only [if_true] at H
           have p26 : 0 ≤ (x5 : Int) := sqD
           have q26 : x5 < (a0.size : Int) := sqD
           have hx26 := bt_at a0 x5
           replace p26 := eq_true p26
           replace q26 := eq_true q26
           have H' := Aside0.mk H
           clear H
           go_wp2_with (first | ((with_reducible refine gate_callee (f := 50) rfl ?_); refine goesL_ (some 7) rfl rfl Tryz.func50 (by kernel_rfl) rfl #[.int .u8 (bt a0 x5)] rfl sqA ?_; (with_reducible refine (weigh_digit.calls (bt a0 x5) false _ A20.out).mono ?_); rintro e w' ⟨rfl, ⟨nd, rfl⟩⟩; refine ⟨_, rfl, ?_⟩) | (go_at_call 50; (with_reducible refine (weigh_digit.calls (bt a0 x5) false _ A20.out).mono ?_); rintro e w' ⟨rfl, ⟨nd, rfl⟩⟩))
           go_step3
           exact ⟨k1ja, by omega, _, _, _, _, _, rfl, rfl, rfl, by first | rfl | (simp; done), by first | rfl | (simp; done), by first | rfl | (simp; done), by first | rfl | (simp; done), by first | rfl | (simp [*]; done), sqW, .inr (.inr (.inl ⟨rfl, H'⟩))⟩
         ·
          rw [if_neg c25] at H
          have c25b0 := beq_eq_false_iff_ne.mpr c25
          have c25b1 := bne_iff_ne.mpr c25
          rw [if_pos (of_decide_eq_true c19b0)] at H
          rw [if_pos (of_decide_eq_true c18b0)] at H
          cases k1j with
          | zero => exact absurd H (by simp [weigh_form.j4])
          | succ k1ja =>
           simp only [weigh_form.j4] at H
           by_cases c27 : (bt a0 x5 != 46) = true
           ·
            rw [c27, if_pos rfl] at H
            have c27q : ¬ (bt a0 x5 = 46) := by simpa using c27
            have c28b0 := beq_eq_false_iff_ne.mpr c27q
            have c28b1 := bne_iff_ne.mpr c27q
            have p29 : 0 ≤ (x5 : Int) := sqD
            have q29 : x5 < (a0.size : Int) := sqD
            have hx29 := bt_at a0 x5
            replace p29 := eq_true p29
            replace q29 := eq_true q29
            have p30 : 0 ≤ (x5 : Int) := sqD
            have q30 : x5 < (a0.size : Int) := sqD
            have hx30 := bt_at a0 x5
            replace p30 := eq_true p30
            replace q30 := eq_true q30
            have H' := Aside0.mk H
            clear H
            go_wp2_with (first | ((with_reducible refine gate_callee (f := 50) rfl ?_); refine goesL_ (some 7) rfl rfl Tryz.func50 (by kernel_rfl) rfl #[.int .u8 (bt a0 x5)] rfl sqA ?_; (with_reducible refine (weigh_digit.calls (bt a0 x5) false _ A20.out).mono ?_); rintro e w' ⟨rfl, ⟨nd, rfl⟩⟩; refine ⟨_, rfl, ?_⟩) | (go_at_call 50; (with_reducible refine (weigh_digit.calls (bt a0 x5) false _ A20.out).mono ?_); rintro e w' ⟨rfl, ⟨nd, rfl⟩⟩))
            go_step3
            exact ⟨k1ja, by omega, _, _, _, _, _, rfl, rfl, rfl, by first | rfl | (simp; done), by first | rfl | (simp; done), by first | rfl | (simp; done), by first | rfl | (simp; done), by first | rfl | (simp [*]; done), sqW, .inr (.inr (.inl ⟨rfl, H'⟩))⟩
           ·
            replace c27 := Bool.eq_false_iff.mpr c27
            rw [c27, if_neg (show ¬ (false = true) by decide)] at H
            have c27q : (bt a0 x5 = 46) := by simpa using c27
            have c31b0 := beq_iff_eq.mpr c27q
            have c31b1 := bne_eq_false_iff_eq.mpr c27q
            clear c27q
            have p32 : 0 ≤ (x5 : Int) := sqD
            have q32 : x5 < (a0.size : Int) := sqD
            have hx32 := bt_at a0 x5
            replace p32 := eq_true p32
            replace q32 := eq_true q32
            have p33 : 0 ≤ (x5 : Int) := sqD
            have q33 : x5 < (a0.size : Int) := sqD
            have hx33 := bt_at a0 x5
            replace p33 := eq_true p33
            replace q33 := eq_true q33
            have H' := Aside0.mk H
            clear H
            go_wp2_with (first | ((with_reducible refine gate_callee (f := 50) rfl ?_); refine goesL_ (some 7) rfl rfl Tryz.func50 (by kernel_rfl) rfl #[.int .u8 (bt a0 x5)] rfl sqA ?_; (with_reducible refine (weigh_digit.calls (bt a0 x5) false _ A20.out).mono ?_); rintro e w' ⟨rfl, ⟨nd, rfl⟩⟩; refine ⟨_, rfl, ?_⟩) | (go_at_call 50; (with_reducible refine (weigh_digit.calls (bt a0 x5) false _ A20.out).mono ?_); rintro e w' ⟨rfl, ⟨nd, rfl⟩⟩))
            exact ⟨k1ja, by omega, _, _, _, _, _, rfl, rfl, rfl, by first | rfl | (simp; done), by first | rfl | (simp; done), by first | rfl | (simp; done), by first | rfl | (simp; done), by first | rfl | (simp [*]; done), sqW, .inr (.inl ⟨rfl, H'⟩)⟩
     ·
      rw [if_neg c19] at H
      have c19b0 := decide_eq_false c19
      clear c19
      exact absurd H (by simp)
    ·
     rw [if_neg c18] at H
     have c18b0 := decide_eq_false c18
     clear c18
     cases k1 with
     | zero => exact absurd H (by simp [weigh_form.j3])
     | succ k1j =>
      simp only [weigh_form.j3] at H
      first | rw [if_neg (show ¬ (false = true) by decide)] at H | simp only [Bool.false_eq_true, if_false] at H
      by_cases c34 : x5 = x6
      ·
       rw [if_pos c34] at H
       have c34b0 := beq_iff_eq.mpr c34
       have c34b1 := bne_eq_false_iff_eq.mpr c34
       clear c34
       simp only [Option.some.injEq, Prod.mk.injEq] at H
       obtain ⟨rfl, rfl, rfl⟩ := H
       go_wp2
       try rw [toLabel_ret']
       go_ret3
       exact ⟨sqE, sqW⟩
      ·
       rw [if_neg c34] at H
       have c34b0 := beq_eq_false_iff_ne.mpr c34
       have c34b1 := bne_iff_ne.mpr c34
       by_cases c35 : x5 = (a0.size : Int)
       ·
        rw [if_pos c35] at H
        have c35b0 := beq_iff_eq.mpr c35
        have c35b1 := bne_eq_false_iff_eq.mpr c35
        clear c35
        cases k1j with
        | zero => exact absurd H (by simp [weigh_form.j4])
        | succ k1ja =>
         simp only [weigh_form.j4] at H
         first | rw [if_pos rfl] at H | simp only [if_true] at H
         have H' := Aside0.mk H
         clear H
         go_wp2
         go_step3
         exact ⟨k1ja, by omega, _, _, _, _, _, rfl, rfl, rfl, by first | rfl | (simp; done), by first | rfl | (simp; done), by first | rfl | (simp; done), by first | rfl | (simp; done), by first | rfl | (simp [*]; done), sqW, .inr (.inr (.inl ⟨rfl, H'⟩))⟩
       ·
        rw [if_neg c35] at H
        have c35b0 := beq_eq_false_iff_ne.mpr c35
        have c35b1 := bne_iff_ne.mpr c35
        by_cases c36 : 0 ≤ x5
        ·
         rw [if_pos c36] at H
         have c36b0 := decide_eq_true c36
         clear c36
         rw [if_neg (of_decide_eq_false c18b0)] at H
         exact absurd H (by simp)
        ·
         rw [if_neg c36] at H
         have c36b0 := decide_eq_false c36
         clear c36
         exact absurd H (by simp)
  ·
   refine ⟨_, (by simp only [Code.flat, List.cons_append, List.nil_append, behind, Nat.reduceBEq, if_true, Bool.false_eq_true, if_false]; exact rfl), ?_⟩
   simp only [wpStretch]
   have H := HA.out
   clear HA
   cases g with
   | zero => exact absurd H (by simp [weigh_form.l1])
   | succ k1 =>
    simp only [weigh_form.l1] at H
    by_cases c37 : x5 < (a0.size : Int)
    ·
     rw [if_pos c37] at H
     have c37b0 := decide_eq_true c37
     clear c37
     by_cases c38 : 0 ≤ x5
     ·
      rw [if_pos c38] at H
      have c38b0 := decide_eq_true c38
      clear c38
      replace H := Option.bind_eq_some_iff.mp H
      obtain ⟨t39, A390, H⟩ := H
      have A39 := Aside0.mk A390
      clear A390
      try dsimp only at H
      cases k1 with
      | zero => exact absurd H (by simp [weigh_form.j6])
      | succ k1j =>
       simp only [weigh_form.j6] at H
       by_cases c40 : t39 = true
       ·
        subst c40
        first | rw [if_pos rfl] at H | simp only [if_true] at H
        have p41 : 0 ≤ (x5 : Int) := sqD
        have q41 : x5 < (a0.size : Int) := sqD
        have hx41 := bt_at a0 x5
        replace p41 := eq_true p41
        replace q41 := eq_true q41
        have H' := Aside0.mk H
        clear H
        go_wp2_with (first | ((with_reducible refine gate_callee (f := 50) rfl ?_); refine goesL_ (some 15) rfl rfl Tryz.func50 (by kernel_rfl) rfl #[.int .u8 (bt a0 x5)] rfl sqA ?_; (with_reducible refine (weigh_digit.calls (bt a0 x5) true _ A39.out).mono ?_); rintro e w' ⟨rfl, ⟨nd, rfl⟩⟩; refine ⟨_, rfl, ?_⟩) | (go_at_call 50; (with_reducible refine (weigh_digit.calls (bt a0 x5) true _ A39.out).mono ?_); rintro e w' ⟨rfl, ⟨nd, rfl⟩⟩))
        go_step3
        exact ⟨k1j, by omega, _, _, _, _, _, rfl, rfl, rfl, by first | rfl | (simp; done), by first | rfl | (simp; done), by first | rfl | (simp; done), by first | rfl | (simp; done), by first | rfl | (simp [*]; done), sqW, .inr (.inl ⟨rfl, H'⟩)⟩
       ·
        replace c40 := Bool.eq_false_iff.mpr c40
        subst c40
        first | rw [if_neg (show ¬ (false = true) by decide)] at H | simp only [Bool.false_eq_true, if_false] at H
        by_cases c42 : x5 = x6
        ·
         rw [if_pos c42] at H
         have c42b0 := beq_iff_eq.mpr c42
         have c42b1 := bne_eq_false_iff_eq.mpr c42
         clear c42
         have p43 : 0 ≤ (x5 : Int) := sqD
         have q43 : x5 < (a0.size : Int) := sqD
         have hx43 := bt_at a0 x5
         replace p43 := eq_true p43
         replace q43 := eq_true q43
         simp only [Option.some.injEq, Prod.mk.injEq] at H
         obtain ⟨rfl, rfl, rfl⟩ := H
         go_wp2_with (first | ((with_reducible refine gate_callee (f := 50) rfl ?_); refine goesL_ (some 15) rfl rfl Tryz.func50 (by kernel_rfl) rfl #[.int .u8 (bt a0 x5)] rfl sqA ?_; (with_reducible refine (weigh_digit.calls (bt a0 x5) false _ A39.out).mono ?_); rintro e w' ⟨rfl, ⟨nd, rfl⟩⟩; refine ⟨_, rfl, ?_⟩) | (go_at_call 50; (with_reducible refine (weigh_digit.calls (bt a0 x5) false _ A39.out).mono ?_); rintro e w' ⟨rfl, ⟨nd, rfl⟩⟩))
         try rw [toLabel_ret']
         go_ret3
         exact ⟨sqE, sqW⟩
        ·
         rw [if_neg c42] at H
         have c42b0 := beq_eq_false_iff_ne.mpr c42
         have c42b1 := bne_iff_ne.mpr c42
         have p44 : 0 ≤ (x5 : Int) := sqD
         have q44 : x5 < (a0.size : Int) := sqD
         have hx44 := bt_at a0 x5
         replace p44 := eq_true p44
         replace q44 := eq_true q44
         have H' := Aside0.mk H
         clear H
         go_wp2_with (first | ((with_reducible refine gate_callee (f := 50) rfl ?_); refine goesL_ (some 15) rfl rfl Tryz.func50 (by kernel_rfl) rfl #[.int .u8 (bt a0 x5)] rfl sqA ?_; (with_reducible refine (weigh_digit.calls (bt a0 x5) false _ A39.out).mono ?_); rintro e w' ⟨rfl, ⟨nd, rfl⟩⟩; refine ⟨_, rfl, ?_⟩) | (go_at_call 50; (with_reducible refine (weigh_digit.calls (bt a0 x5) false _ A39.out).mono ?_); rintro e w' ⟨rfl, ⟨nd, rfl⟩⟩))
         exact ⟨k1j, by omega, _, _, _, _, _, rfl, rfl, rfl, by first | rfl | (simp; done), by first | rfl | (simp; done), by first | rfl | (simp; done), by first | rfl | (simp; done), by first | rfl | (simp [*]; done), sqW, .inr (.inr (.inl ⟨rfl, H'⟩))⟩
     ·
      rw [if_neg c38] at H
      have c38b0 := decide_eq_false c38
      clear c38
      exact absurd H (by simp)
    ·
     rw [if_neg c37] at H
     have c37b0 := decide_eq_false c37
     clear c37
     cases k1 with
     | zero => exact absurd H (by simp [weigh_form.j6])
     | succ k1j =>
      simp only [weigh_form.j6] at H
      first | rw [if_neg (show ¬ (false = true) by decide)] at H | simp only [Bool.false_eq_true, if_false] at H
      by_cases c45 : x5 = x6
      ·
       rw [if_pos c45] at H
       have c45b0 := beq_iff_eq.mpr c45
       have c45b1 := bne_eq_false_iff_eq.mpr c45
       clear c45
       simp only [Option.some.injEq, Prod.mk.injEq] at H
       obtain ⟨rfl, rfl, rfl⟩ := H
       go_wp2
       try rw [toLabel_ret']
       go_ret3
       exact ⟨sqE, sqW⟩
      ·
       rw [if_neg c45] at H
       have c45b0 := beq_eq_false_iff_ne.mpr c45
       have c45b1 := bne_iff_ne.mpr c45
       have H' := Aside0.mk H
       clear H
       go_wp2
       exact ⟨k1j, by omega, _, _, _, _, _, rfl, rfl, rfl, by first | rfl | (simp; done), by first | rfl | (simp; done), by first | rfl | (simp; done), by first | rfl | (simp; done), by first | rfl | (simp [*]; done), sqW, .inr (.inr (.inl ⟨rfl, H'⟩))⟩
  ·
   refine ⟨_, (by simp only [Code.flat, List.cons_append, List.nil_append, behind, Nat.reduceBEq, if_true, Bool.false_eq_true, if_false]; exact rfl), ?_⟩
   simp only [wpStretch]
   have H := HA.out
   clear HA
   cases g with
   | zero => exact absurd H (by simp [weigh_form.j7])
   | succ k1 =>
    simp only [weigh_form.j7] at H
    by_cases c46 : x5 = (a0.size : Int)
    ·
     rw [if_pos c46] at H
     have c46b0 := beq_iff_eq.mpr c46
     have c46b1 := bne_eq_false_iff_eq.mpr c46
     clear c46
     simp only [Option.some.injEq, Prod.mk.injEq] at H
     obtain ⟨rfl, rfl, rfl⟩ := H
     go_wp2
     try rw [toLabel_ret']
     go_ret3
     exact ⟨sqE, sqW⟩
    ·
     rw [if_neg c46] at H
     have c46b0 := beq_eq_false_iff_ne.mpr c46
     have c46b1 := bne_iff_ne.mpr c46
     by_cases c47 : 0 ≤ x5
     ·
      rw [if_pos c47] at H
      have c47b0 := decide_eq_true c47
      clear c47
      by_cases c48 : x5 < (a0.size : Int)
      ·
       rw [if_pos c48] at H
       have c48b0 := decide_eq_true c48
       clear c48
       by_cases c49 : bt a0 x5 = 101
       ·
        rw [if_pos c49] at H
        have c49b0 := beq_iff_eq.mpr c49
        have c49b1 := bne_eq_false_iff_eq.mpr c49
        clear c49
        by_cases c50 : (wrap64 (x5 + 1)) < (a0.size : Int)
        ·
         rw [if_pos c50] at H
         have c50b0 := decide_eq_true c50
         clear c50
         by_cases c51 : 0 ≤ (wrap64 (x5 + 1))
         ·
          rw [if_pos c51] at H
          have c51b0 := decide_eq_true c51
          clear c51
          cases k1 with
          | zero => exact absurd H (by simp [weigh_form.j8])
          | succ k1a =>
           simp only [weigh_form.j8] at H
           by_cases c52 : (bt a0 (wrap64 (x5 + 1)) == 45) = true
           ·
            rw [c52, if_pos rfl] at H
            have c52q : (bt a0 (wrap64 (x5 + 1)) = 45) := by simpa using c52
            have c53b0 := beq_iff_eq.mpr c52q
            have c53b1 := bne_eq_false_iff_eq.mpr c52q
            clear c52q
            cases k1a with
            | zero => exact absurd H (by simp [weigh_form.j9])
            | succ k1b =>
             simp only [weigh_form.j9] at H
             have p54 : 0 ≤ (x5 : Int) := sqD
             have q54 : x5 < (a0.size : Int) := sqD
             have hx54 := bt_at a0 x5
             replace p54 := eq_true p54
             replace q54 := eq_true q54
             have p55 : 0 ≤ (wrap64 (x5 + 1) : Int) := sqD
             have q55 : wrap64 (x5 + 1) < (a0.size : Int) := sqD
             have hx55 := bt_at a0 (wrap64 (x5 + 1))
             replace p55 := eq_true p55
             replace q55 := eq_true q55
             have H' := Aside0.mk H
             clear H
             go_wp2
             exact ⟨k1b, by omega, _, _, _, _, .bool true, rfl, rfl, rfl, by first | rfl | (simp; done), by first | rfl | (simp; done), by first | rfl | (simp; done), by first | rfl | (simp; done), by first | rfl | (simp [*]; done), sqW, .inr (.inr (.inr ⟨rfl, true, by first | rfl | (simp [*]; done), H'⟩))⟩
           ·
            replace c52 := Bool.eq_false_iff.mpr c52
            rw [c52, if_neg (show ¬ (false = true) by decide)] at H
            have c52q : ¬ (bt a0 (wrap64 (x5 + 1)) = 45) := by simpa using c52
            have c56b0 := beq_eq_false_iff_ne.mpr c52q
            have c56b1 := bne_iff_ne.mpr c52q
            cases k1a with
            | zero => exact absurd H (by simp [weigh_form.j9])
            | succ k1b =>
             simp only [weigh_form.j9] at H
             have p57 : 0 ≤ (x5 : Int) := sqD
             have q57 : x5 < (a0.size : Int) := sqD
             have hx57 := bt_at a0 x5
             replace p57 := eq_true p57
             replace q57 := eq_true q57
             have p58 : 0 ≤ (wrap64 (x5 + 1) : Int) := sqD
             have q58 : wrap64 (x5 + 1) < (a0.size : Int) := sqD
             have hx58 := bt_at a0 (wrap64 (x5 + 1))
             replace p58 := eq_true p58
             replace q58 := eq_true q58
             have H' := Aside0.mk H
             clear H
             go_wp2
             exact ⟨k1b, by omega, _, _, _, _, .bool false, rfl, rfl, rfl, by first | rfl | (simp; done), by first | rfl | (simp; done), by first | rfl | (simp; done), by first | rfl | (simp; done), by first | rfl | (simp [*]; done), sqW, .inr (.inr (.inr ⟨rfl, false, by first | rfl | (simp [*]; done), H'⟩))⟩
         ·
          rw [if_neg c51] at H
          have c51b0 := decide_eq_false c51
          clear c51
          exact absurd H (by simp)
        ·
         rw [if_neg c50] at H
         have c50b0 := decide_eq_false c50
         clear c50
         cases k1 with
         | zero => exact absurd H (by simp [weigh_form.j8])
         | succ k1a =>
          simp only [weigh_form.j8] at H
          first | rw [if_neg (show ¬ (false = true) by decide)] at H | simp only [Bool.false_eq_true, if_false] at H
          cases k1a with
          | zero => exact absurd H (by simp [weigh_form.j9])
          | succ k1b =>
           simp only [weigh_form.j9] at H
           have p59 : 0 ≤ (x5 : Int) := sqD
           have q59 : x5 < (a0.size : Int) := sqD
           have hx59 := bt_at a0 x5
           replace p59 := eq_true p59
           replace q59 := eq_true q59
           have H' := Aside0.mk H
           clear H
           go_wp2
           exact ⟨k1b, by omega, _, _, _, _, .bool false, rfl, rfl, rfl, by first | rfl | (simp; done), by first | rfl | (simp; done), by first | rfl | (simp; done), by first | rfl | (simp; done), by first | rfl | (simp [*]; done), sqW, .inr (.inr (.inr ⟨rfl, false, by first | rfl | (simp [*]; done), H'⟩))⟩
       ·
        rw [if_neg c49] at H
        have c49b0 := beq_eq_false_iff_ne.mpr c49
        have c49b1 := bne_iff_ne.mpr c49
        have p60 : 0 ≤ (x5 : Int) := sqD
        have q60 : x5 < (a0.size : Int) := sqD
        have hx60 := bt_at a0 x5
        replace p60 := eq_true p60
        replace q60 := eq_true q60
        simp only [Option.some.injEq, Prod.mk.injEq] at H
        obtain ⟨rfl, rfl, rfl⟩ := H
        go_wp2
        try rw [toLabel_ret']
        go_ret3
        exact ⟨sqE, sqW⟩
      ·
       rw [if_neg c48] at H
       have c48b0 := decide_eq_false c48
       clear c48
       exact absurd H (by simp)
     ·
      rw [if_neg c47] at H
      have c47b0 := decide_eq_false c47
      clear c47
      exact absurd H (by simp)
  ·
   refine ⟨_, (by simp only [Code.flat, List.cons_append, List.nil_append, behind, Nat.reduceBEq, if_true, Bool.false_eq_true, if_false]; exact rfl), ?_⟩
   simp only [wpStretch]
   have H := HA.out
   clear HA
   cases g with
   | zero => exact absurd H (by simp [weigh_form.l2])
   | succ k1 =>
    simp only [weigh_form.l2] at H
    by_cases c61 : x5 < (a0.size : Int)
    ·
     rw [if_pos c61] at H
     have c61b0 := decide_eq_true c61
     clear c61
     by_cases c62 : 0 ≤ x5
     ·
      rw [if_pos c62] at H
      have c62b0 := decide_eq_true c62
      clear c62
      replace H := Option.bind_eq_some_iff.mp H
      obtain ⟨t63, A630, H⟩ := H
      have A63 := Aside0.mk A630
      clear A630
      try dsimp only at H
      by_cases c64 : t63 = true
      ·
       subst c64
       first | rw [if_pos rfl] at H | simp only [if_true] at H
       cases k1 with
       | zero => exact absurd H (by simp [weigh_form.j11])
       | succ k1j =>
        simp only [weigh_form.j11] at H
        by_cases c65 : (decide (x5 < wrap64 (x6 + 3))) = true
        ·
         rw [c65, if_pos rfl] at H
         rw [if_pos (of_decide_eq_true c62b0)] at H
         rw [if_pos (of_decide_eq_true c61b0)] at H
         have p66 : 0 ≤ (x5 : Int) := sqD
         have q66 : x5 < (a0.size : Int) := sqD
         have hx66 := bt_at a0 x5
         replace p66 := eq_true p66
         replace q66 := eq_true q66
         have H' := Aside0.mk H
         clear H
         go_wp2_with (first | ((with_reducible refine gate_callee (f := 50) rfl ?_); refine goesL_ (some 28) rfl rfl Tryz.func50 (by kernel_rfl) rfl #[.int .u8 (bt a0 x5)] rfl sqA ?_; (with_reducible refine (weigh_digit.calls (bt a0 x5) true _ A63.out).mono ?_); rintro e w' ⟨rfl, ⟨nd, rfl⟩⟩; refine ⟨_, rfl, ?_⟩) | (go_at_call 50; (with_reducible refine (weigh_digit.calls (bt a0 x5) true _ A63.out).mono ?_); rintro e w' ⟨rfl, ⟨nd, rfl⟩⟩))
         go_step3
         exact ⟨k1j, by omega, _, _, _, _, .bool b, rfl, rfl, rfl, by first | rfl | (simp; done), by first | rfl | (simp; done), by first | rfl | (simp; done), by first | rfl | (simp; done), by first | rfl | (simp [*]; done), sqW, .inr (.inr (.inr ⟨rfl, b, by first | rfl | (simp [*]; done), H'⟩))⟩
        ·
         replace c65 := Bool.eq_false_iff.mpr c65
         rw [c65, if_neg (show ¬ (false = true) by decide)] at H
         by_cases c67 : b = true
         ·
          subst c67
          first | rw [if_pos rfl] at H | simp only [if_true] at H
          by_cases c68 : x5 > x6
          ·
           rw [if_pos c68] at H
           have c68b0 := decide_eq_true c68
           clear c68
           have p69 : 0 ≤ (x5 : Int) := sqD
           have q69 : x5 < (a0.size : Int) := sqD
           have hx69 := bt_at a0 x5
           replace p69 := eq_true p69
           replace q69 := eq_true q69
           simp only [Option.some.injEq, Prod.mk.injEq] at H
           obtain ⟨rfl, rfl, rfl⟩ := H
           go_wp2_with (first | ((with_reducible refine gate_callee (f := 50) rfl ?_); refine goesL_ (some 28) rfl rfl Tryz.func50 (by kernel_rfl) rfl #[.int .u8 (bt a0 x5)] rfl sqA ?_; (with_reducible refine (weigh_digit.calls (bt a0 x5) true _ A63.out).mono ?_); rintro e w' ⟨rfl, ⟨nd, rfl⟩⟩; refine ⟨_, rfl, ?_⟩) | (go_at_call 50; (with_reducible refine (weigh_digit.calls (bt a0 x5) true _ A63.out).mono ?_); rintro e w' ⟨rfl, ⟨nd, rfl⟩⟩))
           try rw [toLabel_ret']
           go_ret3
           exact ⟨sqE, sqW⟩
          ·
           rw [if_neg c68] at H
           have c68b0 := decide_eq_false c68
           clear c68
           have p70 : 0 ≤ (x5 : Int) := sqD
           have q70 : x5 < (a0.size : Int) := sqD
           have hx70 := bt_at a0 x5
           replace p70 := eq_true p70
           replace q70 := eq_true q70
           simp only [Option.some.injEq, Prod.mk.injEq] at H
           obtain ⟨rfl, rfl, rfl⟩ := H
           go_wp2_with (first | ((with_reducible refine gate_callee (f := 50) rfl ?_); refine goesL_ (some 28) rfl rfl Tryz.func50 (by kernel_rfl) rfl #[.int .u8 (bt a0 x5)] rfl sqA ?_; (with_reducible refine (weigh_digit.calls (bt a0 x5) true _ A63.out).mono ?_); rintro e w' ⟨rfl, ⟨nd, rfl⟩⟩; refine ⟨_, rfl, ?_⟩) | (go_at_call 50; (with_reducible refine (weigh_digit.calls (bt a0 x5) true _ A63.out).mono ?_); rintro e w' ⟨rfl, ⟨nd, rfl⟩⟩))
           try rw [toLabel_ret']
           go_ret3
           exact ⟨sqE, sqW⟩
         ·
          replace c67 := Bool.eq_false_iff.mpr c67
          subst c67
          first | rw [if_neg (show ¬ (false = true) by decide)] at H | simp only [Bool.false_eq_true, if_false] at H
          by_cases c71 : x5 > x6
          ·
           rw [if_pos c71] at H
           have c71b0 := decide_eq_true c71
           clear c71
           have p72 : 0 ≤ (x5 : Int) := sqD
           have q72 : x5 < (a0.size : Int) := sqD
           have hx72 := bt_at a0 x5
           replace p72 := eq_true p72
           replace q72 := eq_true q72
           simp only [Option.some.injEq, Prod.mk.injEq] at H
           obtain ⟨rfl, rfl, rfl⟩ := H
           go_wp2_with (first | ((with_reducible refine gate_callee (f := 50) rfl ?_); refine goesL_ (some 28) rfl rfl Tryz.func50 (by kernel_rfl) rfl #[.int .u8 (bt a0 x5)] rfl sqA ?_; (with_reducible refine (weigh_digit.calls (bt a0 x5) true _ A63.out).mono ?_); rintro e w' ⟨rfl, ⟨nd, rfl⟩⟩; refine ⟨_, rfl, ?_⟩) | (go_at_call 50; (with_reducible refine (weigh_digit.calls (bt a0 x5) true _ A63.out).mono ?_); rintro e w' ⟨rfl, ⟨nd, rfl⟩⟩))
           try rw [toLabel_ret']
           go_ret3
           exact ⟨sqE, sqW⟩
          ·
           rw [if_neg c71] at H
           have c71b0 := decide_eq_false c71
           clear c71
           have p73 : 0 ≤ (x5 : Int) := sqD
           have q73 : x5 < (a0.size : Int) := sqD
           have hx73 := bt_at a0 x5
           replace p73 := eq_true p73
           replace q73 := eq_true q73
           simp only [Option.some.injEq, Prod.mk.injEq] at H
           obtain ⟨rfl, rfl, rfl⟩ := H
           go_wp2_with (first | ((with_reducible refine gate_callee (f := 50) rfl ?_); refine goesL_ (some 28) rfl rfl Tryz.func50 (by kernel_rfl) rfl #[.int .u8 (bt a0 x5)] rfl sqA ?_; (with_reducible refine (weigh_digit.calls (bt a0 x5) true _ A63.out).mono ?_); rintro e w' ⟨rfl, ⟨nd, rfl⟩⟩; refine ⟨_, rfl, ?_⟩) | (go_at_call 50; (with_reducible refine (weigh_digit.calls (bt a0 x5) true _ A63.out).mono ?_); rintro e w' ⟨rfl, ⟨nd, rfl⟩⟩))
           try rw [toLabel_ret']
           go_ret3
           exact ⟨sqE, sqW⟩
      ·
       replace c64 := Bool.eq_false_iff.mpr c64
       subst c64
       first | rw [if_neg (show ¬ (false = true) by decide)] at H | simp only [Bool.false_eq_true, if_false] at H
       cases k1 with
       | zero => exact absurd H (by simp [weigh_form.j11])
       | succ k1j =>
        simp only [weigh_form.j11] at H
        first | rw [if_neg (show ¬ (false = true) by decide)] at H | simp only [Bool.false_eq_true, if_false] at H
        by_cases c74 : b = true
        ·
         subst c74
         first | rw [if_pos rfl] at H | simp only [if_true] at H
         by_cases c75 : x5 > x6
         ·
          rw [if_pos c75] at H
          have c75b0 := decide_eq_true c75
          clear c75
          have p76 : 0 ≤ (x5 : Int) := sqD
          have q76 : x5 < (a0.size : Int) := sqD
          have hx76 := bt_at a0 x5
          replace p76 := eq_true p76
          replace q76 := eq_true q76
          simp only [Option.some.injEq, Prod.mk.injEq] at H
          obtain ⟨rfl, rfl, rfl⟩ := H
          go_wp2_with (first | ((with_reducible refine gate_callee (f := 50) rfl ?_); refine goesL_ (some 28) rfl rfl Tryz.func50 (by kernel_rfl) rfl #[.int .u8 (bt a0 x5)] rfl sqA ?_; (with_reducible refine (weigh_digit.calls (bt a0 x5) false _ A63.out).mono ?_); rintro e w' ⟨rfl, ⟨nd, rfl⟩⟩; refine ⟨_, rfl, ?_⟩) | (go_at_call 50; (with_reducible refine (weigh_digit.calls (bt a0 x5) false _ A63.out).mono ?_); rintro e w' ⟨rfl, ⟨nd, rfl⟩⟩))
          try rw [toLabel_ret']
          go_ret3
          exact ⟨sqE, sqW⟩
         ·
          rw [if_neg c75] at H
          have c75b0 := decide_eq_false c75
          clear c75
          have p77 : 0 ≤ (x5 : Int) := sqD
          have q77 : x5 < (a0.size : Int) := sqD
          have hx77 := bt_at a0 x5
          replace p77 := eq_true p77
          replace q77 := eq_true q77
          simp only [Option.some.injEq, Prod.mk.injEq] at H
          obtain ⟨rfl, rfl, rfl⟩ := H
          go_wp2_with (first | ((with_reducible refine gate_callee (f := 50) rfl ?_); refine goesL_ (some 28) rfl rfl Tryz.func50 (by kernel_rfl) rfl #[.int .u8 (bt a0 x5)] rfl sqA ?_; (with_reducible refine (weigh_digit.calls (bt a0 x5) false _ A63.out).mono ?_); rintro e w' ⟨rfl, ⟨nd, rfl⟩⟩; refine ⟨_, rfl, ?_⟩) | (go_at_call 50; (with_reducible refine (weigh_digit.calls (bt a0 x5) false _ A63.out).mono ?_); rintro e w' ⟨rfl, ⟨nd, rfl⟩⟩))
          try rw [toLabel_ret']
          go_ret3
          exact ⟨sqE, sqW⟩
        ·
         replace c74 := Bool.eq_false_iff.mpr c74
         subst c74
         first | rw [if_neg (show ¬ (false = true) by decide)] at H | simp only [Bool.false_eq_true, if_false] at H
         by_cases c78 : x5 > x6
         ·
          rw [if_pos c78] at H
          have c78b0 := decide_eq_true c78
          clear c78
          have p79 : 0 ≤ (x5 : Int) := sqD
          have q79 : x5 < (a0.size : Int) := sqD
          have hx79 := bt_at a0 x5
          replace p79 := eq_true p79
          replace q79 := eq_true q79
          simp only [Option.some.injEq, Prod.mk.injEq] at H
          obtain ⟨rfl, rfl, rfl⟩ := H
          go_wp2_with (first | ((with_reducible refine gate_callee (f := 50) rfl ?_); refine goesL_ (some 28) rfl rfl Tryz.func50 (by kernel_rfl) rfl #[.int .u8 (bt a0 x5)] rfl sqA ?_; (with_reducible refine (weigh_digit.calls (bt a0 x5) false _ A63.out).mono ?_); rintro e w' ⟨rfl, ⟨nd, rfl⟩⟩; refine ⟨_, rfl, ?_⟩) | (go_at_call 50; (with_reducible refine (weigh_digit.calls (bt a0 x5) false _ A63.out).mono ?_); rintro e w' ⟨rfl, ⟨nd, rfl⟩⟩))
          try rw [toLabel_ret']
          go_ret3
          exact ⟨sqE, sqW⟩
         ·
          rw [if_neg c78] at H
          have c78b0 := decide_eq_false c78
          clear c78
          have p80 : 0 ≤ (x5 : Int) := sqD
          have q80 : x5 < (a0.size : Int) := sqD
          have hx80 := bt_at a0 x5
          replace p80 := eq_true p80
          replace q80 := eq_true q80
          simp only [Option.some.injEq, Prod.mk.injEq] at H
          obtain ⟨rfl, rfl, rfl⟩ := H
          go_wp2_with (first | ((with_reducible refine gate_callee (f := 50) rfl ?_); refine goesL_ (some 28) rfl rfl Tryz.func50 (by kernel_rfl) rfl #[.int .u8 (bt a0 x5)] rfl sqA ?_; (with_reducible refine (weigh_digit.calls (bt a0 x5) false _ A63.out).mono ?_); rintro e w' ⟨rfl, ⟨nd, rfl⟩⟩; refine ⟨_, rfl, ?_⟩) | (go_at_call 50; (with_reducible refine (weigh_digit.calls (bt a0 x5) false _ A63.out).mono ?_); rintro e w' ⟨rfl, ⟨nd, rfl⟩⟩))
          try rw [toLabel_ret']
          go_ret3
          exact ⟨sqE, sqW⟩
     ·
      rw [if_neg c62] at H
      have c62b0 := decide_eq_false c62
      clear c62
      exact absurd H (by simp)
    ·
     rw [if_neg c61] at H
     have c61b0 := decide_eq_false c61
     clear c61
     cases k1 with
     | zero => exact absurd H (by simp [weigh_form.j11])
     | succ k1j =>
      simp only [weigh_form.j11] at H
      first | rw [if_neg (show ¬ (false = true) by decide)] at H | simp only [Bool.false_eq_true, if_false] at H
      by_cases c81 : b = true
      ·
       subst c81
       first | rw [if_pos rfl] at H | simp only [if_true] at H
       by_cases c82 : x5 > x6
       ·
        rw [if_pos c82] at H
        have c82b0 := decide_eq_true c82
        clear c82
        simp only [Option.some.injEq, Prod.mk.injEq] at H
        obtain ⟨rfl, rfl, rfl⟩ := H
        go_wp2
        try rw [toLabel_ret']
        go_ret3
        exact ⟨sqE, sqW⟩
       ·
        rw [if_neg c82] at H
        have c82b0 := decide_eq_false c82
        clear c82
        simp only [Option.some.injEq, Prod.mk.injEq] at H
        obtain ⟨rfl, rfl, rfl⟩ := H
        go_wp2
        try rw [toLabel_ret']
        go_ret3
        exact ⟨sqE, sqW⟩
      ·
       replace c81 := Bool.eq_false_iff.mpr c81
       subst c81
       first | rw [if_neg (show ¬ (false = true) by decide)] at H | simp only [Bool.false_eq_true, if_false] at H
       by_cases c83 : x5 > x6
       ·
        rw [if_pos c83] at H
        have c83b0 := decide_eq_true c83
        clear c83
        simp only [Option.some.injEq, Prod.mk.injEq] at H
        obtain ⟨rfl, rfl, rfl⟩ := H
        go_wp2
        try rw [toLabel_ret']
        go_ret3
        exact ⟨sqE, sqW⟩
       ·
        rw [if_neg c83] at H
        have c83b0 := decide_eq_false c83
        clear c83
        simp only [Option.some.injEq, Prod.mk.injEq] at H
        obtain ⟨rfl, rfl, rfl⟩ := H
        go_wp2
        try rw [toLabel_ret']
        go_ret3
        exact ⟨sqE, sqW⟩
end Go.Proofs.YtfmjdoofopamkaaGreatDoor.W
