import Derived.Test.YtfmjdoofopamkaaGreatDoorFltA
import Derived.Test.YtfmjdoofopamkaaGreatDoorSumsN
namespace Go.Proofs.YtfmjdoofopamkaaGreatDoor.Plain
open Go.RowKit Go.Proofs.YtfmjdoofopamkaaGreatDoorW.PrintWords Go.Proofs.YtfmjdoofopamkaaGreatDoorW.PrintLast Go.Proofs.YtfmjdoofopamkaaGreatDoorW.PrintMore
set_option linter.unusedVariables false
set_option linter.unusedSimpArgs false
set_option exponentiation.threshold 3000
theorem sum_num0 (s t : Bool) (m n i j : Nat) : ∃ neg : Bool, ∃ mag b : Nat, Ieee.Datum.sum (.number s m ((i : Nat) + (-1074 : Int))) (.number t n ((j : Nat) + (-1074 : Int))) = some (.number neg mag ((b : Nat) + (-1074 : Int))) ∧ (mag = 0 → neg = (s && t)) := by
 unfold Ieee.Datum.sum
 obtain ⟨b, hb⟩ : ∃ b, min i j = b := ⟨_, rfl⟩
 have hbase : min ((i : Nat) + (-1074 : Int)) ((j : Nat) + (-1074 : Int)) = (b : Nat) + (-1074 : Int) := by omega
 simp only [hbase]
 refine ⟨_, _, b, rfl, ?_⟩
 intro hm
 rw [if_pos (Int.natAbs_eq_zero.1 hm)]
theorem nearest_eq' (neg : Bool) (mag : Nat) (place : Int) : FloatKind.f64.format.nearest neg mag place = (if neg then P63 else 0) + wordQ (mag * 2 ^ (place + 1074).toNat) (2 ^ (-(place + 1074)).toNat) := by
 by_cases h0 : mag = 0
 ·subst h0
  rw [Nat.zero_mul, wordQ_zero _ (Nat.two_pow_pos _)]
  unfold Ieee.Format.nearest
  rw [if_pos rfl]
  cases neg <;> rfl
 ·exact nearest_word neg mag place h0
theorem add_fin (x y : Nat) (hx : x < 18446744073709551616) (hy : y < 18446744073709551616) (fx : x % P63 < INF) (fy : y % P63 < INF) :
  floatBits .add .f64 x y = some (if sv x + sv y = 0 then (if x = P63 ∧ y = P63 then P63 else 0) else (if sv x + sv y < 0 then P63 else 0) + wordQ (sv x + sv y).natAbs 1) := by
 obtain ⟨m, i, e1, e2⟩ := read_fin x fx
 obtain ⟨n, j, e3, e4⟩ := read_fin y fy
 obtain ⟨neg, mag, b, h1, h2, h3⟩ := sum_num (x / P63 % 2 == 1) (y / P63 % 2 == 1) m n i j
 obtain ⟨neg', mag', b', g1, g2⟩ := sum_num0 (x / P63 % 2 == 1) (y / P63 % 2 == 1) m n i j
 rw [h1] at g1
 have g3 : neg = neg' ∧ mag = mag' := by
  have := Option.some.inj g1
  injection this with a1 a2 a3
  exact ⟨a1, a2⟩
 rw [← g3.1, ← g3.2] at g2
 have e : floatBits .add .f64 x y = some (FloatKind.f64.format.nearest neg mag ((b : Nat) + (-1074 : Int))) := by
  show FloatKind.f64.format.add x y = _
  unfold Ieee.Format.add
  rw [e1, e3, h1]; rfl
 rw [← sv_read x m i e2, ← sv_read y n j e4] at h2 h3
 rw [e, nearest_eq', show (((b : Nat) + (-1074 : Int)) + 1074).toNat = b by omega, show (-(((b : Nat) + (-1074 : Int)) + 1074)).toNat = 0 by omega, Nat.pow_zero, h2]
 obtain ⟨S, hS⟩ : ∃ S, sv x + sv y = S := ⟨_, rfl⟩
 rw [hS] at h2 h3 ⊢
 congr 1
 by_cases h0 : mag = 0
 ·have hS0 : S = 0 := by rw [h0, Nat.zero_mul] at h2; omega
  have hn := g2 h0
  rw [if_pos hS0, hS0, show (0 : Int).natAbs = 0 from rfl, wordQ_zero 1 (by omega), Nat.add_zero, hn]
  rw [hS0] at hS
  have hsx : (x / P63 % 2 == 1) = decide (P63 ≤ x) := by rw [Bool.eq_iff_iff, beq_iff_eq, decide_eq_true_iff]; unfold P63; omega
  have hsy : (y / P63 % 2 == 1) = decide (P63 ≤ y) := by rw [Bool.eq_iff_iff, beq_iff_eq, decide_eq_true_iff]; unfold P63; omega
  unfold sv at hS
  rw [hsx, hsy] at hS ⊢
  by_cases c1 : P63 ≤ x
  ·by_cases c2 : P63 ≤ y
   ·rw [decide_eq_true c1, decide_eq_true c2, if_pos rfl, if_pos rfl] at hS
    have z1 : fv (x % P63) = 0 := by omega
    have z2 : fv (y % P63) = 0 := by omega
    have w1 : x % P63 = 0 := fv_inj (by rw [z1, fv_zero])
    have w2 : y % P63 = 0 := fv_inj (by rw [z2, fv_zero])
    have v1 : x = P63 := by unfold P63 at *; omega
    have v2 : y = P63 := by unfold P63 at *; omega
    rw [decide_eq_true c1, decide_eq_true c2, if_pos (show x = P63 ∧ y = P63 from ⟨v1, v2⟩)]; rfl
   ·rw [decide_eq_false c2, Bool.and_false, if_neg (show ¬ (x = P63 ∧ y = P63) from fun hh => c2 (by rw [hh.2]; exact Nat.le_refl _))]; rfl
  ·rw [decide_eq_false c1, Bool.false_and, if_neg (show ¬ (x = P63 ∧ y = P63) from fun hh => c1 (by rw [hh.1]; exact Nat.le_refl _))]; rfl
 ·have hS0 : S ≠ 0 := by
   rintro rfl
   have h4 : mag * 2 ^ b = 0 := h2
   rcases Nat.mul_eq_zero.1 h4 with h5 | h5
   ·exact h0 h5
   ·have := Nat.two_pow_pos b; omega
  rw [if_neg hS0]
  congr 1
  by_cases hs : S < 0
  ·rw [(h3 h0).2 hs, if_pos rfl, if_pos hs]
  ·have hn : neg = false := by cases neg with
    | true => exact absurd ((h3 h0).1 rfl) hs
    | false => rfl
   rw [hn, if_neg (by simp), if_neg hs]
theorem read_pinf : FloatKind.f64.format.read INF = .infinity false := by decide +kernel
theorem read_ninf : FloatKind.f64.format.read NINF = .infinity true := by decide +kernel
theorem write_pinf : FloatKind.f64.format.write (.infinity false) = INF := by decide +kernel
theorem write_ninf : FloatKind.f64.format.write (.infinity true) = NINF := by decide +kernel
def addR (x y : Nat) : Nat := if nanB x = true ∨ nanB y = true then NAN else if x = INF ∨ y = INF then (if x = NINF ∨ y = NINF then NAN else INF) else if x = NINF ∨ y = NINF then NINF else if x = P63 ∧ y = P63 then P63 else shw (ups [x, y]) (downs [x, y]) 1
theorem kinds (x : Nat) (hx : x < 18446744073709551616) (h : ¬ nanB x = true) : x % P63 < INF ∨ x = INF ∨ x = NINF := by
 have h1 : ¬ INF < x % P63 := fun hc => h (decide_eq_true hc)
 unfold INF NINF P63 at *
 omega
theorem shw_int (a b : Nat) (S : Int) (h : S = (a : Int) - (b : Int)) : shw a b 1 = if S = 0 then 0 else (if S < 0 then P63 else 0) + wordQ S.natAbs 1 := by
 unfold shw
 by_cases h1 : b < a
 ·rw [if_pos h1, if_neg (by omega), if_neg (by omega), Nat.zero_add, show S.natAbs = a - b by omega]
 ·rw [if_neg h1]
  by_cases h2 : a < b
  ·rw [if_pos h2, if_neg (by omega), if_pos (by omega), show S.natAbs = b - a by omega]
  ·rw [if_neg h2, if_pos (by omega)]
theorem sv_sign (z : Nat) (hz : z < 18446744073709551616) : sv z = (if P63 ≤ z then -(fv (z % P63) : Int) else (fv (z % P63) : Int)) := by
 have hs : (z / P63 % 2 == 1) = decide (P63 ≤ z) := by rw [Bool.eq_iff_iff, beq_iff_eq, decide_eq_true_iff]; unfold P63; omega
 unfold sv
 rw [hs]
 by_cases h : P63 ≤ z
 ·rw [decide_eq_true h, if_pos rfl, if_pos h]
 ·rw [decide_eq_false h, if_neg (by simp), if_neg h]
theorem shw_two (x y : Nat) (hx : x < 18446744073709551616) (hy : y < 18446744073709551616) : shw (ups [x, y]) (downs [x, y]) 1 = if sv x + sv y = 0 then 0 else (if sv x + sv y < 0 then P63 else 0) + wordQ (sv x + sv y).natAbs 1 := by
 refine shw_int _ _ _ ?_
 have e1 : ups [x, y] = (if P63 ≤ x then 0 else fv (x % P63)) + ((if P63 ≤ y then 0 else fv (y % P63)) + 0) := rfl
 have e2 : downs [x, y] = (if P63 ≤ x then fv (x % P63) else 0) + ((if P63 ≤ y then fv (y % P63) else 0) + 0) := rfl
 rw [e1, e2, sv_sign x hx, sv_sign y hy]
 by_cases h1 : P63 ≤ x
 ·by_cases h2 : P63 ≤ y
  ·simp only [if_pos h1, if_pos h2]; omega
  ·simp only [if_pos h1, if_neg h2]; omega
 ·by_cases h2 : P63 ≤ y
  ·simp only [if_neg h1, if_pos h2]; omega
  ·simp only [if_neg h1, if_neg h2]; omega
theorem add_read {x y : Nat} {a b c : Ieee.Datum} (h1 : FloatKind.f64.format.read x = a) (h2 : FloatKind.f64.format.read y = b) (h3 : a.sum b = some c) : floatBits .add .f64 x y = some (FloatKind.f64.format.write c) := by
 show FloatKind.f64.format.add x y = _
 unfold Ieee.Format.add
 rw [h1, h2, h3]; rfl
theorem add_none {x y : Nat} {a b : Ieee.Datum} (h1 : FloatKind.f64.format.read x = a) (h2 : FloatKind.f64.format.read y = b) (h3 : a.sum b = none) : floatBits .add .f64 x y = none := by
 show FloatKind.f64.format.add x y = _
 unfold Ieee.Format.add
 rw [h1, h2, h3]; rfl
theorem addC_is (x y : Nat) (hx : x < 18446744073709551616) (hy : y < 18446744073709551616) : addC x y = addR x y := by
 unfold addC addR
 by_cases n1 : nanB x = true
 ·rw [add_nan_l x y n1, if_pos (.inl n1)]; rfl
 ·by_cases n2 : nanB y = true
  ·rw [add_nan_r x y n2, if_pos (.inr n2)]; rfl
  ·rw [if_neg (by rintro (h | h); exact n1 h; exact n2 h)]
   have hne : INF ≠ NINF := by decide
   rcases kinds x hx n1 with kx | rfl | rfl
   ·have x1 : x ≠ INF := by rintro rfl; exact absurd kx (by decide)
    have x2 : x ≠ NINF := by rintro rfl; exact absurd kx (by decide)
    obtain ⟨m, i, r1, _⟩ := read_fin x kx
    rcases kinds y hy n2 with ky | rfl | rfl
    ·have y1 : y ≠ INF := by rintro rfl; exact absurd ky (by decide)
     have y2 : y ≠ NINF := by rintro rfl; exact absurd ky (by decide)
     rw [if_neg (by rintro (h | h); exact x1 h; exact y1 h), if_neg (by rintro (h | h); exact x2 h; exact y2 h), add_fin x y hx hy kx ky, shw_two x y hx hy]
     show (if sv x + sv y = 0 then _ else _) = _
     by_cases hz : x = P63 ∧ y = P63
     ·rw [if_pos hz]
      have e : sv x + sv y = 0 := by rw [hz.1, hz.2]; decide +kernel
      rw [if_pos e, if_pos hz]
     ·rw [if_neg hz, if_neg hz]
    ·rw [if_pos (.inr rfl), if_neg (by rintro (h | h); exact x2 h; exact hne h), add_read r1 read_pinf (c := .infinity false) rfl, write_pinf]; rfl
    ·rw [if_neg (by rintro (h | h); exact x1 h; exact hne h.symm), if_pos (.inr rfl), add_read r1 read_ninf (c := .infinity true) rfl, write_ninf]; rfl
   ·rw [if_pos (.inl rfl)]
    rcases kinds y hy n2 with ky | rfl | rfl
    ·have y2 : y ≠ NINF := by rintro rfl; exact absurd ky (by decide)
     obtain ⟨m, i, r1, _⟩ := read_fin y ky
     rw [if_neg (by rintro (h | h); exact hne h; exact y2 h), add_read read_pinf r1 (c := .infinity false) rfl, write_pinf]; rfl
    ·rw [if_neg (by rintro (h | h); exact hne h; exact hne h), add_read read_pinf read_pinf (c := .infinity false) rfl, write_pinf]; rfl
    ·rw [if_pos (.inr rfl), add_none read_pinf read_ninf rfl]; rfl
   ·rcases kinds y hy n2 with ky | rfl | rfl
    ·have y1 : y ≠ INF := by rintro rfl; exact absurd ky (by decide)
     obtain ⟨m, i, r1, _⟩ := read_fin y ky
     rw [if_neg (by rintro (h | h); exact hne h.symm; exact y1 h), if_pos (.inl rfl), add_read read_ninf r1 (c := .infinity true) rfl, write_ninf]; rfl
    ·rw [if_pos (.inr rfl), if_pos (.inl rfl), add_none read_ninf read_pinf rfl]; rfl
    ·rw [if_neg (by rintro (h | h); exact hne h.symm; exact hne h.symm), if_pos (.inl rfl), add_read read_ninf read_ninf (c := .infinity true) rfl, write_ninf]; rfl
end Go.Proofs.YtfmjdoofopamkaaGreatDoor.Plain
