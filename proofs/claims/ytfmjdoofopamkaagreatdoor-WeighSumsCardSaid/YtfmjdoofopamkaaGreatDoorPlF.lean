import Derived.Test.YtfmjdoofopamkaaGreatDoorPlA
import Ieee.Arith
import Derived.Test.YtfmjdoofopamkaaGreatDoorWx4
import Derived.Test.YtfmjdoofopamkaaGreatDoorWx6
import Derived.Test.YtfmjdoofopamkaaGreatDoorWx1
import Derived.Test.YtfmjdoofopamkaaGreatDoorWx7
namespace Go.Proofs.YtfmjdoofopamkaaGreatDoor.Plain
open Go.RowKit Go.Proofs.YtfmjdoofopamkaaGreatDoorW.PrintWords Go.Proofs.YtfmjdoofopamkaaGreatDoorW.PrintLast Go.Proofs.YtfmjdoofopamkaaGreatDoorW.PrintMore
set_option linter.unusedVariables false
set_option linter.unusedSimpArgs false
theorem u64_wf {x : Int} (h : (Lit.int .u64 x).wf = true) : 0 ≤ x ∧ x ≤ 18446744073709551615 := by
 simpa only [Lit.wf, Bool.and_eq_true, decide_eq_true_eq, show IntKind.u64.min = 0 from by decide, show IntKind.u64.max = 18446744073709551615 from by decide] using h
theorem u64_or (a b : Nat) (ha : a < 2 ^ 64) (hb : b < 2 ^ 64) : Go.bits .or .u64 (a : Int) (b : Int) = ((a ||| b : Nat) : Int) :=
 (bits_nat .u64 64 (by decide) (fun n h0 h1 => wu64 h0 (by omega)) a b ha hb).2
theorem u64_and (a b : Nat) (ha : a < 2 ^ 64) (hb : b < 2 ^ 64) : Go.bits .and .u64 (a : Int) (b : Int) = ((a &&& b : Nat) : Int) :=
 (bits_nat .u64 64 (by decide) (fun n h0 h1 => wu64 h0 (by omega)) a b ha hb).1
theorem read64 (x : Nat) : FloatKind.f64.format.read x =
  if x % 9223372036854775808 < 4503599627370496 then .number (x / 9223372036854775808 % 2 == 1) (x % 9223372036854775808) (-1074)
  else if x % 9223372036854775808 < 9218868437227405312 then .number (x / 9223372036854775808 % 2 == 1) (4503599627370496 + x % 9223372036854775808 % 4503599627370496) (-1074 + ((x % 9223372036854775808 / 4503599627370496 - 1 : Nat) : Int))
  else if x % 9223372036854775808 = 9218868437227405312 then .infinity (x / 9223372036854775808 % 2 == 1)
  else .nan (x / 9223372036854775808 % 2 == 1) (x % 9223372036854775808 - 9218868437227405312) := rfl
theorem nan_order (x y : Nat) (h : 9218868437227405312 < x % 9223372036854775808) : FloatKind.f64.format.order x y = none := by
 unfold Ieee.Format.order
 rw [read64 x, if_neg (by omega), if_neg (by omega), if_neg (by omega)]
 cases FloatKind.f64.format.read y <;> rfl
theorem compare_self (a : Int) : compare a a = .eq := by simp [compare, compareOfLessAndEq]
theorem fin_order_self (x : Nat) (h : x % 9223372036854775808 ≤ 9218868437227405312) : FloatKind.f64.format.order x x = some .eq := by
 unfold Ieee.Format.order
 rw [read64 x]
 by_cases h1 : x % 9223372036854775808 < 4503599627370496
 ·rw [if_pos h1]; simp only [Ieee.Datum.order, compare_self]
 ·rw [if_neg h1]
  by_cases h2 : x % 9223372036854775808 < 9218868437227405312
  ·rw [if_pos h2]; simp only [Ieee.Datum.order, compare_self]
  ·rw [if_neg h2, if_pos (by omega)]; simp [Ieee.Datum.order, compare, compareOfLessAndEq]
theorem isnan_true {x : Nat} (h : 9218868437227405312 < x % 9223372036854775808) : (FloatKind.f64.format.order x x != some .eq) = true := by rw [nan_order x x h]; rfl
theorem isnan_false {x : Nat} (h : x % 9223372036854775808 ≤ 9218868437227405312) : (FloatKind.f64.format.order x x != some .eq) = false := by rw [fin_order_self x h]; rfl
end Go.Proofs.YtfmjdoofopamkaaGreatDoor.Plain
namespace Go.Proofs.YtfmjdoofopamkaaGreatDoor.Plain
open Go.RowKit Go.Proofs.YtfmjdoofopamkaaGreatDoorW.PrintWords Go.Proofs.YtfmjdoofopamkaaGreatDoorW.PrintLast Go.Proofs.YtfmjdoofopamkaaGreatDoorW.PrintMore
set_option linter.unusedVariables false
set_option linter.unusedSimpArgs false
abbrev P52 : Nat := 4503599627370496
abbrev P63 : Nat := 9223372036854775808
abbrev INF : Nat := 9218868437227405312
def fv (r : Nat) : Nat := if r < P52 then r else (P52 + r % P52) * 2 ^ (r / P52 - 1)
theorem fv_succ (r : Nat) : fv r < fv (r + 1) := by
 unfold fv
 by_cases h : r + 1 < P52
 ·rw [if_pos (by omega), if_pos h]; omega
 ·rw [if_neg h]
  by_cases h2 : r < P52
  ·have e : r + 1 = P52 := by omega
   rw [if_pos h2, e, Nat.mod_self, Nat.div_self (by decide)]; simp; omega
  ·rw [if_neg h2]
   by_cases h3 : r % P52 + 1 < P52
   ·have e1 : (r + 1) % P52 = r % P52 + 1 := by unfold P52 at *; omega
    have e2 : (r + 1) / P52 = r / P52 := by unfold P52 at *; omega
    rw [e1, e2]
    exact Nat.mul_lt_mul_of_pos_right (by omega) (Nat.two_pow_pos _)
   ·have e1 : (r + 1) % P52 = 0 := by unfold P52 at *; omega
    have e2 : (r + 1) / P52 = r / P52 + 1 := by unfold P52 at *; omega
    have e3 : 1 ≤ r / P52 := by unfold P52 at *; omega
    have hm := Nat.mod_lt r (show 0 < P52 by decide)
    rw [e1, e2, Nat.add_sub_cancel, Nat.add_zero]
    obtain ⟨q, hq⟩ : ∃ q, r / P52 = q + 1 := ⟨r / P52 - 1, by omega⟩
    rw [hq, Nat.add_sub_cancel, Nat.pow_succ, Nat.mul_comm (2 ^ q) 2, ← Nat.mul_assoc]
    exact Nat.mul_lt_mul_of_pos_right (by omega) (Nat.two_pow_pos _)
theorem fv_lt {r s : Nat} (h : r < s) : fv r < fv s := by
 induction s with
 | zero => omega
 | succ s ih =>
  by_cases h1 : r < s
  ·exact Nat.lt_trans (ih h1) (fv_succ s)
  ·have : r = s := by omega
   subst this; exact fv_succ r
theorem fv_lt_iff {r s : Nat} : fv r < fv s ↔ r < s := by
 constructor
 ·intro h
  by_cases h1 : r < s
  ·exact h1
  ·rcases Nat.lt_or_eq_of_le (Nat.not_lt.1 h1) with h2 | h2
   ·have := fv_lt h2; omega
   ·subst h2; omega
 ·exact fv_lt
theorem fv_inj {r s : Nat} (h : fv r = fv s) : r = s := by
 rcases Nat.lt_trichotomy r s with h1 | h1 | h1
 ·have := fv_lt h1; omega
 ·exact h1
 ·have := fv_lt h1; omega
theorem fv_zero : fv 0 = 0 := rfl
theorem read_fin (x : Nat) (h : x % P63 < INF) : ∃ m i : _, FloatKind.f64.format.read x = .number (x / P63 % 2 == 1) m ((i : Nat) + (-1074 : Int)) ∧ fv (x % P63) = m * 2 ^ i := by
 rw [read64 x]
 by_cases h1 : x % P63 < P52
 ·rw [if_pos h1]
  exact ⟨x % P63, 0, rfl, by unfold fv; rw [if_pos h1]; simp⟩
 ·rw [if_neg h1, if_pos h]
  refine ⟨P52 + x % P63 % P52, x % P63 / P52 - 1, ?_, by unfold fv; rw [if_neg h1]⟩
  rw [Int.add_comm]
theorem cmp_scaled (m n i j : Nat) (s t : Bool) : compare (Ieee.signed s m (((i : Nat) + (-1074 : Int)) - min ((i : Nat) + (-1074 : Int)) ((j : Nat) + (-1074 : Int))).toNat) (Ieee.signed t n (((j : Nat) + (-1074 : Int)) - min ((i : Nat) + (-1074 : Int)) ((j : Nat) + (-1074 : Int))).toNat) =
  compare (if s then -((m * 2 ^ i : Nat) : Int) else ((m * 2 ^ i : Nat) : Int)) (if t then -((n * 2 ^ j : Nat) : Int) else ((n * 2 ^ j : Nat) : Int)) := by
 obtain ⟨b, hb⟩ : ∃ b, min i j = b := ⟨_, rfl⟩
 have e1 : (((i : Nat) + (-1074 : Int)) - min ((i : Nat) + (-1074 : Int)) ((j : Nat) + (-1074 : Int))).toNat = i - b := by omega
 have e2 : (((j : Nat) + (-1074 : Int)) - min ((i : Nat) + (-1074 : Int)) ((j : Nat) + (-1074 : Int))).toNat = j - b := by omega
 rw [e1, e2]
 have e3 : m * 2 ^ i = m * 2 ^ (i - b) * 2 ^ b := by rw [Nat.mul_assoc, ← Nat.pow_add]; congr 2; omega
 have e4 : n * 2 ^ j = n * 2 ^ (j - b) * 2 ^ b := by rw [Nat.mul_assoc, ← Nat.pow_add]; congr 2; omega
 rw [e3, e4]
 unfold Ieee.signed
 simp only [Nat.shiftLeft_eq]
 generalize m * 2 ^ (i - b) = M
 generalize n * 2 ^ (j - b) = N
 have hp : (0 : Int) < 2 ^ b := by exact_mod_cast Nat.two_pow_pos b
 have key : ∀ x y : Int, compare x y = compare (x * 2 ^ b) (y * 2 ^ b) := by
  intro x y
  simp only [compare, compareOfLessAndEq]
  by_cases h1 : x < y
  ·rw [if_pos h1, if_pos (Int.mul_lt_mul_of_pos_right h1 hp)]
  ·rw [if_neg h1, if_neg (fun h => h1 (Int.lt_of_mul_lt_mul_right h (Int.le_of_lt hp)))]
   by_cases h2 : x = y
   ·rw [if_pos h2, if_pos (by rw [h2])]
   ·rw [if_neg h2, if_neg (fun h => h2 (Int.eq_of_mul_eq_mul_right (by omega) h))]
 rw [key]
 congr 1 <;> cases s <;> cases t <;> simp [Int.neg_mul]
def sv (x : Nat) : Int := if x / P63 % 2 == 1 then -(fv (x % P63) : Int) else (fv (x % P63) : Int)
theorem order_fin (x y : Nat) (hx : x % P63 < INF) (hy : y % P63 < INF) : FloatKind.f64.format.order x y = some (compare (sv x) (sv y)) := by
 obtain ⟨m, i, e1, e2⟩ := read_fin x hx
 obtain ⟨n, j, e3, e4⟩ := read_fin y hy
 unfold Ieee.Format.order
 rw [e1, e3]
 simp only [Ieee.Datum.order]
 rw [cmp_scaled, ← e2, ← e4]
 rfl
theorem sv_pos {x : Nat} (h : x < P63) : sv x = (fv x : Int) := by
 unfold sv
 rw [Nat.div_eq_of_lt h, Nat.mod_eq_of_lt h]; rfl
theorem order_pos (x y : Nat) (hx : x ≤ INF) (hy : y ≤ INF) : FloatKind.f64.format.order x y = some (compare x y) := by
 have cmpN : ∀ a b : Nat, compare ((fv a : Nat) : Int) ((fv b : Nat) : Int) = compare a b := by
  intro a b
  simp only [compare, compareOfLessAndEq]
  by_cases h1 : a < b
  ·have := fv_lt h1; rw [if_pos h1, if_pos (by omega)]
  ·rw [if_neg h1, if_neg (fun h => h1 (fv_lt_iff.1 (by omega)))]
   by_cases h2 : a = b
   ·rw [if_pos h2, if_pos (by rw [h2])]
   ·rw [if_neg h2, if_neg (fun h => h2 (fv_inj (by omega)))]
 by_cases h1 : x < INF
 ·by_cases h2 : y < INF
  ·rw [order_fin x y (by unfold P63 INF at *; omega) (by unfold P63 INF at *; omega), sv_pos (by unfold P63 INF at *; omega), sv_pos (by unfold P63 INF at *; omega), cmpN]
  ·have e : y = INF := by omega
   subst e
   obtain ⟨m, i, e1, e2⟩ := read_fin x (by unfold P63 INF at *; omega)
   unfold Ieee.Format.order
   rw [e1, show FloatKind.f64.format.read INF = .infinity false from rfl]
   simp only [Ieee.Datum.order, compare, compareOfLessAndEq]
   rw [if_pos h1]; first | rfl | done
 ·have e : x = INF := by omega
  subst e
  by_cases h2 : y < INF
  ·obtain ⟨m, i, e1, e2⟩ := read_fin y (by unfold P63 INF at *; omega)
   unfold Ieee.Format.order
   rw [e1, show FloatKind.f64.format.read INF = .infinity false from rfl]
   simp only [Ieee.Datum.order, compare, compareOfLessAndEq]
   rw [if_neg (show ¬ INF < y by omega), if_neg (show ¬ INF = y by omega)]; rfl
  ·have e : y = INF := by omega
   subst e
   rfl
end Go.Proofs.YtfmjdoofopamkaaGreatDoor.Plain
namespace Go.Proofs.YtfmjdoofopamkaaGreatDoor.Plain
open Go.RowKit Go.Proofs.YtfmjdoofopamkaaGreatDoorW.PrintWords Go.Proofs.YtfmjdoofopamkaaGreatDoorW.PrintLast Go.Proofs.YtfmjdoofopamkaaGreatDoorW.PrintMore
set_option linter.unusedVariables false
set_option linter.unusedSimpArgs false
def rne (p q : Nat) : Nat := if q < 2 * (p % q) ∨ (q = 2 * (p % q) ∧ p / q % 2 = 1) then p / q + 1 else p / q
theorem rne_scale (p q c : Nat) (hc : 0 < c) : rne (p * c) (q * c) = rne p q := by
 unfold rne
 rw [Nat.mul_div_mul_right _ _ hc, Nat.mul_mod_mul_right]
 have e1 : (q * c < 2 * (p % q * c)) ↔ (q < 2 * (p % q)) := by
  rw [← Nat.mul_assoc]; exact Nat.mul_lt_mul_right hc
 have e2 : (q * c = 2 * (p % q * c)) ↔ (q = 2 * (p % q)) := by
  rw [← Nat.mul_assoc]; exact Nat.mul_right_cancel_iff hc
 simp only [e1, e2]
theorem rne_one (p : Nat) : rne p 1 = p := by unfold rne; rw [Nat.mod_one, Nat.div_one]; simp
theorem rne_exact (a q : Nat) (hq : 0 < q) : rne (a * q) q = a := by
 have := rne_scale a 1 q hq; rw [Nat.one_mul] at this; rw [this, rne_one]
theorem rne_small (p q : Nat) (h : 2 * p < q) : rne p q = 0 := by
 unfold rne; rw [Nat.mod_eq_of_lt (by omega), Nat.div_eq_of_lt (by omega), if_neg (by omega)]
theorem cut_even (neg : Bool) (n drop : Nat) (hn : n ≠ 0) : Ieee.Toward.even.cut neg n drop = rne n (2 ^ drop) := by
 have hc : ∀ g : Nat, (n / g + (g < 2 * (n % g) || (g == 2 * (n % g) && n / g % 2 == 1)).toNat) = rne n g := by
  intro g
  unfold rne
  by_cases h1 : g < 2 * (n % g)
  ·simp [h1]
  ·by_cases h2 : g = 2 * (n % g) ∧ n / g % 2 = 1
   ·have h3 : (g == 2 * (n % g)) = true := beq_iff_eq.2 h2.1
    have h4 : (n / g % 2 == 1) = true := beq_iff_eq.2 h2.2
    rw [if_pos (.inr h2)]
    simp [h1, h3, h4]
   ·rw [if_neg (by simp [h1]; simpa using h2)]
    have h5 : (g == 2 * (n % g) && n / g % 2 == 1) = false := by
     rw [Bool.and_eq_false_iff]
     by_cases h6 : g = 2 * (n % g)
     ·right
      have h7 : ¬ n / g % 2 = 1 := fun h7 => h2 ⟨h6, h7⟩
      simp; omega
     ·left; simpa using h6
    simp [h1, h5]
 unfold Ieee.Toward.cut
 simp only
 rw [show (1 <<< min drop (n.log2 + 2)) = 2 ^ min drop (n.log2 + 2) by rw [Nat.shiftLeft_eq, Nat.one_mul]]
 rw [show (decide (2 ^ min drop (n.log2 + 2) < 2 * (n % 2 ^ min drop (n.log2 + 2))) || (2 ^ min drop (n.log2 + 2) == 2 * (n % 2 ^ min drop (n.log2 + 2)) && n / 2 ^ min drop (n.log2 + 2) % 2 == 1)) = (2 ^ min drop (n.log2 + 2) < 2 * (n % 2 ^ min drop (n.log2 + 2)) || (2 ^ min drop (n.log2 + 2) == 2 * (n % 2 ^ min drop (n.log2 + 2)) && n / 2 ^ min drop (n.log2 + 2) % 2 == 1)) from rfl]
 rw [hc]
 by_cases h : drop ≤ n.log2 + 2
 ·rw [Nat.min_eq_left h]
 ·rw [Nat.min_eq_right (by omega)]
  have h1 := @Nat.lt_log2_self n
  have h2 : 2 * n < 2 ^ (n.log2 + 2) := by rw [show n.log2 + 2 = (n.log2 + 1) + 1 by omega, Nat.pow_succ]; omega
  have h3 : 2 ^ (n.log2 + 2) ≤ 2 ^ drop := Nat.pow_le_pow_right (by omega) (by omega)
  rw [rne_small _ _ h2, rne_small _ _ (by omega)]
def wordQ (p q : Nat) : Nat := min ((bl (p / q) - 53) * P52 + rne p (q * 2 ^ (bl (p / q) - 53))) INF
theorem bl_log2 {n : Nat} (h : n ≠ 0) : bl n = n.log2 + 1 := by unfold bl; rw [if_neg h]
theorem bl_div_pow (n b : Nat) : bl (n / 2 ^ b) = bl n - b := by
 by_cases h : n / 2 ^ b = 0
 ·rw [h]
  have h1 : n < 2 ^ b := (Nat.div_eq_zero_iff_lt (Nat.two_pow_pos b)).1 h
  have := bl_le h1
  simp [bl] at *; omega
 ·have hn : n ≠ 0 := by rintro rfl; simp at h
  have h0 := Nat.two_pow_pos b
  have h1 : 2 ^ b ≤ n := by
   by_cases hc : 2 ^ b ≤ n
   ·exact hc
   ·exact absurd (Nat.div_eq_of_lt (Nat.not_le.1 hc)) h
  have h2 : b < bl n := by
   have := lt_two_bl n
   exact (Nat.pow_lt_pow_iff_right (show 1 < 2 by omega)).1 (Nat.lt_of_le_of_lt h1 this)
  have h3 := two_bl_le hn
  have h4 := lt_two_bl n
  rw [show bl n - b = (bl n - b - 1) + 1 by omega]
  refine bl_eq ?_ ?_
  ·rw [Nat.le_div_iff_mul_le h0, ← Nat.pow_add]
   refine Nat.le_trans (Nat.pow_le_pow_right (by omega) (by omega)) h3
  ·rw [Nat.div_lt_iff_lt_mul h0, ← Nat.pow_add]
   exact Nat.lt_of_lt_of_le h4 (Nat.pow_le_pow_right (by omega) (by omega))
theorem rne_pow (m x y z w : Nat) (h : x + w = z + y) : rne (m * 2 ^ x) (2 ^ y) = rne (m * 2 ^ z) (2 ^ w) := by
 rcases Nat.le_total x z with hc | hc
 ·obtain ⟨c, rfl⟩ := Nat.exists_eq_add_of_le hc
  have e : w = y + c := by omega
  subst e
  rw [Nat.pow_add, Nat.pow_add, ← Nat.mul_assoc, rne_scale _ _ _ (Nat.two_pow_pos c)]
 ·obtain ⟨c, rfl⟩ := Nat.exists_eq_add_of_le hc
  have e : y = w + c := by omega
  subst e
  rw [Nat.pow_add, Nat.pow_add, ← Nat.mul_assoc, rne_scale _ _ _ (Nat.two_pow_pos c)]
theorem nearest_word (neg : Bool) (mag : Nat) (place : Int) (hm : mag ≠ 0) :
  FloatKind.f64.format.nearest neg mag place = (if neg then P63 else 0) + wordQ (mag * 2 ^ (place + 1074).toNat) (2 ^ (-(place + 1074)).toNat) := by
 have hw : ∀ r, FloatKind.f64.format.word neg r = (if neg then P63 else 0) + r := by
  intro r; cases neg
  ·show r = 0 + r; omega
  ·rfl
 unfold Ieee.Format.nearest
 rw [if_neg hm, hw]
 refine congrArg (fun z => (if neg then P63 else 0) + z) ?_
 unfold wordQ
 have hl := bl_log2 hm
 obtain ⟨L, hL⟩ : ∃ L, mag.log2 = L := ⟨_, rfl⟩
 rw [hL] at hl ⊢
 have hbl : bl (mag * 2 ^ (place + 1074).toNat / 2 ^ (-(place + 1074)).toNat) - 53 = (max (place + (L : Int) - 52) (-1074) + 1074).toNat := by
  rw [bl_div_pow, bl_mul_pow hm, hl]; omega
 rw [hbl]
 have hk : ∃ k : Nat, max (place + (L : Int) - 52) (-1074) = (k : Int) - 1074 := ⟨(max (place + (L : Int) - 52) (-1074) + 1074).toNat, by omega⟩
 obtain ⟨k, hk⟩ := hk
 have e0 : (place + ((L : Nat) : Int) - ((FloatKind.f64.format.fractionBits : Nat) : Int)) = place + (L : Int) - 52 := rfl
 have e1 : FloatKind.f64.format.leastPlace = -1074 := rfl
 have e2 : FloatKind.f64.format.binade = P52 := rfl
 have e3 : FloatKind.f64.format.infRung = INF := rfl
 simp only [e0, e1, e2, e3, hk]
 rw [show ((k : Int) - 1074 - -1074).toNat = k by omega, show ((k : Int) - 1074 + 1074).toNat = k by omega]
 have hne : mag <<< (place - ((k : Int) - 1074)).toNat ≠ 0 := by
  rw [Nat.shiftLeft_eq]; exact Nat.mul_ne_zero hm (Nat.ne_of_gt (Nat.two_pow_pos _))
 rw [cut_even _ _ _ hne, Nat.shiftLeft_eq, ← Nat.pow_add]
 rw [rne_pow mag (place - ((k : Int) - 1074)).toNat ((k : Int) - 1074 - place).toNat (place + 1074).toNat ((-(place + 1074)).toNat + k) (by omega)]
theorem wordQ_scale (p q c : Nat) (hc : 0 < c) : wordQ (p * c) (q * c) = wordQ p q := by
 unfold wordQ
 rw [Nat.mul_div_mul_right _ _ hc, Nat.mul_right_comm q c, rne_scale _ _ _ hc]
theorem wordQ_fv (r : Nat) (h : r < INF) : wordQ (fv r) 1 = r := by
 unfold wordQ
 rw [Nat.div_one, Nat.one_mul]
 by_cases h1 : r < P52
 ·have e : fv r = r := by unfold fv; rw [if_pos h1]
  have hb : bl r ≤ 52 := bl_le h1
  rw [e, show bl r - 53 = 0 by omega, Nat.pow_zero, rne_one, Nat.zero_mul, Nat.zero_add, Nat.min_eq_left (Nat.le_of_lt h)]
 ·have e : fv r = (P52 + r % P52) * 2 ^ (r / P52 - 1) := by unfold fv; rw [if_neg h1]
  have hm := Nat.mod_lt r (show 0 < P52 by decide)
  have hb : bl (P52 + r % P52) = 53 := bl_eq (k := 52) (by show P52 ≤ _; omega) (by show _ < 9007199254740992; unfold P52 at *; omega)
  have h2 := Nat.div_add_mod r P52
  have h3 : 1 ≤ r / P52 := Nat.div_pos (Nat.not_lt.1 h1) (by decide)
  rw [e, bl_mul_pow (by unfold P52; omega), hb, Nat.add_sub_cancel_left, rne_exact _ _ (Nat.two_pow_pos _)]
  have e2 : (r / P52 - 1) * P52 + (P52 + r % P52) = r := by unfold P52 at *; omega
  rw [e2, Nat.min_eq_left (Nat.le_of_lt h)]
end Go.Proofs.YtfmjdoofopamkaaGreatDoor.Plain
namespace Go.Proofs.YtfmjdoofopamkaaGreatDoor.Plain
open Go.RowKit Go.Proofs.YtfmjdoofopamkaaGreatDoorW.PrintWords Go.Proofs.YtfmjdoofopamkaaGreatDoorW.PrintLast Go.Proofs.YtfmjdoofopamkaaGreatDoorW.PrintMore Go.Proofs.YtfmjdoofopamkaaGreatDoor.W
set_option linter.unusedVariables false
set_option linter.unusedSimpArgs false
theorem wordQ_cross {p q p' q' : Nat} (hq : 0 < q) (hq' : 0 < q') (h : p * q' = p' * q) : wordQ p q = wordQ p' q' := by
 rw [← wordQ_scale p q q' hq', h, Nat.mul_comm q q', wordQ_scale p' q' q hq]
theorem wordQ_zero (q : Nat) (hq : 0 < q) : wordQ 0 q = 0 := by
 have := wordQ_cross (p := 0) (q := q) (p' := 0) (q' := 1) hq (by omega) (by simp)
 rw [this]; exact wordQ_fv 0 (by decide)
theorem wordQ_le (p q : Nat) : wordQ p q ≤ INF := Nat.min_le_right _ _
set_option exponentiation.threshold 3000 in
theorem mul_pos_bits (a b : Nat) (ha : a < INF) (hb : b < INF) : floatBits .mul .f64 a b = some (wordQ (fv a * fv b) (2 ^ 1074)) := by
 obtain ⟨m, i, e1, e2⟩ := read_fin a (by unfold P63 INF at *; omega)
 obtain ⟨n, j, e3, e4⟩ := read_fin b (by unfold P63 INF at *; omega)
 have sa : (a / P63 % 2 == 1) = false := by rw [Nat.div_eq_of_lt (by unfold P63 INF at *; omega)]; rfl
 have sb : (b / P63 % 2 == 1) = false := by rw [Nat.div_eq_of_lt (by unfold P63 INF at *; omega)]; rfl
 rw [Nat.mod_eq_of_lt (show a < P63 by unfold P63 INF at *; omega)] at e2
 rw [Nat.mod_eq_of_lt (show b < P63 by unfold P63 INF at *; omega)] at e4
 show FloatKind.f64.format.mul a b = _
 unfold Ieee.Format.mul
 rw [e1, e3, sa, sb]
 simp only [Ieee.Datum.product, Option.map_some, Ieee.Format.write]
 refine congrArg some ?_
 by_cases h0 : m * n = 0
 ·have e5 : fv a * fv b = 0 := by
   rw [e2, e4]
   rcases Nat.mul_eq_zero.1 h0 with h | h <;> subst h <;> simp
  rw [e5, wordQ_zero _ (Nat.two_pow_pos _)]
  unfold Ieee.Format.nearest
  rw [if_pos h0]; rfl
 ·rw [nearest_word _ _ _ h0]
  show 0 + _ = _
  rw [Nat.zero_add]
  refine wordQ_cross (Nat.two_pow_pos _) (Nat.two_pow_pos _) ?_
  rw [e2, e4, show m * 2 ^ i * (n * 2 ^ j) = m * n * 2 ^ (i + j) by rw [Nat.pow_add]; simp only [Nat.mul_assoc, Nat.mul_left_comm]]
  rw [Nat.mul_assoc (m * n), Nat.mul_assoc (m * n), ← Nat.pow_add, ← Nat.pow_add]
  refine congrArg (fun z => m * n * 2 ^ z) ?_
  omega
theorem andNot_sign' (a : Nat) (ha : a < 18446744073709551616) : Go.bits .andNot .u64 (a : Int) 9223372036854775808 = ((a % 9223372036854775808 : Nat) : Int) := by
 unfold Go.bits
 have e1 : BitVec.ofInt IntKind.u64.bits (a : Int) = BitVec.ofNat 64 a := BitVec.ofInt_natCast 64 a
 have e2 : BitVec.ofInt IntKind.u64.bits (9223372036854775808 : Int) = BitVec.ofNat 64 9223372036854775808 := BitVec.ofInt_natCast 64 9223372036854775808
 show IntKind.u64.wrap ((BitVec.ofInt IntKind.u64.bits (a : Int) &&& ~~~ BitVec.ofInt IntKind.u64.bits (9223372036854775808 : Int)).toNat : Int) = _
 rw [e1, e2]
 have e3 : (BitVec.ofNat 64 a &&& ~~~ BitVec.ofNat 64 9223372036854775808).toNat = a % 9223372036854775808 := by
  rw [BitVec.toNat_and, show (~~~ BitVec.ofNat 64 9223372036854775808).toNat = 2 ^ 63 - 1 by decide, BitVec.toNat_ofNat, Nat.mod_eq_of_lt (by omega), Nat.and_two_pow_sub_one_eq_mod]
 show IntKind.u64.wrap (((BitVec.ofNat 64 a &&& ~~~ BitVec.ofNat 64 9223372036854775808).toNat : Nat) : Int) = _
 rw [e3, wu64 (by omega) (by omega)]
theorem abs_ok (x : Nat) (h : x < 18446744073709551616) : math_Abs.f x = some (x % P63) := by
 unfold math_Abs.f
 rw [andNot_sign' x h, Int.toNat_natCast]
theorem signbit_ok (x : Nat) (h : x < 18446744073709551616) : math_Signbit.f x = some (decide (P63 ≤ x)) := by
 unfold math_Signbit.f
 refine congrArg some (decide_eq_decide.2 ?_)
 unfold wrap64 P63; omega
theorem gt_max (x : Nat) (h : x < P63) : (FloatKind.f64.format.order x 9218868437227405311 == some .gt) = decide (x = INF) := by
 by_cases h1 : INF < x
 ·rw [nan_order x _ (by unfold P63 INF at *; omega), decide_eq_false (by omega)]; rfl
 ·rw [order_pos x _ (by omega) (by decide)]
  simp only [compare, compareOfLessAndEq]
  by_cases h2 : x < 9218868437227405311
  ·rw [if_pos h2, decide_eq_false (by unfold INF; omega)]; rfl
  ·rw [if_neg h2]
   by_cases h3 : x = 9218868437227405311
   ·rw [if_pos h3, decide_eq_false (by unfold INF; omega)]; rfl
   ·rw [if_neg h3, decide_eq_true (by unfold INF at *; omega)]; rfl
theorem isinf0_ok (x : Nat) (h : x < 18446744073709551616) : math_IsInf.f x 0 = some (decide (x % P63 = INF)) := by
 unfold math_IsInf.f
 rw [if_pos rfl, abs_ok x h, Option.bind_some, gt_max _ (Nat.mod_lt _ (by decide))]
end Go.Proofs.YtfmjdoofopamkaaGreatDoor.Plain
namespace Go.Proofs.YtfmjdoofopamkaaGreatDoor.Plain
open Go.RowKit Go.Proofs.YtfmjdoofopamkaaGreatDoorW.PrintWords Go.Proofs.YtfmjdoofopamkaaGreatDoorW.PrintLast Go.Proofs.YtfmjdoofopamkaaGreatDoorW.PrintMore Go.Proofs.YtfmjdoofopamkaaGreatDoor.W
set_option linter.unusedVariables false
set_option linter.unusedSimpArgs false
set_option exponentiation.threshold 3000
theorem and_63 (r : Nat) (h : r < P63) : r &&& 2 ^ 63 = 0 := by
 refine Nat.eq_of_testBit_eq fun i => ?_
 rw [Nat.testBit_and, Nat.testBit_two_pow, Nat.zero_testBit]
 by_cases hi : 63 = i
 ·subst hi; rw [Nat.testBit_lt_two_pow (show r < 2 ^ 63 from h)]; rfl
 ·rw [decide_eq_false hi, Bool.and_false]
theorem and_exp (r : Nat) (h : r < P63) : r &&& 9227875636482146303 = r % P52 := by
 have e : 9227875636482146303 = 2 ^ 63 ||| (2 ^ 52 - 1) := by decide
 rw [e, Nat.and_or_distrib_left, and_63 r h, Nat.and_two_pow_sub_one_eq_mod, Nat.zero_or]
theorem andNot_exp (r : Nat) (h : r < P63) : Go.bits .andNot .u64 (r : Int) 9218868437227405312 = ((r % P52 : Nat) : Int) := by
 unfold Go.bits
 have e1 : BitVec.ofInt IntKind.u64.bits (r : Int) = BitVec.ofNat 64 r := BitVec.ofInt_natCast 64 r
 have e2 : BitVec.ofInt IntKind.u64.bits (9218868437227405312 : Int) = BitVec.ofNat 64 9218868437227405312 := BitVec.ofInt_natCast 64 9218868437227405312
 show IntKind.u64.wrap ((BitVec.ofInt IntKind.u64.bits (r : Int) &&& ~~~ BitVec.ofInt IntKind.u64.bits (9218868437227405312 : Int)).toNat : Int) = _
 rw [e1, e2]
 have e3 : (BitVec.ofNat 64 r &&& ~~~ BitVec.ofNat 64 9218868437227405312).toNat = r % P52 := by
  rw [BitVec.toNat_and, show (~~~ BitVec.ofNat 64 9218868437227405312).toNat = 9227875636482146303 by decide, BitVec.toNat_ofNat, Nat.mod_eq_of_lt (by unfold P63 at h; omega), and_exp r h]
 show IntKind.u64.wrap (((BitVec.ofNat 64 r &&& ~~~ BitVec.ofNat 64 9218868437227405312).toNat : Nat) : Int) = _
 rw [e3, wu64 (by omega) (by unfold P52; omega)]
theorem or_exp (m e : Nat) (hm : m < P52) (he : e < 2048) : Go.bits .or .u64 (m : Int) ((e * P52 : Nat) : Int) = ((e * P52 + m : Nat) : Int) := by
 have hp : P52 = 2 ^ 52 := rfl
 rw [u64_or m (e * P52) (by unfold P52 at *; omega) (by unfold P52 at *; omega), Nat.or_comm, hp, Nat.mul_comm, ← Nat.two_pow_add_eq_or_of_lt (by rw [← hp]; exact hm)]
theorem order_zero (r : Nat) (h0 : 0 < r) (h : r ≤ INF) : (FloatKind.f64.format.order r 0 == some .eq) = false := by
 rw [order_pos r 0 h (by decide)]
 simp only [compare, compareOfLessAndEq]
 rw [if_neg (by omega), if_neg (by omega)]; rfl
theorem isinf0_fin (r : Nat) (h : r < INF) : math_IsInf.f r 0 = some false := by
 rw [isinf0_ok r (by unfold INF at h; omega), decide_eq_false]; unfold P63 INF at *; omega
theorem isnan_fin (r : Nat) (h : r ≤ INF) : math_IsNaN.f r = some false := by
 unfold math_IsNaN.f
 refine congrArg some ?_
 exact isnan_false (by unfold INF at h; omega)
theorem fv_norm {r : Nat} (h : P52 ≤ r) : fv r = (P52 + r % P52) * 2 ^ (r / P52 - 1) := by unfold fv; rw [if_neg (by omega)]
theorem fv_sub {r : Nat} (h : r < P52) : fv r = r := by unfold fv; rw [if_pos h]
theorem fv_mk (e m : Nat) (hm : m < P52) : fv ((e + 1) * P52 + m) = (P52 + m) * 2 ^ e := by
 rw [fv_norm (by unfold P52 at *; omega)]
 have e1 : ((e + 1) * P52 + m) % P52 = m := by unfold P52 at *; omega
 have e2 : ((e + 1) * P52 + m) / P52 = e + 1 := by unfold P52 at *; omega
 rw [e1, e2, Nat.add_sub_cancel]
theorem fv_pos {r : Nat} (h : 0 < r) : 0 < fv r := by have := fv_lt h; rw [fv_zero] at this; exact this
theorem word_exact (m i : Nat) (hm : m < 2 * P52) (hi : i ≤ 2045) : ∃ r, r < INF ∧ fv r = m * 2 ^ i ∧ wordQ (m * 2 ^ i) 1 = r ∧ (P52 ≤ m → r = i * P52 + m) := by
 have key : ∀ r, r < INF → fv r = m * 2 ^ i → wordQ (m * 2 ^ i) 1 = r := fun r hr h => by rw [← h]; exact wordQ_fv r hr
 by_cases h1 : P52 ≤ m
 ·refine ⟨i * P52 + m, by unfold P52 INF at *; omega, ?_, ?_, fun _ => rfl⟩
  ·have := fv_mk i (m - P52) (by omega)
   rw [show (i + 1) * P52 + (m - P52) = i * P52 + m by rw [Nat.add_mul]; omega, show P52 + (m - P52) = m by omega] at this
   exact this
  ·refine key _ (by unfold P52 INF at *; omega) ?_
   have := fv_mk i (m - P52) (by omega)
   rw [show (i + 1) * P52 + (m - P52) = i * P52 + m by rw [Nat.add_mul]; omega, show P52 + (m - P52) = m by omega] at this
   exact this
 ·by_cases h0 : m = 0
  ·subst h0
   refine ⟨0, by decide, by simp [fv_zero], by rw [Nat.zero_mul]; exact wordQ_zero 1 (by omega), fun h => absurd h (by decide)⟩
  ·-- shift up as far as it goes
   have hb0 := two_bl_le h0
   have hb1 := lt_two_bl m
   have hbp := bl_pos h0
   have hb52 : bl m ≤ 52 := bl_le (by show m < P52; omega)
   by_cases h2 : i ≤ 53 - bl m
   ·-- below 2^53: the word is the amount itself
    have hlt : m * 2 ^ i < 2 * P52 := by
     have : m * 2 ^ i < 2 ^ bl m * 2 ^ i := Nat.mul_lt_mul_of_pos_right hb1 (Nat.two_pow_pos i)
     rw [← Nat.pow_add] at this
     have h3 : 2 ^ (bl m + i) ≤ 2 ^ 53 := Nat.pow_le_pow_right (by omega) (by omega)
     have h4 : 2 * P52 = 2 ^ 53 := by decide
     omega
    have hfv : fv (m * 2 ^ i) = m * 2 ^ i := by
     by_cases h5 : m * 2 ^ i < P52
     ·exact fv_sub h5
     ·have := fv_mk 0 (m * 2 ^ i - P52) (by omega)
      rw [show (0 + 1) * P52 + (m * 2 ^ i - P52) = m * 2 ^ i by omega, show P52 + (m * 2 ^ i - P52) = m * 2 ^ i by omega, Nat.pow_zero, Nat.mul_one] at this
      exact this
    exact ⟨m * 2 ^ i, by unfold P52 INF at *; omega, hfv, key _ (by unfold P52 INF at *; omega) hfv, fun h => absurd h h1⟩
   ·obtain ⟨s, hs⟩ : ∃ s, bl m + s = 53 := ⟨53 - bl m, by omega⟩
    obtain ⟨j, hj⟩ : ∃ j, i = s + j := ⟨i - s, by omega⟩
    have hM0 : P52 ≤ m * 2 ^ s := by
     have : 2 ^ (bl m - 1) * 2 ^ s ≤ m * 2 ^ s := Nat.mul_le_mul_right _ hb0
     rw [← Nat.pow_add, show bl m - 1 + s = 52 by omega] at this
     exact this
    have hM1 : m * 2 ^ s < 2 * P52 := by
     have : m * 2 ^ s < 2 ^ bl m * 2 ^ s := Nat.mul_lt_mul_of_pos_right hb1 (Nat.two_pow_pos s)
     rw [← Nat.pow_add, hs] at this
     have h4 : 2 * P52 = 2 ^ 53 := by decide
     omega
    have e : m * 2 ^ i = m * 2 ^ s * 2 ^ j := by rw [hj, Nat.pow_add, Nat.mul_assoc]
    have hfv : fv (j * P52 + m * 2 ^ s) = m * 2 ^ i := by
     have := fv_mk j (m * 2 ^ s - P52) (by omega)
     rw [show (j + 1) * P52 + (m * 2 ^ s - P52) = j * P52 + m * 2 ^ s by rw [Nat.add_mul]; omega, show P52 + (m * 2 ^ s - P52) = m * 2 ^ s by omega] at this
     rw [this, e]
    have hlt : j * P52 + m * 2 ^ s < INF := by unfold P52 INF at *; omega
    exact ⟨_, hlt, hfv, key _ hlt hfv, fun h => absurd h h1⟩
theorem ofInt_word (q : Nat) (h0 : q ≠ 0) : floatOfInt .f64 (q : Int) = wordQ (q * 2 ^ 1074) 1 := by
 show FloatKind.f64.format.nearest (decide ((q : Int) < 0)) (q : Int).natAbs 0 = _
 rw [decide_eq_false (by omega), Int.natAbs_natCast, nearest_word false q 0 h0]
 simp
theorem wordQ_pow (m a b a' b' : Nat) (h : a + b' = a' + b) : wordQ (m * 2 ^ a) (2 ^ b) = wordQ (m * 2 ^ a') (2 ^ b') := by
 refine wordQ_cross (Nat.two_pow_pos _) (Nat.two_pow_pos _) ?_
 rw [Nat.mul_assoc, Nat.mul_assoc, ← Nat.pow_add, ← Nat.pow_add, h]
theorem wordQ_big (p q : Nat) (hq : 0 < q) (h : 2 ^ 2098 * q ≤ p) : wordQ p q = INF := by
 unfold wordQ
 have h1 : 2 ^ 2098 ≤ p / q := (Nat.le_div_iff_mul_le hq).2 h
 have h2 : 2099 ≤ bl (p / q) := by
  by_cases hc : 2099 ≤ bl (p / q)
  ·exact hc
  ·have h3 := lt_two_bl (p / q)
   have h4 : 2 ^ bl (p / q) ≤ 2 ^ 2098 := Nat.pow_le_pow_right (by omega) (by omega)
   omega
 obtain ⟨b, hb⟩ : ∃ b, bl (p / q) - 53 = b := ⟨_, rfl⟩
 rw [hb]
 have h5 : P52 ≤ rne p (q * 2 ^ b) := by
  have h6 : P52 ≤ p / (q * 2 ^ b) := by
   rw [← Nat.div_div_eq_div_mul]
   rw [Nat.le_div_iff_mul_le (Nat.two_pow_pos b)]
   have h7 := two_bl_le (n := p / q) (by have := Nat.two_pow_pos 2098; omega)
   have h8 : P52 * 2 ^ b = 2 ^ (bl (p / q) - 1) := by rw [show P52 = 2 ^ 52 from rfl, ← Nat.pow_add]; congr 1; omega
   rw [h8]; exact h7
  unfold rne; split <;> omega
 exact Nat.min_eq_right (by unfold P52 INF at *; omega)
theorem wordQ_tiny (p q : Nat) (h : 2 * p < q) : wordQ p q = 0 := by
 unfold wordQ
 rw [Nat.div_eq_of_lt (by omega)]
 have : bl 0 - 53 = 0 := by simp [bl]
 rw [this, Nat.pow_zero, Nat.mul_one, rne_small _ _ h]; simp
theorem i64_wrap {x : Int} (h0 : -9223372036854775808 ≤ x) (h1 : x ≤ 9223372036854775807) : IntKind.i64.wrap x = x := by
 rw [IntKind.wrap_i64]; omega
theorem exp_and (r : Nat) (h : r < P63) : Go.bits .and .i64 (wrap64 ((r : Int) / 4503599627370496)) 2047 = ((r / P52 : Nat) : Int) := by
 have e1 : (r : Int) / 4503599627370496 = ((r / P52 : Nat) : Int) := by unfold P52; omega
 have h1 : r / P52 < 2048 := by unfold P52 P63 at *; omega
 rw [e1, w64 (by omega) (by omega)]
 have e2 := (bits_nat .i64 63 (by decide) (fun n h0 h1 => i64_wrap (by omega) (by omega)) (r / P52) 2047 (by omega) (by omega)).1
 refine e2.trans ?_
 rw [show 2047 = 2 ^ 11 - 1 from rfl, Nat.and_two_pow_sub_one_eq_mod, Nat.mod_eq_of_lt h1]
theorem exp_and_u (r : Nat) (h : r < P63) : Go.bits .and .u64 ((r : Int) / 4503599627370496) 2047 = ((r / P52 : Nat) : Int) := by
 have e1 : (r : Int) / 4503599627370496 = ((r / P52 : Nat) : Int) := by unfold P52; omega
 have h1 : r / P52 < 2048 := by unfold P52 P63 at *; omega
 rw [e1]
 have e2 := u64_and (r / P52) 2047 (by omega) (by omega)
 refine e2.trans ?_
 rw [show 2047 = 2 ^ 11 - 1 from rfl, Nat.and_two_pow_sub_one_eq_mod, Nat.mod_eq_of_lt h1]
theorem lt_min (r : Nat) (h : r < INF) : (FloatKind.f64.format.order r 4503599627370496 == some .lt) = decide (r < P52) := by
 rw [order_pos r _ (by omega) (by decide)]
 simp only [compare, compareOfLessAndEq]
 by_cases h2 : r < 4503599627370496
 ·rw [if_pos h2, decide_eq_true h2]; rfl
 ·rw [if_neg h2, decide_eq_false (by exact h2)]
  by_cases h3 : r = 4503599627370496
  ·rw [if_pos h3]; rfl
  ·rw [if_neg h3]; rfl
theorem normalize_ok (r : Nat) (h0 : 0 < r) (h : r < INF) : ∃ r' : Nat, ∃ s : Nat, math_normalize.f r = some (r', -(s : Int)) ∧ P52 ≤ r' ∧ r' < INF ∧ fv r' = fv r * 2 ^ s ∧ (s = 0 ∧ r' = r ∨ s = 52) := by
 unfold math_normalize.f
 rw [abs_ok r (by unfold INF at h; omega), Nat.mod_eq_of_lt (show r < P63 by unfold P63 INF at *; omega), Option.bind_some, lt_min r h]
 by_cases h1 : r < P52
 ·rw [if_pos (by simpa using h1), mul_pos_bits r _ h (by decide), Option.bind_some]
  have e : fv 4841369599423283200 = 2 ^ 1126 := by decide
  rw [e, fv_sub h1]
  have e2 : wordQ (r * 2 ^ 1126) (2 ^ 1074) = wordQ (r * 2 ^ 52) 1 := wordQ_pow r 1126 1074 52 0 (by omega)
  rw [e2]
  obtain ⟨r', hr', hf, hw, _⟩ := word_exact r 52 (by omega) (by omega)
  rw [hw]
  refine ⟨r', 52, rfl, ?_, hr', hf, .inr rfl⟩
  by_cases hc : P52 ≤ r'
  ·exact hc
  ·have h3 := fv_sub (Nat.not_le.1 hc)
   rw [hf] at h3
   have : 1 * 2 ^ 52 ≤ r * 2 ^ 52 := Nat.mul_le_mul_right _ h0
   have e4 : P52 = 2 ^ 52 := rfl
   omega
 ·rw [if_neg (by simpa using h1)]
  exact ⟨r, 0, rfl, by omega, h, by simp, .inl ⟨rfl, rfl⟩⟩
theorem ldexp_ok (r : Nat) (h0 : P52 ≤ r) (h : r < INF) (x : Int) (hx0 : -1073741824 ≤ x) (hx1 : x ≤ 1073741824) :
  math_ldexp.f r x = some (wordQ (fv r * 2 ^ x.toNat) (2 ^ (-x).toNat)) := by
 have hr63 : r < P63 := by unfold P63 INF at *; omega
 unfold math_ldexp.f
 rw [order_zero r (by unfold P52 at *; omega) (by omega), if_neg (by simp), isinf0_fin r h, Option.bind_some, if_neg (by simp), isnan_fin r (by omega), Option.bind_some, if_neg (by simp)]
 have hn : math_normalize.f r = some (r, 0) := by
  unfold math_normalize.f
  rw [abs_ok r (by unfold INF at h; omega), Nat.mod_eq_of_lt hr63, Option.bind_some, lt_min r h, if_neg (by simpa using h0)]
 rw [hn, Option.bind_some]
 simp only
 rw [exp_and r hr63, andNot_exp r hr63]
 obtain ⟨E, hE⟩ : ∃ E, r / P52 = E + 1 := ⟨r / P52 - 1, by unfold P52 at *; omega⟩
 obtain ⟨M, hM⟩ : ∃ M, r % P52 = M := ⟨_, rfl⟩
 have hMlt : M < P52 := by rw [← hM]; exact Nat.mod_lt _ (by decide)
 have hE1 : E ≤ 2045 := by unfold P52 INF at *; omega
 have hfv : fv r = (P52 + M) * 2 ^ E := by rw [fv_norm h0, hE, hM, Nat.add_sub_cancel]
 rw [hE, hM, hfv]
 have ex : wrap64 (wrap64 (x + 0) + wrap64 (((E + 1 : Nat) : Int) - 1023)) = x + E - 1022 := by
  rw [w64 (x := x + 0) (by omega) (by omega), w64 (x := ((E + 1 : Nat) : Int) - 1023) (by omega) (by omega), w64 (by omega) (by omega)]; omega
 rw [ex]
 have hval : wordQ ((P52 + M) * 2 ^ E * 2 ^ x.toNat) (2 ^ (-x).toNat) = wordQ ((P52 + M) * 2 ^ (E + x.toNat)) (2 ^ (-x).toNat) := by
  rw [Nat.mul_assoc, ← Nat.pow_add]
 rw [hval]
 have h53 : P52 + M < 2 ^ 53 := by unfold P52 at *; omega
 by_cases c1 : x + E - 1022 < -1075
 ·rw [if_pos c1]
  have ec : math_Copysign.f 0 r = some 0 := by
   unfold math_Copysign.f
   rw [andNot_sign' 0 (by omega)]
   have h7 : Go.bits .and .u64 (r : Int) 9223372036854775808 = ((r &&& 9223372036854775808 : Nat) : Int) := u64_and r 9223372036854775808 (by unfold INF at h; omega) (by omega)
   have e5 : r &&& 9223372036854775808 = 0 := and_63 r hr63
   rw [h7, e5]
   rfl
  rw [ec, Option.bind_some]
  refine congrArg some (wordQ_tiny _ _ ?_).symm
  obtain ⟨d, hd⟩ : ∃ d, (-x).toNat = E + x.toNat + 54 + d := ⟨(-x).toNat - (E + x.toNat + 54), by omega⟩
  rw [hd]
  have h3 : (P52 + M) * 2 ^ (E + x.toNat) < 2 ^ 53 * 2 ^ (E + x.toNat) := Nat.mul_lt_mul_of_pos_right h53 (Nat.two_pow_pos _)
  have h4 : 2 ^ (E + x.toNat + 54) ≤ 2 ^ (E + x.toNat + 54 + d) := Nat.pow_le_pow_right (by omega) (by omega)
  have h5 : 2 ^ (E + x.toNat + 54) = 2 * (2 ^ 53 * 2 ^ (E + x.toNat)) := by
   rw [show E + x.toNat + 54 = 1 + (53 + (E + x.toNat)) by omega, Nat.pow_add 2 1, Nat.pow_add 2 53]
  omega
 ·rw [if_neg c1]
  by_cases c2 : x + E - 1022 > 1023
  ·rw [if_pos c2]
   have e6 : (FloatKind.f64.format.order r 0 == some .lt) = false := by
    rw [order_pos r 0 (by omega) (by decide)]
    simp only [compare, compareOfLessAndEq]
    rw [if_neg (by omega)]
    split <;> rfl
   rw [e6, if_neg (by simp)]
   have e7 : math_Inf.f 1 = some INF := rfl
   rw [e7, Option.bind_some]
   refine congrArg some (wordQ_big _ _ (Nat.two_pow_pos _) ?_).symm
   have h1 : (-x).toNat = 0 ∨ x.toNat = 0 := by omega
   have h3 : 2 ^ 52 * 2 ^ (E + x.toNat) ≤ (P52 + M) * 2 ^ (E + x.toNat) := Nat.mul_le_mul_right _ (by show P52 ≤ _; omega)
   rw [← Nat.pow_add] at h3 ⊢
   refine Nat.le_trans (Nat.pow_le_pow_right (by omega) (by omega)) h3
  ·rw [if_neg c2]
   by_cases c3 : x + E - 1022 < -1022
   ·rw [if_pos c3]
    have e8 : IntKind.u64.wrap (IntKind.u64.wrap (wrap64 (wrap64 (x + ↑E - 1022 + 53) + 1023)) * 4503599627370496) = (((x + E + 54).toNat * P52 : Nat) : Int) := by
     rw [w64 (x := x + ↑E - 1022 + 53) (by omega) (by omega), w64 (by omega) (by omega), wu64 (x := x + ↑E - 1022 + 53 + 1023) (by omega) (by omega), wu64 (by omega) (by unfold P52 at *; omega)]
     unfold P52; omega
    rw [e8, or_exp M _ hMlt (by omega), Int.toNat_natCast]
    obtain ⟨F, hF⟩ : ∃ F, (x + E + 54).toNat = F + 1 := ⟨(x + E + 54).toNat - 1, by omega⟩
    rw [hF, mul_pos_bits _ _ (by decide) (by unfold P52 INF at *; omega), Option.bind_some, fv_mk F M hMlt]
    have e9 : fv 4368491638549381120 = 2 ^ 1021 := by decide
    rw [e9, Nat.mul_comm (2 ^ 1021), Nat.mul_assoc, ← Nat.pow_add]
    exact congrArg some (wordQ_pow _ _ _ _ _ (by omega))
   ·rw [if_neg c3]
    have e8 : IntKind.u64.wrap (IntKind.u64.wrap (wrap64 (x + ↑E - 1022 + 1023)) * 4503599627370496) = (((x + E + 1).toNat * P52 : Nat) : Int) := by
     rw [w64 (by omega) (by omega), wu64 (x := x + ↑E - 1022 + 1023) (by omega) (by omega), wu64 (by omega) (by unfold P52 at *; omega)]
     unfold P52; omega
    rw [e8, or_exp M _ hMlt (by omega), Int.toNat_natCast]
    obtain ⟨F, hF⟩ : ∃ F, (x + E + 1).toNat = F + 1 := ⟨(x + E + 1).toNat - 1, by omega⟩
    rw [hF, mul_pos_bits _ _ (by decide) (by unfold P52 INF at *; omega), Option.bind_some, fv_mk F M hMlt]
    have e9 : fv 4607182418800017408 = 2 ^ 1074 := by decide
    rw [e9, Nat.mul_comm (2 ^ 1074), Nat.mul_assoc, ← Nat.pow_add]
    exact congrArg some (wordQ_pow _ _ _ _ _ (by omega))
theorem ldexp_zero (x : Int) : math_ldexp.f 0 x = some 0 := by
 unfold math_ldexp.f
 rw [if_pos (by rfl)]
theorem ldexp_int (q : Nat) (hq : q ≤ 9007199254740992) (u : Nat) (hu : u ≤ 1073740000) : math_Ldexp.f (floatOfInt .f64 (q : Int)) ((u : Int) - 1074) = some (wordQ (q * 2 ^ u) 1) := by
 unfold math_Ldexp.f
 by_cases h0 : q = 0
 ·subst h0
  have e : floatOfInt .f64 ((0 : Nat) : Int) = 0 := by decide
  rw [e, ldexp_zero, Option.bind_some, Nat.zero_mul, wordQ_zero 1 (by omega)]
 ·rw [ofInt_word q h0]
  have hex : ∃ r, r < INF ∧ fv r = q * 2 ^ 1074 ∧ wordQ (q * 2 ^ 1074) 1 = r ∧ P52 ≤ r := by
   have key : ∀ r, fv r = q * 2 ^ 1074 → P52 ≤ r := by
    intro r hf
    by_cases hc : P52 ≤ r
    ·exact hc
    ·have h3 := fv_sub (Nat.not_le.1 hc)
     rw [hf] at h3
     have h4 : 1 * 2 ^ 1074 ≤ q * 2 ^ 1074 := Nat.mul_le_mul_right _ (by omega)
     have h5 : 2 ^ 52 ≤ 2 ^ 1074 := Nat.pow_le_pow_right (by omega) (by omega)
     have e4 : P52 = 2 ^ 52 := rfl
     omega
   by_cases h1 : q < 2 * P52
   ·obtain ⟨r, a, b, c, _⟩ := word_exact q 1074 h1 (by omega)
    exact ⟨r, a, b, c, key r b⟩
   ·have e : q = 2 ^ 53 := by unfold P52 at *; omega
    obtain ⟨r, a, b, c, _⟩ := word_exact 1 1127 (by decide) (by omega)
    have e2 : q * 2 ^ 1074 = 1 * 2 ^ 1127 := by rw [e]
    rw [← e2] at b c
    exact ⟨r, a, b, c, key r b⟩
  obtain ⟨r, hr, hf, hw, hp⟩ := hex
  rw [hw, ldexp_ok r hp hr _ (by omega) (by omega), Option.bind_some, hf, Nat.mul_assoc, ← Nat.pow_add]
  have := wordQ_pow q (1074 + ((u : Int) - 1074).toNat) (-((u : Int) - 1074)).toNat u 0 (by omega)
  rw [this]
end Go.Proofs.YtfmjdoofopamkaaGreatDoor.Plain
namespace Go.Proofs.YtfmjdoofopamkaaGreatDoor.Plain
open Go.RowKit Go.Proofs.YtfmjdoofopamkaaGreatDoorW.PrintWords Go.Proofs.YtfmjdoofopamkaaGreatDoorW.PrintLast Go.Proofs.YtfmjdoofopamkaaGreatDoorW.PrintMore Go.Proofs.YtfmjdoofopamkaaGreatDoor.W
set_option linter.unusedVariables false
set_option linter.unusedSimpArgs false
set_option exponentiation.threshold 3000
theorem toInt_ok (r M : Nat) (h : r < INF) (hM0 : M ≠ 0) (hM : M < 18446744073709551616) (hf : fv r = M * 2 ^ 1074) : floatToIntVal .f64 r .u64 = some (M : Int) := by
 obtain ⟨m, i, e1, e2⟩ := read_fin r (by unfold P63 INF at *; omega)
 rw [Nat.mod_eq_of_lt (show r < P63 by unfold P63 INF at *; omega), hf] at e2
 rw [show (r / P63 % 2 == 1) = false by rw [Nat.div_eq_of_lt (by unfold P63 INF at *; omega)]; rfl] at e1
 have hc : Ieee.Toward.zero.cut false (m <<< ((i : Nat) + (-1074 : Int)).toNat) (-((i : Nat) + (-1074 : Int))).toNat = M := by
  unfold Ieee.Toward.cut
  simp only [Bool.toNat_false, Nat.add_zero]
  rw [Nat.shiftLeft_eq, Nat.shiftLeft_eq, Nat.one_mul]
  rcases Nat.le_total 1074 i with hi | hi
  ·obtain ⟨d, rfl⟩ := Nat.exists_eq_add_of_le hi
   rw [show (-(((1074 + d : Nat) : Int) + (-1074 : Int))).toNat = 0 by omega, Nat.zero_min, Nat.pow_zero, Nat.div_one, show (((1074 + d : Nat) : Int) + (-1074 : Int)).toNat = d by omega]
   rw [Nat.pow_add, Nat.mul_comm (2 ^ 1074), ← Nat.mul_assoc] at e2
   exact (Nat.eq_of_mul_eq_mul_right (Nat.two_pow_pos 1074) e2).symm
  ·obtain ⟨d, hd⟩ := Nat.exists_eq_add_of_le hi
   rw [show (-((i : Int) + (-1074 : Int))).toNat = d by omega, show ((i : Int) + (-1074 : Int)).toNat = 0 by omega, Nat.pow_zero, Nat.mul_one]
   have e3 : m = M * 2 ^ d := by
    have e4 : M * 2 ^ 1074 = M * 2 ^ d * 2 ^ i := by rw [Nat.mul_assoc, ← Nat.pow_add]; congr 2; omega
    rw [e4] at e2
    exact (Nat.eq_of_mul_eq_mul_right (Nat.two_pow_pos i) e2).symm
   have hl : d ≤ m.log2 := by
    have h1 : bl m = bl M + d := by rw [e3, bl_mul_pow hM0]
    have h2 := bl_pos hM0
    have hm : m ≠ 0 := by rw [e3]; exact Nat.mul_ne_zero hM0 (Nat.ne_of_gt (Nat.two_pow_pos d))
    have h3 := bl_log2 hm
    omega
   rw [Nat.min_eq_left (by omega), e3, Nat.mul_div_cancel _ (Nat.two_pow_pos d)]
 have e5 : (FloatKind.f64.decode r).toInt .zero = some (M : Int) := by
  show (FloatKind.f64.format.read r).toInt .zero = _
  rw [e1]
  show some (Ieee.signed false (Ieee.Toward.zero.cut false (m <<< ((i : Nat) + (-1074 : Int)).toNat) (-((i : Nat) + (-1074 : Int))).toNat) 0) = _
  rw [hc]
  simp [Ieee.signed]
 unfold floatToIntVal
 rw [e5]
 simp only
 rw [if_pos ⟨by show (0 : Int) ≤ _; omega, by show (M : Int) ≤ 18446744073709551615; omega⟩]
theorem frexp_ok (r : Nat) (h0 : 0 < r) (h : r < INF) : ∃ M : Nat, ∃ e : Nat, M < P52 ∧ e ≤ 2097 ∧ Ev (fun k => math_Frexp.f k r) (1022 * P52 + M, (e : Int) - 1073) ∧ (P52 + M) * 2 ^ e = fv r * 2 ^ 52 := by
 obtain ⟨r', s, hn, h1, h2, hf, hs⟩ := normalize_ok r h0 h
 have hr63 : r' < P63 := by unfold P63 INF at *; omega
 obtain ⟨E, hE⟩ : ∃ E, r' / P52 = E + 1 := ⟨r' / P52 - 1, by unfold P52 at *; omega⟩
 obtain ⟨M, hM⟩ : ∃ M, r' % P52 = M := ⟨_, rfl⟩
 have hMlt : M < P52 := by rw [← hM]; exact Nat.mod_lt _ (by decide)
 have hE1 : E ≤ 2045 := by unfold P52 INF at *; omega
 have hfv : fv r' = (P52 + M) * 2 ^ E := by rw [fv_norm h1, hE, hM, Nat.add_sub_cancel]
 have hs2 : s ≤ 52 := by omega
 refine ⟨M, E + 52 - s, hMlt, by omega, ?_, ?_⟩
 ·refine Ev.bind (a := (1022 * P52 + M, ((E + 52 - s : Nat) : Int) - 1073)) ?_ (Ev.now _)
  unfold math_frexp.f
  rw [order_zero r h0 (by omega), isinf0_fin r h, isnan_fin r (by omega)]
  refine Ev.congr (f := fun k => math_frexp.j0 k r false) (fun k => by simp) ?_
  refine Ev.step (f := fun _ => some (1022 * P52 + M, ((E + 52 - s : Nat) : Int) - 1073)) (fun k => ?_) (Ev.now _)
  rw [math_frexp.j0, if_neg (by simp), hn, Option.bind_some]
  simp only
  rw [exp_and_u r' hr63, andNot_exp r' hr63, hE, hM]
  have e1 : Go.bits .or .u64 (M : Int) 4602678819172646912 = ((1022 * P52 + M : Nat) : Int) := or_exp M 1022 hMlt (by omega)
  rw [e1, Int.toNat_natCast]
  refine congrArg some (Prod.ext rfl ?_)
  show wrap64 (-(s : Int) + wrap64 (wrap64 (wrap64 ((E + 1 : Nat) : Int) - 1023) + 1)) = _
  rw [w64 (x := ((E + 1 : Nat) : Int)) (by omega) (by omega), w64 (x := ((E + 1 : Nat) : Int) - 1023) (by omega) (by omega), w64 (x := ((E + 1 : Nat) : Int) - 1023 + 1) (by omega) (by omega), w64 (by omega) (by omega)]
  omega
 ·rcases hs with ⟨rfl, rfl⟩ | rfl
  ·rw [hfv, show E + 52 - 0 = E + 52 by omega, Nat.pow_add, Nat.mul_assoc]
  ·rw [← hf, hfv, show E + 52 - 52 = E by omega]
theorem parts_ok (x : Nat) (hx : x < 18446744073709551616) (h0 : 0 < x % P63) (h : x % P63 < INF) : ∃ M : Nat, ∃ e : Nat, P52 ≤ M ∧ M < 2 * P52 ∧ e ≤ 2097 ∧ Ev (fun k => weigh_parts.f k x) ((M : Int), (e : Int) - 1126) ∧ M * 2 ^ e = fv (x % P63) * 2 ^ 52 := by
 obtain ⟨M, e, hM, he, hfr, hv⟩ := frexp_ok (x % P63) h0 h
 refine ⟨P52 + M, e, by omega, by omega, he, ?_, hv⟩
 unfold weigh_parts.f
 rw [abs_ok x hx]
 refine Ev.congr (f := fun k => (math_Frexp.f k (x % P63)).bind fun bt265 => ((math_Ldexp.f bt265.1 53).bind fun t267 => ((floatToIntVal .f64 t267 .u64).bind fun t268 => (some (t268, wrap64 (bt265.2 - 53)))))) (fun k => rfl) ?_
 refine Ev.bind hfr ?_
 simp only
 have e1 : math_Ldexp.f (1022 * P52 + M) 53 = some (wordQ ((P52 + M) * 2 ^ 1074) 1) := by
  unfold math_Ldexp.f
  rw [ldexp_ok (1022 * P52 + M) (by unfold P52; omega) (by unfold P52 INF at *; omega) 53 (by omega) (by omega), Option.bind_some, show 1022 * P52 + M = (1021 + 1) * P52 + M from rfl, fv_mk 1021 M hM, Nat.mul_assoc, ← Nat.pow_add]
  rfl
 obtain ⟨r, hr, hf, hw, _⟩ := word_exact (P52 + M) 1074 (by unfold P52 at *; omega) (by omega)
 rw [e1, Option.bind_some, hw, toInt_ok r (P52 + M) hr (by unfold P52; omega) (by unfold P52 at *; omega) hf, Option.bind_some]
 have e2 : wrap64 ((e : Int) - 1073 - 53) = (e : Int) - 1126 := by rw [w64 (by omega) (by omega)]; omega
 rw [e2]
 exact Ev.now _
theorem parts_zero (x : Nat) (hx : x < 18446744073709551616) (h0 : x % P63 = 0) : Ev (fun k => weigh_parts.f k x) (0, -53) := by
 unfold weigh_parts.f
 rw [abs_ok x hx, h0]
 refine Ev.congr (f := fun k => (math_Frexp.f k 0).bind fun bt265 => ((math_Ldexp.f bt265.1 53).bind fun t267 => ((floatToIntVal .f64 t267 .u64).bind fun t268 => (some (t268, wrap64 (bt265.2 - 53)))))) (fun k => rfl) ?_
 have hf : ∀ k, math_Frexp.f k 0 = some (0, 0) := fun k => by
  unfold math_Frexp.f math_frexp.f
  rw [if_pos (by rfl)]; rfl
 refine Ev.congr (f := fun k => some (0, -53)) (fun k => ?_) (Ev.now _)
 rw [hf k, Option.bind_some]
 simp only
 have e1 : math_Ldexp.f 0 53 = some 0 := by unfold math_Ldexp.f; rw [ldexp_zero]; rfl
 have e2 : floatToIntVal .f64 0 .u64 = some 0 := by decide
 rw [e1, Option.bind_some, e2, Option.bind_some, w64 (by omega) (by omega)]
 rfl
end Go.Proofs.YtfmjdoofopamkaaGreatDoor.Plain
