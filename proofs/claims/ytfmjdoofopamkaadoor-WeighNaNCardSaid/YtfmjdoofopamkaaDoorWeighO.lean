import Derived.Test.YtfmjdoofopamkaaDoorPlF
import Derived.Test.YtfmjdoofopamkaaDoorWeighTold
import Derived.Test.YtfmjdoofopamkaaDoorWx10
/-! WeighNaN, WeighOrders. -/
namespace Go.Proofs.YtfmjdoofopamkaaDoor.Plain
open Go.RowKit Go.Proofs.YtfmjdoofopamkaaDoorW.PrintWords Go.Proofs.YtfmjdoofopamkaaDoorW.PrintLast Go.Proofs.YtfmjdoofopamkaaDoorW.PrintMore Go.Proofs.YtfmjdoofopamkaaDoor.W
theorem or_nan (a : Nat) : 9218868437227405312 < (a ||| 9221120237041090560) % 9223372036854775808 := by
  have h1 : (a ||| 9221120237041090560) % 2 ^ 63 = a % 2 ^ 63 ||| 9221120237041090560 % 2 ^ 63 := Nat.or_mod_two_pow
  have h2 : 9221120237041090560 % 2 ^ 63 ≤ a % 2 ^ 63 ||| 9221120237041090560 % 2 ^ 63 := Nat.right_le_or
  rw [← h1] at h2
  omega
theorem narrow_nan (n : Nat) (hn : 9218868437227405312 < n % 9223372036854775808) : weigh_Narrow.f n = some 9221120237041090560 := by unfold weigh_Narrow.f; rw [if_pos (isnan_true hn)]; rfl
theorem nan_tail : ((endonymlaw2_told.f 100).bind fun t469 => (if t469 = true then ((api_Bits.f 9221120237041090560).bind fun t470 => (some (t470 == 9221120237041090560))) else (some false))) = some true := by rw [told_at]; rfl
theorem WeighNaN_ok (a : Nat) (ha : a < 18446744073709551616) : ∃ k, endonymlaw2_WeighNaN.f k (a : Int) = some true := by
  refine ⟨100, ?_⟩
  have e : Go.bits .or .u64 (a : Int) 9221120237041090560 = ((a ||| 9221120237041090560 : Nat) : Int) := u64_or a 9221120237041090560 (by omega) (by omega)
  unfold endonymlaw2_WeighNaN.f
  rw [e, show api_Float.f ((a ||| 9221120237041090560 : Nat) : Int) = some (a ||| 9221120237041090560) from rfl, Option.bind_some, narrow_nan _ (or_nan a), Option.bind_some]
  exact nan_tail
/-- rank's answer -/
def rankS (a : Nat) : Int := if 9218868437227405312 < a % 9223372036854775808 then 9223372036854775807 else if a < 9223372036854775808 then a else 9223372036854775807 - (a : Int)
theorem rank_nan (a : Nat) (h : 9218868437227405312 < a % 9223372036854775808) : weigh_rank.f a = some 9223372036854775807 := by
  unfold weigh_rank.f; rw [if_pos (isnan_true h)]
theorem not_nan (a : Nat) (h : a % 9223372036854775808 ≤ 9218868437227405312) : ¬ (FloatKind.f64.format.order a a != some .eq) = true := by rw [isnan_false h]; exact Bool.false_ne_true
theorem rank_fin (a : Nat) (h : a % 9223372036854775808 ≤ 9218868437227405312) : weigh_rank.f a = if (wrap64 (a : Int)) < 0 then (some (wrap64 ((wrap64 ((-9223372036854775808) - (wrap64 (a : Int)))) - 1))) else (some (wrap64 (a : Int))) := by
  unfold weigh_rank.f; rw [if_neg (not_nan a h), show api_Bits.f a = some (a : Int) from rfl, Option.bind_some]
theorem wrap_high (x : Int) (h : 9223372036854775808 ≤ x) (h2 : x < 18446744073709551616) : wrap64 x = x - 18446744073709551616 := by unfold wrap64; omega
theorem rank_ok (a : Nat) (ha : a < 18446744073709551616) : weigh_rank.f a = some (rankS a) := by
  unfold rankS
  by_cases h : 9218868437227405312 < a % 9223372036854775808
  · rw [if_pos h]; exact rank_nan a h
  · rw [if_neg h, rank_fin a (Nat.not_lt.1 h)]
    by_cases h2 : a < 9223372036854775808
    · rw [w64 (by omega) (by omega), if_neg (by omega), if_pos h2]
    · have e := wrap_high (a : Int) (by omega) (by omega)
      rw [e, if_pos (by omega), if_neg h2]
      have e2 : wrap64 ((-9223372036854775808) - ((a : Int) - 18446744073709551616)) = 9223372036854775808 - (a : Int) := by rw [w64 (by omega) (by omega)]; omega
      rw [e2, w64 (by omega) (by omega), show 9223372036854775808 - (a : Int) - 1 = 9223372036854775807 - (a : Int) by omega]
def placeS (a : Nat) : Int × Int := if 9218868437227405312 < a % 9223372036854775808 then (2, 0) else if a < 9223372036854775808 then (1, (a : Int)) else (0, 18446744073709551615 - (a : Int))
theorem andNot_sign (a : Nat) (ha : a < 18446744073709551616) : Go.bits .andNot .u64 (a : Int) 9223372036854775808 = ((a % 9223372036854775808 : Nat) : Int) := by
  unfold Go.bits
  have e1 : BitVec.ofInt IntKind.u64.bits (a : Int) = BitVec.ofNat 64 a := BitVec.ofInt_natCast 64 a
  have e2 : BitVec.ofInt IntKind.u64.bits (9223372036854775808 : Int) = BitVec.ofNat 64 9223372036854775808 := BitVec.ofInt_natCast 64 9223372036854775808
  show IntKind.u64.wrap ((BitVec.ofInt IntKind.u64.bits (a : Int) &&& ~~~ BitVec.ofInt IntKind.u64.bits (9223372036854775808 : Int)).toNat : Int) = _
  rw [e1, e2]
  have e3 : (BitVec.ofNat 64 a &&& ~~~ BitVec.ofNat 64 9223372036854775808).toNat = a % 9223372036854775808 := by
    rw [BitVec.toNat_and, show (~~~ BitVec.ofNat 64 9223372036854775808).toNat = 2 ^ 63 - 1 by decide, BitVec.toNat_ofNat, Nat.mod_eq_of_lt (by omega), Nat.and_two_pow_sub_one_eq_mod]
  show IntKind.u64.wrap (((BitVec.ofNat 64 a &&& ~~~ BitVec.ofNat 64 9223372036854775808).toNat : Nat) : Int) = _
  rw [e3, wu64 (by omega) (by omega)]
theorem rank_place (a b : Nat) (ha : a < 18446744073709551616) (hb : b < 18446744073709551616) : rankS a < rankS b ↔ (placeS a).1 < (placeS b).1 ∨ ((placeS a).1 = (placeS b).1 ∧ (placeS a).2 < (placeS b).2) := by
  unfold rankS placeS
  by_cases h1 : 9218868437227405312 < a % 9223372036854775808 <;> by_cases h2 : 9218868437227405312 < b % 9223372036854775808 <;> by_cases h3 : a < 9223372036854775808 <;> by_cases h4 : b < 9223372036854775808 <;>
    simp only [h1, h2, h3, h4, if_true, if_false] <;> first | omega | (simp; done) | (simp; omega)
theorem place_ok (a : Nat) (ha : a < 18446744073709551616) : endonymref2_place.f (a : Int) = some (placeS a) := by
  unfold endonymref2_place.f placeS
  rw [andNot_sign a ha]
  by_cases h : 9218868437227405312 < a % 9223372036854775808
  · rw [if_pos (by omega), if_pos h]
  · rw [if_neg (by omega), if_neg h]
    by_cases h2 : a < 9223372036854775808
    · rw [if_neg (by omega), if_pos h2]
    · rw [if_pos (by omega), if_neg h2, wu64 (by omega) (by omega)]
theorem WeighOrders_ok (a b : Nat) (ha : a < 18446744073709551616) (hb : b < 18446744073709551616) : ∃ k, endonymlaw2_WeighOrders.f k (a : Int) (b : Int) = some true := by
  refine ⟨100, ?_⟩
  unfold endonymlaw2_WeighOrders.f
  rw [told_at, Option.bind_some, if_pos rfl, show api_Float.f (a : Int) = some a from rfl, show api_Float.f (b : Int) = some b from rfl, Option.bind_some, Option.bind_some]
  unfold weigh_Order.f endonymref2_Order.f
  rw [rank_ok a ha, rank_ok b hb, place_ok a ha, place_ok b hb]
  simp only [Option.bind_some]
  have h1 := rank_place a b ha hb
  have h2 := rank_place b a hb ha
  generalize rankS a = r at *
  generalize rankS b = s at *
  generalize placeS a = p at *
  generalize placeS b = q at *
  obtain ⟨p1, p2⟩ := p
  obtain ⟨q1, q2⟩ := q
  simp only at h1 h2 ⊢
  by_cases c1 : r < s
  · rw [if_pos c1]
    rcases h1.1 c1 with h | ⟨h, h'⟩
    · rw [if_neg (by omega), if_pos h]; rfl
    · rw [if_pos h, if_pos h']; rfl
  · rw [if_neg c1]
    by_cases c2 : r > s
    · rw [if_pos c2]
      rcases h2.1 c2 with h | ⟨h, h'⟩
      · rw [if_neg (by omega), if_neg (by omega)]; rfl
      · rw [if_pos h.symm, if_neg (by omega), if_pos h']; rfl
    · rw [if_neg c2]
      have h3 : ¬ (p1 < q1 ∨ p1 = q1 ∧ p2 < q2) := fun h => c1 (h1.2 h)
      have h4 : ¬ (q1 < p1 ∨ q1 = p1 ∧ q2 < p2) := fun h => c2 (h2.2 h)
      rw [if_pos (by omega), if_neg (by omega), if_neg (by omega)]; rfl
end Go.Proofs.YtfmjdoofopamkaaDoor.Plain
