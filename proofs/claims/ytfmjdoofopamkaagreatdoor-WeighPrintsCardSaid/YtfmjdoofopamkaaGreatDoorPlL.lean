import Derived.Test.YtfmjdoofopamkaaGreatDoorPlN
import Derived.Test.YtfmjdoofopamkaaGreatDoorMathX
import Derived.Test.YtfmjdoofopamkaaGreatDoorWx17
namespace Go.Proofs.YtfmjdoofopamkaaGreatDoor.Plain
open Go.RowKit Go.Proofs.YtfmjdoofopamkaaGreatDoorW.PrintWords Go.Proofs.YtfmjdoofopamkaaGreatDoorW.PrintLast Go.Proofs.YtfmjdoofopamkaaGreatDoorW.PrintMore
set_option linter.unusedVariables false
set_option linter.unusedSimpArgs false
set_option exponentiation.threshold 3000
def rsv (S : Int) (D : Nat) : Int := if S < 0 then -(fv (wordQ S.natAbs D) : Int) else (fv (wordQ S.natAbs D) : Int)
theorem rsv_mono (S T : Int) (D : Nat) (hD : 0 < D) (h : S ≤ T) : rsv S D ≤ rsv T D := by
 unfold rsv
 by_cases h1 : S < 0
 ·rw [if_pos h1]
  by_cases h2 : T < 0
  ·rw [if_pos h2]
   have : fv (wordQ T.natAbs D) ≤ fv (wordQ S.natAbs D) := fv_le (wordQ_mono _ _ _ _ hD hD (Nat.mul_le_mul_right _ (by omega)))
   omega
  ·rw [if_neg h2]; omega
 ·rw [if_neg h1, if_neg (by omega)]
  have : fv (wordQ S.natAbs D) ≤ fv (wordQ T.natAbs D) := fv_le (wordQ_mono _ _ _ _ hD hD (Nat.mul_le_mul_right _ (by omega)))
  omega
theorem wordQ_below (p q h : Nat) (hq : 0 < q) (hh : h < INF) (hp : p ≤ fv h * q) : wordQ p q ≤ h := by
 have := wordQ_mono p q (fv h) 1 hq (by omega) (by omega)
 rwa [wordQ_fv h hh] at this
theorem wordQ_above (p q h : Nat) (hq : 0 < q) (hh : h < INF) (hp : fv h * q ≤ p) : h ≤ wordQ p q := by
 have := wordQ_mono (fv h) 1 p q (by omega) hq (by omega)
 rwa [wordQ_fv h hh] at this
theorem write_num (neg : Bool) (mag : Nat) (place : Int) : FloatKind.f64.format.nearest neg mag place < 18446744073709551616 ∧
  FloatKind.f64.format.nearest neg mag place % P63 = wordQ (mag * 2 ^ (place + 1074).toNat) (2 ^ (-(place + 1074)).toNat) ∧
  sv (FloatKind.f64.format.nearest neg mag place) = if neg then -(fv (wordQ (mag * 2 ^ (place + 1074).toNat) (2 ^ (-(place + 1074)).toNat)) : Int) else (fv (wordQ (mag * 2 ^ (place + 1074).toNat) (2 ^ (-(place + 1074)).toNat)) : Int) := by
 obtain ⟨w, hw⟩ : ∃ w, wordQ (mag * 2 ^ (place + 1074).toNat) (2 ^ (-(place + 1074)).toNat) = w := ⟨_, rfl⟩
 have hwle : w ≤ INF := by rw [← hw]; exact wordQ_le _ _
 have e : FloatKind.f64.format.nearest neg mag place = (if neg then P63 else 0) + w := by
  by_cases h0 : mag = 0
  ·subst h0
   have hz : w = 0 := by rw [← hw, Nat.zero_mul]; exact wordQ_zero _ (Nat.two_pow_pos _)
   rw [hz]
   unfold Ieee.Format.nearest
   rw [if_pos rfl]
   cases neg <;> rfl
  ·rw [nearest_word neg mag place h0, hw]
 rw [e, hw]
 have h1 : ((if neg = true then P63 else 0) + w) % P63 = w := by cases neg <;> simp <;> (unfold P63 INF at *; omega)
 have h2 : ((if neg = true then P63 else 0) + w) / P63 % 2 = if neg then 1 else 0 := by cases neg <;> simp <;> (unfold P63 INF at *; omega)
 refine ⟨by cases neg <;> simp <;> (unfold P63 INF at *; omega), h1, ?_⟩
 unfold sv
 rw [h1, h2]
 cases neg <;> rfl
def Res (o : Option Nat) (S : Int) (D : Nat) : Prop := ∃ r, o = some r ∧ r < 18446744073709551616 ∧ r % P63 = wordQ S.natAbs D ∧ sv r = rsv S D
theorem sum_num (s t : Bool) (m n i j : Nat) : ∃ neg : Bool, ∃ mag b : Nat, Ieee.Datum.sum (.number s m ((i : Nat) + (-1074 : Int))) (.number t n ((j : Nat) + (-1074 : Int))) = some (.number neg mag ((b : Nat) + (-1074 : Int))) ∧
  mag * 2 ^ b = ((if s then -((m * 2 ^ i : Nat) : Int) else ((m * 2 ^ i : Nat) : Int)) + (if t then -((n * 2 ^ j : Nat) : Int) else ((n * 2 ^ j : Nat) : Int))).natAbs ∧
  (mag ≠ 0 → (neg = true ↔ ((if s then -((m * 2 ^ i : Nat) : Int) else ((m * 2 ^ i : Nat) : Int)) + (if t then -((n * 2 ^ j : Nat) : Int) else ((n * 2 ^ j : Nat) : Int))) < 0)) := by
 obtain ⟨b, hb⟩ : ∃ b, min i j = b := ⟨_, rfl⟩
 have hbase : min ((i : Nat) + (-1074 : Int)) ((j : Nat) + (-1074 : Int)) = (b : Nat) + (-1074 : Int) := by omega
 have e1 : (((i : Nat) + (-1074 : Int)) - ((b : Nat) + (-1074 : Int))).toNat = i - b := by omega
 have e2 : (((j : Nat) + (-1074 : Int)) - ((b : Nat) + (-1074 : Int))).toNat = j - b := by omega
 unfold Ieee.Datum.sum
 simp only [hbase, e1, e2]
 obtain ⟨T, hT⟩ : ∃ T, Ieee.signed s m (i - b) + Ieee.signed t n (j - b) = T := ⟨_, rfl⟩
 rw [hT]
 have e3 : m * 2 ^ i = m * 2 ^ (i - b) * 2 ^ b := by rw [Nat.mul_assoc, ← Nat.pow_add]; congr 2; omega
 have e4 : n * 2 ^ j = n * 2 ^ (j - b) * 2 ^ b := by rw [Nat.mul_assoc, ← Nat.pow_add]; congr 2; omega
 have hS : ((if s then -((m * 2 ^ i : Nat) : Int) else ((m * 2 ^ i : Nat) : Int)) + (if t then -((n * 2 ^ j : Nat) : Int) else ((n * 2 ^ j : Nat) : Int))) = T * ((2 ^ b : Nat) : Int) := by
  rw [e3, e4, ← hT]
  unfold Ieee.signed
  simp only [Nat.shiftLeft_eq]
  generalize m * 2 ^ (i - b) = M
  generalize n * 2 ^ (j - b) = N
  generalize 2 ^ b = B
  rw [Int.add_mul]
  cases s <;> cases t <;> simp only [if_true, if_false, Bool.false_eq_true, Int.natCast_mul, Int.neg_mul]
 refine ⟨_, _, b, rfl, ?_, ?_⟩
 ·rw [hS, Int.natAbs_mul, Int.natAbs_natCast]
 ·intro hm
  rw [hS]
  have hB : (0 : Int) < ((2 ^ b : Nat) : Int) := by have := Nat.two_pow_pos b; omega
  have hT0 : T ≠ 0 := by intro h; exact hm (by rw [h]; rfl)
  rw [if_neg hT0, decide_eq_true_eq]
  constructor
  ·intro h
   have := Int.mul_lt_mul_of_pos_right h hB
   rwa [Int.zero_mul] at this
  ·intro h
   exact Int.lt_of_mul_lt_mul_right (by rwa [Int.zero_mul]) (Int.le_of_lt hB)
theorem Res.of_num {neg : Bool} {mag b : Nat} {S : Int} (h1 : mag * 2 ^ b = S.natAbs) (h2 : mag ≠ 0 → (neg = true ↔ S < 0)) : Res (some (FloatKind.f64.format.nearest neg mag ((b : Nat) + (-1074 : Int)))) S 1 := by
 obtain ⟨a1, a2, a3⟩ := write_num neg mag ((b : Nat) + (-1074 : Int))
 rw [show (((b : Nat) + (-1074 : Int)) + 1074).toNat = b by omega, show (-(((b : Nat) + (-1074 : Int)) + 1074)).toNat = 0 by omega, Nat.pow_zero, h1] at a2 a3
 refine ⟨_, rfl, a1, a2, ?_⟩
 rw [a3]
 unfold rsv
 by_cases h0 : mag = 0
 ·have hS : S = 0 := by rw [h0, Nat.zero_mul] at h1; omega
  rw [hS]
  have e : fv (wordQ (0 : Int).natAbs 1) = 0 := by rw [show (0 : Int).natAbs = 0 from rfl, wordQ_zero 1 (by omega), fv_zero]
  rw [e]; cases neg <;> rfl
 ·cases neg with
  | true => rw [if_pos rfl, if_pos ((h2 h0).1 rfl)]
  | false => rw [if_neg (by simp), if_neg (fun h => by have := (h2 h0).2 h; simp at this)]
theorem sv_read (x m i : Nat) (e2 : fv (x % P63) = m * 2 ^ i) : sv x = if (x / P63 % 2 == 1) = true then -((m * 2 ^ i : Nat) : Int) else ((m * 2 ^ i : Nat) : Int) := by
 unfold sv; rw [e2]
theorem add_res (x y : Nat) (hx : x % P63 < INF) (hy : y % P63 < INF) : Res (floatBits .add .f64 x y) (sv x + sv y) 1 := by
 obtain ⟨m, i, e1, e2⟩ := read_fin x hx
 obtain ⟨n, j, e3, e4⟩ := read_fin y hy
 obtain ⟨neg, mag, b, h1, h2, h3⟩ := sum_num (x / P63 % 2 == 1) (y / P63 % 2 == 1) m n i j
 have e : floatBits .add .f64 x y = some (FloatKind.f64.format.nearest neg mag ((b : Nat) + (-1074 : Int))) := by
  show FloatKind.f64.format.add x y = _
  unfold Ieee.Format.add
  rw [e1, e3, h1]; rfl
 rw [← sv_read x m i e2, ← sv_read y n j e4] at h2 h3
 rw [e]
 exact Res.of_num h2 h3
theorem sub_res (x y : Nat) (hx : x % P63 < INF) (hy : y % P63 < INF) : Res (floatBits .sub .f64 x y) (sv x - sv y) 1 := by
 obtain ⟨m, i, e1, e2⟩ := read_fin x hx
 obtain ⟨n, j, e3, e4⟩ := read_fin y hy
 obtain ⟨neg, mag, b, h1, h2, h3⟩ := sum_num (x / P63 % 2 == 1) (!(y / P63 % 2 == 1)) m n i j
 have e : floatBits .sub .f64 x y = some (FloatKind.f64.format.nearest neg mag ((b : Nat) + (-1074 : Int))) := by
  show FloatKind.f64.format.sub x y = _
  unfold Ieee.Format.sub
  rw [e1, e3]
  show (Ieee.Datum.sum _ (.number (!(y / P63 % 2 == 1)) n _)).map _ = _
  rw [h1]; rfl
 have e5 : (if (!(y / P63 % 2 == 1)) = true then -((n * 2 ^ j : Nat) : Int) else ((n * 2 ^ j : Nat) : Int)) = -(sv y) := by
  rw [sv_read y n j e4]
  cases (y / P63 % 2 == 1) <;> simp
 rw [← sv_read x m i e2, e5, ← Int.sub_eq_add_neg] at h2 h3
 rw [e]
 exact Res.of_num h2 h3
theorem mul_res (x y : Nat) (hx : x % P63 < INF) (hy : y % P63 < INF) : Res (floatBits .mul .f64 x y) (sv x * sv y) (2 ^ 1074) := by
 obtain ⟨m, i, e1, e2⟩ := read_fin x hx
 obtain ⟨n, j, e3, e4⟩ := read_fin y hy
 have e : floatBits .mul .f64 x y = some (FloatKind.f64.format.nearest ((x / P63 % 2 == 1) ^^ (y / P63 % 2 == 1)) (m * n) (((i : Nat) + (-1074 : Int)) + ((j : Nat) + (-1074 : Int)))) := by
  show FloatKind.f64.format.mul x y = _
  unfold Ieee.Format.mul
  rw [e1, e3]; rfl
 obtain ⟨a1, a2, a3⟩ := write_num ((x / P63 % 2 == 1) ^^ (y / P63 % 2 == 1)) (m * n) (((i : Nat) + (-1074 : Int)) + ((j : Nat) + (-1074 : Int)))
 have hS : (sv x * sv y).natAbs = m * n * 2 ^ (i + j) := by
  rw [sv_read x m i e2, sv_read y n j e4, Int.natAbs_mul]
  have k1 : ∀ (b : Bool) (z : Nat), (if b = true then -(z : Int) else (z : Int)).natAbs = z := by intro b z; cases b <;> simp
  rw [k1, k1, Nat.pow_add]
  simp only [Nat.mul_assoc, Nat.mul_left_comm]
 have hw : wordQ (m * n * 2 ^ (((i : Nat) + (-1074 : Int)) + ((j : Nat) + (-1074 : Int)) + 1074).toNat) (2 ^ (-(((i : Nat) + (-1074 : Int)) + ((j : Nat) + (-1074 : Int)) + 1074)).toNat) = wordQ (sv x * sv y).natAbs (2 ^ 1074) := by
  rw [hS]; exact wordQ_pow _ _ _ _ _ (by omega)
 rw [hw] at a2 a3
 rw [e]
 refine ⟨_, rfl, a1, a2, ?_⟩
 rw [a3]
 unfold rsv
 by_cases h0 : sv x * sv y = 0
 ·rw [h0]
  have e : fv (wordQ (0 : Int).natAbs (2 ^ 1074)) = 0 := by rw [show (0 : Int).natAbs = 0 from rfl, wordQ_zero _ (Nat.two_pow_pos _), fv_zero]
  rw [e]; cases ((x / P63 % 2 == 1) ^^ (y / P63 % 2 == 1)) <;> rfl
 ·have hsign : (((x / P63 % 2 == 1) ^^ (y / P63 % 2 == 1)) = true ↔ sv x * sv y < 0) := by
   have hx0 : m * 2 ^ i ≠ 0 := by intro h; apply h0; rw [sv_read x m i e2, h]; cases (x / P63 % 2 == 1) <;> simp
   have hy0 : n * 2 ^ j ≠ 0 := by intro h; apply h0; rw [sv_read y n j e4, h]; cases (y / P63 % 2 == 1) <;> simp
   rw [sv_read x m i e2, sv_read y n j e4]
   obtain ⟨X, hX⟩ : ∃ X, m * 2 ^ i = X := ⟨_, rfl⟩
   obtain ⟨Y, hY⟩ : ∃ Y, n * 2 ^ j = Y := ⟨_, rfl⟩
   rw [hX] at hx0 ⊢
   rw [hY] at hy0 ⊢
   have hp : (0 : Int) < (X : Int) * (Y : Int) := Int.mul_pos (by omega) (by omega)
   have k1 : -(X : Int) * (Y : Int) = -((X : Int) * (Y : Int)) := Int.neg_mul _ _
   have k2 : (X : Int) * -(Y : Int) = -((X : Int) * (Y : Int)) := Int.mul_neg _ _
   have k3 : -(X : Int) * -(Y : Int) = (X : Int) * (Y : Int) := Int.neg_mul_neg _ _
   cases (x / P63 % 2 == 1) <;> cases (y / P63 % 2 == 1) <;> simp only [if_true, if_false, Bool.false_eq_true, k1, k2, k3]
   ·exact ⟨fun h => absurd h (by decide), fun h => by omega⟩
   ·exact ⟨fun _ => by omega, fun _ => rfl⟩
   ·exact ⟨fun _ => by omega, fun _ => rfl⟩
   ·exact ⟨fun h => absurd h (by decide), fun h => by omega⟩
  cases hb : ((x / P63 % 2 == 1) ^^ (y / P63 % 2 == 1)) with
  | true => rw [if_pos rfl, if_pos (hsign.1 hb)]
  | false => rw [if_neg (by simp), if_neg (fun h => by have := hsign.2 h; rw [hb] at this; simp at this)]
def Ab (x h : Nat) : Prop := x < 18446744073709551616 ∧ x % P63 ≤ h
theorem Ab.fin {x h : Nat} (a : Ab x h) (hh : h < INF) : x % P63 < INF := Nat.lt_of_le_of_lt a.2 hh
theorem sv_abs (x : Nat) : (sv x).natAbs = fv (x % P63) := by unfold sv; cases (x / P63 % 2 == 1) <;> simp
theorem Ab.sv {x h : Nat} (a : Ab x h) : (sv x).natAbs ≤ fv h := by rw [sv_abs]; exact fv_le a.2
theorem add_ab {x y h : Nat} (hx : x % P63 < INF) (hy : y % P63 < INF) (hh : h < INF) (hS : (sv x + sv y).natAbs ≤ fv h) : ∃ r, floatBits .add .f64 x y = some r ∧ Ab r h ∧ sv r = rsv (sv x + sv y) 1 := by
 obtain ⟨r, h1, h2, h3, h4⟩ := add_res x y hx hy
 exact ⟨r, h1, ⟨h2, by rw [h3]; exact wordQ_below _ _ _ (by omega) hh (by omega)⟩, h4⟩
theorem sub_ab {x y h : Nat} (hx : x % P63 < INF) (hy : y % P63 < INF) (hh : h < INF) (hS : (sv x - sv y).natAbs ≤ fv h) : ∃ r, floatBits .sub .f64 x y = some r ∧ Ab r h ∧ sv r = rsv (sv x - sv y) 1 := by
 obtain ⟨r, h1, h2, h3, h4⟩ := sub_res x y hx hy
 exact ⟨r, h1, ⟨h2, by rw [h3]; exact wordQ_below _ _ _ (by omega) hh (by omega)⟩, h4⟩
theorem mul_ab {x y a b h : Nat} (hx : Ab x a) (hy : Ab y b) (ha : a < INF) (hb : b < INF) (hh : h < INF) (hm : fv a * fv b ≤ fv h * 2 ^ 1074) : ∃ r, floatBits .mul .f64 x y = some r ∧ Ab r h ∧ sv r = rsv (sv x * sv y) (2 ^ 1074) := by
 obtain ⟨r, h1, h2, h3, h4⟩ := mul_res x y (hx.fin ha) (hy.fin hb)
 refine ⟨r, h1, ⟨h2, ?_⟩, h4⟩
 rw [h3]
 refine wordQ_below _ _ _ (Nat.two_pow_pos _) hh (Nat.le_trans ?_ hm)
 rw [Int.natAbs_mul]
 exact Nat.mul_le_mul hx.sv hy.sv
theorem add_ab2 {x y a b h : Nat} (hx : Ab x a) (hy : Ab y b) (ha : a < INF) (hb : b < INF) (hh : h < INF) (hm : fv a + fv b ≤ fv h) : ∃ r, floatBits .add .f64 x y = some r ∧ Ab r h ∧ sv r = rsv (sv x + sv y) 1 :=
 add_ab (hx.fin ha) (hy.fin hb) hh (by have h1 := hx.sv; have h2 := hy.sv; omega)
theorem sub_ab2 {x y a b h : Nat} (hx : Ab x a) (hy : Ab y b) (ha : a < INF) (hb : b < INF) (hh : h < INF) (hm : fv a + fv b ≤ fv h) : ∃ r, floatBits .sub .f64 x y = some r ∧ Ab r h ∧ sv r = rsv (sv x - sv y) 1 :=
 sub_ab (hx.fin ha) (hy.fin hb) hh (by have h1 := hx.sv; have h2 := hy.sv; omega)
theorem quo_ab {x y h : Nat} (hx : x % P63 < INF) (hy : y < P63) (hy2 : y < INF) (hy0 : 0 < y) (hh : h < INF) (hm : 3 * fv (x % P63) * 2 ^ 1074 ≤ 2 * (fv h * fv y)) : ∃ r, floatBits .quo .f64 x y = some r ∧ Ab r h := by
 obtain ⟨m, i, e1, e2⟩ := read_fin x hx
 obtain ⟨n, j, e3, e4⟩ := read_fin y (by rw [Nat.mod_eq_of_lt hy]; exact hy2)
 rw [Nat.mod_eq_of_lt hy] at e4
 have hn0 : n ≠ 0 := by rintro rfl; rw [Nat.zero_mul] at e4; have := fv_pos hy0; omega
 obtain ⟨more, hmore⟩ : ∃ more, 54 + n.log2 - m.log2 = more := ⟨_, rfl⟩
 have e : floatBits .quo .f64 x y = some (FloatKind.f64.format.nearest ((x / P63 % 2 == 1) ^^ (y / P63 % 2 == 1)) (2 * (m * 2 ^ more / n) + (m * 2 ^ more % n != 0).toNat) (((i : Nat) + (-1074 : Int)) - ((j : Nat) + (-1074 : Int)) - more - 1)) := by
  show FloatKind.f64.format.div x y = _
  unfold Ieee.Format.div
  rw [e1, e3]
  unfold Ieee.Datum.quotient
  simp only
  rw [if_neg hn0, show FloatKind.f64.format.fractionBits + 2 = 54 from rfl, hmore, Nat.shiftLeft_eq]
  rfl
 obtain ⟨a1, a2, _⟩ := write_num ((x / P63 % 2 == 1) ^^ (y / P63 % 2 == 1)) (2 * (m * 2 ^ more / n) + (m * 2 ^ more % n != 0).toNat) (((i : Nat) + (-1074 : Int)) - ((j : Nat) + (-1074 : Int)) - more - 1)
 refine ⟨_, e, a1, ?_⟩
 rw [a2]
 obtain ⟨q, hq⟩ : ∃ q, m * 2 ^ more / n = q := ⟨_, rfl⟩
 obtain ⟨mag, hmag⟩ : ∃ mag, 2 * (m * 2 ^ more / n) + (m * 2 ^ more % n != 0).toNat = mag := ⟨_, rfl⟩
 rw [hmag]
 refine wordQ_below _ _ _ (Nat.two_pow_pos _) hh ?_
 by_cases hm0 : m = 0
 ·have : mag = 0 := by rw [← hmag, hm0]; simp
  rw [this, Nat.zero_mul]; exact Nat.zero_le _
 have hq1 : 1 ≤ q := by
  rw [← hq, Nat.le_div_iff_mul_le (Nat.pos_of_ne_zero hn0), Nat.one_mul]
  have h1 := Nat.log2_self_le hm0
  have h2 := @Nat.lt_log2_self n
  have h3 : 2 ^ m.log2 * 2 ^ more ≤ m * 2 ^ more := Nat.mul_le_mul_right _ h1
  rw [← Nat.pow_add] at h3
  have h4 : 2 ^ (n.log2 + 1) ≤ 2 ^ (m.log2 + more) := Nat.pow_le_pow_right (by omega) (by omega)
  omega
 have hmagle : mag ≤ 3 * q := by
  rw [← hmag, hq]
  have : (m * 2 ^ more % n != 0).toNat ≤ 1 := Bool.toNat_le _
  omega
 have hqn : q * n ≤ m * 2 ^ more := by rw [← hq]; exact Nat.div_mul_le_self _ _
 have k1 : mag * n ≤ 3 * (m * 2 ^ more) := by
  have : mag * n ≤ 3 * q * n := Nat.mul_le_mul_right _ hmagle
  rw [Nat.mul_assoc] at this
  exact Nat.le_trans this (Nat.mul_le_mul_left 3 hqn)
 obtain ⟨ep, hep⟩ : ∃ ep, (((i : Nat) + (-1074 : Int)) - ((j : Nat) + (-1074 : Int)) - more - 1 + 1074).toNat = ep := ⟨_, rfl⟩
 obtain ⟨en, hen⟩ : ∃ en, (-(((i : Nat) + (-1074 : Int)) - ((j : Nat) + (-1074 : Int)) - more - 1 + 1074)).toNat = en := ⟨_, rfl⟩
 rw [hep, hen]
 have hexp : ep + (j + more + 1) = i + 1074 + en := by omega
 rw [e2, e4] at hm
 have hpos : 0 < n * 2 ^ (j + more + 1) := Nat.mul_pos (Nat.pos_of_ne_zero hn0) (Nat.two_pow_pos _)
 refine Nat.le_of_mul_le_mul_right (c := n * 2 ^ (j + more + 1)) ?_ hpos
 have k2 : mag * 2 ^ ep * (n * 2 ^ (j + more + 1)) = mag * n * 2 ^ (i + 1074 + en) := by
  rw [← hexp, Nat.pow_add 2 ep]; simp only [Nat.mul_assoc, Nat.mul_left_comm]
 have k3 : fv h * 2 ^ en * (n * 2 ^ (j + more + 1)) = 2 * (fv h * (n * 2 ^ j)) * (2 ^ more * 2 ^ en) := by
  rw [Nat.pow_add 2 (j + more), Nat.pow_add 2 j, Nat.pow_one]; simp only [Nat.mul_assoc, Nat.mul_left_comm, Nat.mul_comm 2]
 rw [k2, k3]
 have k4 : mag * n * 2 ^ (i + 1074 + en) ≤ 3 * (m * 2 ^ more) * 2 ^ (i + 1074 + en) := Nat.mul_le_mul_right _ k1
 have k5 : 3 * (m * 2 ^ more) * 2 ^ (i + 1074 + en) = 3 * (m * 2 ^ i) * 2 ^ 1074 * (2 ^ more * 2 ^ en) := by
  rw [Nat.pow_add 2 (i + 1074), Nat.pow_add 2 i]; simp only [Nat.mul_assoc, Nat.mul_left_comm]
 rw [k5] at k4
 exact Nat.le_trans k4 (Nat.mul_le_mul_right _ hm)
end Go.Proofs.YtfmjdoofopamkaaGreatDoor.Plain
namespace Go.Proofs.YtfmjdoofopamkaaGreatDoor.Plain
open Go.RowKit Go.Proofs.YtfmjdoofopamkaaGreatDoorW.PrintWords Go.Proofs.YtfmjdoofopamkaaGreatDoorW.PrintLast Go.Proofs.YtfmjdoofopamkaaGreatDoorW.PrintMore Go.Proofs.YtfmjdoofopamkaaGreatDoor.W
set_option linter.unusedVariables false
set_option linter.unusedSimpArgs false
set_option exponentiation.threshold 3000
theorem Ab.self {x : Nat} (h : x < P63) : Ab x x := ⟨by unfold P63 at h; omega, Nat.mod_le _ _⟩
theorem fin_of {x h : Nat} (a : Ab x h) (hh : h < INF) : x % P63 < INF := Nat.lt_of_le_of_lt a.2 hh
abbrev One : Nat := 4607182418800017408
abbrev Hlf : Nat := 4602678819172646912
theorem two_add (f : Nat) (hf : Ab f Hlf) : ∃ d, floatBits .add .f64 4611686018427387904 f = some d ∧ d < P63 ∧ d < INF ∧ 4609434218613702656 ≤ d := by
 obtain ⟨d, h1, h2, h3, h4⟩ := add_res 4611686018427387904 f (by decide) (fin_of hf (by decide))
 have hs := hf.sv
 have e2 : sv 4611686018427387904 = ((2 ^ 1075 : Nat) : Int) := by decide +kernel
 have e3 : fv Hlf = 2 ^ 1073 := by decide +kernel
 rw [e3] at hs
 obtain ⟨S, hS⟩ : ∃ S, sv 4611686018427387904 + sv f = S := ⟨_, rfl⟩
 rw [hS] at h3 h4
 have hlo : ((3 * 2 ^ 1073 : Nat) : Int) ≤ S := by
  rw [← hS, e2]
  have k : (2 : Nat) ^ 1075 = 4 * 2 ^ 1073 := by decide +kernel
  rw [k]
  generalize (2 : Nat) ^ 1073 = W at hs ⊢
  omega
 have hhi : S ≤ ((5 * 2 ^ 1073 : Nat) : Int) := by
  rw [← hS, e2]
  have k : (2 : Nat) ^ 1075 = 4 * 2 ^ 1073 := by decide +kernel
  rw [k]
  generalize (2 : Nat) ^ 1073 = W at hs ⊢
  omega
 have f1 : fv 4609434218613702656 = 3 * 2 ^ 1073 := by decide +kernel
 have f2 : fv 4612811918334230528 = 5 * 2 ^ 1073 := by decide +kernel
 have g1 : 4609434218613702656 ≤ d % P63 := by rw [h3]; exact wordQ_above _ _ _ (by omega) (by decide) (by rw [f1, Nat.mul_one]; generalize (2 : Nat) ^ 1073 = W at hlo hhi ⊢; omega)
 have g2 : d % P63 ≤ 4612811918334230528 := by rw [h3]; exact wordQ_below _ _ _ (by omega) (by decide) (by rw [f2, Nat.mul_one]; generalize (2 : Nat) ^ 1073 = W at hlo hhi ⊢; omega)
 have hpos : ¬ S < 0 := by generalize (2 : Nat) ^ 1073 = W at hlo hhi; omega
 have hsv : 0 ≤ sv d := by rw [h4]; unfold rsv; rw [if_neg hpos]; omega
 have hd : d < P63 := by
  by_cases hc : d < P63
  ·exact hc
  ·exfalso
   have q1 : (d / P63 % 2 == 1) = true := by rw [show d / P63 = 1 by unfold P63 at *; omega]; rfl
   have q2 : sv d = -(fv (d % P63) : Int) := by unfold sv; rw [if_pos q1]
   have q3 := fv_pos (show 0 < d % P63 by omega)
   omega
 rw [Nat.mod_eq_of_lt hd] at g1 g2
 exact ⟨d, h1, hd, by unfold INF; omega, g1⟩
theorem less_one (f1 : Nat) (h0 : Hlf ≤ f1) (h1 : f1 ≤ 4609434218613702656) : ∃ f, floatBits .sub .f64 f1 One = some f ∧ Ab f Hlf := by
 have p : f1 < P63 := by unfold P63; omega
 have e1 : fv Hlf = 2 ^ 1073 := by decide +kernel
 have e2 : fv 4609434218613702656 = 3 * 2 ^ 1073 := by decide +kernel
 have e3 : sv One = ((2 * 2 ^ 1073 : Nat) : Int) := by decide +kernel
 have a1 := fv_le h0
 have a2 := fv_le h1
 rw [e1] at a1
 rw [e2] at a2
 obtain ⟨f, g1, g2, _⟩ := sub_ab (x := f1) (y := One) (h := Hlf) (by rw [Nat.mod_eq_of_lt p]; unfold INF; omega) (by decide) (by decide) (by
  rw [sv_pos p, e3, e1]
  generalize (2 : Nat) ^ 1073 = W at a1 a2 ⊢
  omega)
 exact ⟨f, g1, g2⟩
theorem quo_half (f d : Nat) (hf : Ab f Hlf) (h1 : d < P63) (h2 : d < INF) (h3 : 4609434218613702656 ≤ d) : ∃ s, floatBits .quo .f64 f d = some s ∧ Ab s Hlf := by
 refine quo_ab (fin_of hf (by decide)) h1 h2 (by omega) (by decide) ?_
 have e1 : fv Hlf = 2 ^ 1073 := by decide +kernel
 have e2 : fv 4609434218613702656 = 3 * 2 ^ 1073 := by decide +kernel
 have a1 := fv_le hf.2
 have a2 := fv_le h3
 rw [e1] at a1
 rw [e2] at a2
 rw [e1]
 have k1 : 3 * fv (f % P63) * 2 ^ 1074 ≤ 3 * 2 ^ 1073 * 2 ^ 1074 := Nat.mul_le_mul_right _ (Nat.mul_le_mul_left 3 a1)
 have k2 : 2 * (2 ^ 1073 * (3 * 2 ^ 1073)) ≤ 2 * (2 ^ 1073 * fv d) := Nat.mul_le_mul_left 2 (Nat.mul_le_mul_left _ a2)
 have k3 : 3 * 2 ^ 1073 * 2 ^ 1074 = 2 * (2 ^ 1073 * (3 * 2 ^ 1073)) := by decide +kernel
 exact Nat.le_trans k1 (Nat.le_trans (Nat.le_of_eq k3) k2)
theorem log_tail (f k1 : Nat) (hf : Ab f Hlf) (hk : Ab k1 4656722014701092864) : ∃ e1 e3, floatBits .mul .f64 k1 0x3FE62E42FEE00000 = some e1 ∧ Ab e1 4656722014701092864 ∧ Ab e3 One ∧
  ∀ {β : Type} (ret : Nat → Option β),
   ((floatBits .add .f64 0x4000000000000000 f) >>= fun d =>
 (floatBits .quo .f64 f d) >>= fun s =>
 (floatBits .mul .f64 s s) >>= fun s2 =>
 (floatBits .mul .f64 s2 s2) >>= fun s4 =>
 (floatBits .mul .f64 0x3FC2F112DF3E5244 s4) >>= fun a1 =>
 (floatBits .add .f64 a1 0x3FC7466496CB03DE) >>= fun a2 =>
 (floatBits .mul .f64 a2 s4) >>= fun a3 =>
 (floatBits .add .f64 a3 0x3FD2492494229359) >>= fun a4 =>
 (floatBits .mul .f64 a4 s4) >>= fun a5 =>
 (floatBits .add .f64 a5 0x3FE5555555555593) >>= fun a6 =>
 (floatBits .mul .f64 s2 a6) >>= fun t1 =>
 (floatBits .mul .f64 0x3FC39A09D078C69F s4) >>= fun b1 =>
 (floatBits .add .f64 b1 0x3FCC71C51D8E78AF) >>= fun b2 =>
 (floatBits .mul .f64 b2 s4) >>= fun b3 =>
 (floatBits .add .f64 b3 0x3FD999999997FA04) >>= fun b4 =>
 (floatBits .mul .f64 s4 b4) >>= fun t2 =>
 (floatBits .add .f64 t1 t2) >>= fun r =>
 (floatBits .mul .f64 0x3FE0000000000000 f) >>= fun h1 =>
 (floatBits .mul .f64 h1 f) >>= fun hfsq =>
 (floatBits .add .f64 r hfsq) >>= fun c1 =>
 (floatBits .mul .f64 s c1) >>= fun c2 =>
 (floatBits .mul .f64 0x3DEA39EF35793C76 k1) >>= fun c3 =>
 (floatBits .add .f64 c2 c3) >>= fun inner =>
 (floatBits .mul .f64 k1 0x3FE62E42FEE00000) >>= fun e1 =>
 (floatBits .sub .f64 hfsq inner) >>= fun e2 =>
 (floatBits .sub .f64 e2 f) >>= fun e3 =>
 (floatBits .sub .f64 e1 e3) >>= fun e4 =>
 ret e4) = (floatBits .sub .f64 e1 e3) >>= fun e4 => ret e4 := by
 obtain ⟨d, d1, d2, d3, d4⟩ := two_add f hf
 obtain ⟨s, s1, hs⟩ := quo_half f d hf d2 d3 d4
 obtain ⟨s2, q1, h2, _⟩ := mul_ab (h := 4598175219545276416) hs hs (by decide) (by decide) (by decide) (by decide +kernel)
 obtain ⟨s4, q2, h4, _⟩ := mul_ab (h := 4589168020290535424) h2 h2 (by decide) (by decide) (by decide) (by decide +kernel)
 obtain ⟨a1, q3, ha1, _⟩ := mul_ab (x := 0x3FC2F112DF3E5244) (h := 4580160821035794432) (Ab.self (by decide)) h4 (by decide) (by decide) (by decide) (by decide +kernel)
 obtain ⟨a2, q4, ha2, _⟩ := add_ab2 (y := 0x3FC7466496CB03DE) (h := 4598175219545276416) ha1 (Ab.self (by decide)) (by decide) (by decide) (by decide) (by decide +kernel)
 obtain ⟨a3, q5, ha3, _⟩ := mul_ab (h := 4580160821035794432) ha2 h4 (by decide) (by decide) (by decide) (by decide +kernel)
 obtain ⟨a4, q6, ha4, _⟩ := add_ab2 (y := 0x3FD2492494229359) (h := 4599301119452119040) ha3 (Ab.self (by decide)) (by decide) (by decide) (by decide) (by decide +kernel)
 obtain ⟨a5, q7, ha5, _⟩ := mul_ab (h := 4584664420663164928) ha4 h4 (by decide) (by decide) (by decide) (by decide +kernel)
 obtain ⟨a6, q8, ha6, _⟩ := add_ab2 (y := 0x3FE5555555555593) (h := 4604930618986332160) ha5 (Ab.self (by decide)) (by decide) (by decide) (by decide) (by decide +kernel)
 obtain ⟨t1, q9, ht1, _⟩ := mul_ab (h := 4595923419731787776) h2 ha6 (by decide) (by decide) (by decide) (by decide +kernel)
 obtain ⟨b1, q10, hb1, _⟩ := mul_ab (x := 0x3FC39A09D078C69F) (h := 4580160821035794432) (Ab.self (by decide)) h4 (by decide) (by decide) (by decide) (by decide +kernel)
 obtain ⟨b2, q11, hb2, _⟩ := add_ab2 (y := 0x3FCC71C51D8E78AF) (h := 4598175219545276416) hb1 (Ab.self (by decide)) (by decide) (by decide) (by decide) (by decide +kernel)
 obtain ⟨b3, q12, hb3, _⟩ := mul_ab (h := 4580160821035794432) hb2 h4 (by decide) (by decide) (by decide) (by decide +kernel)
 obtain ⟨b4, q13, hb4, _⟩ := add_ab2 (y := 0x3FD999999997FA04) (h := 4601552919265804288) hb3 (Ab.self (by decide)) (by decide) (by decide) (by decide) (by decide +kernel)
 obtain ⟨t2, q14, ht2, _⟩ := mul_ab (h := 4584664420663164928) h4 hb4 (by decide) (by decide) (by decide) (by decide +kernel)
 obtain ⟨r, q15, hr, _⟩ := add_ab2 (h := 4598175219545276416) ht1 ht2 (by decide) (by decide) (by decide) (by decide +kernel)
 obtain ⟨h1, q16, hh1, _⟩ := mul_ab (x := 0x3FE0000000000000) (h := 4598175219545276416) (Ab.self (by decide)) hf (by decide) (by decide) (by decide) (by decide +kernel)
 obtain ⟨hfsq, q17, hhf, _⟩ := mul_ab (h := 4593671619917905920) hh1 hf (by decide) (by decide) (by decide) (by decide +kernel)
 obtain ⟨c1, q18, hc1, _⟩ := add_ab2 (h := 4600427019358961664) hr hhf (by decide) (by decide) (by decide) (by decide +kernel)
 obtain ⟨c2, q19, hc2, _⟩ := mul_ab (h := 4595923419731787776) hs hc1 (by decide) (by decide) (by decide) (by decide +kernel)
 obtain ⟨c3, q20, hc3, _⟩ := mul_ab (x := 0x3DEA39EF35793C76) (h := 4580160821035794432) (Ab.self (by decide)) hk (by decide) (by decide) (by decide) (by decide +kernel)
 obtain ⟨inner, q21, hin, _⟩ := add_ab2 (h := 4598175219545276416) hc2 hc3 (by decide) (by decide) (by decide) (by decide +kernel)
 obtain ⟨e1, q22, he1, _⟩ := mul_ab (y := 0x3FE62E42FEE00000) (h := 4656722014701092864) hk (Ab.self (by decide)) (by decide) (by decide) (by decide) (by decide +kernel)
 obtain ⟨e2, q23, he2, _⟩ := sub_ab2 (h := 4600427019358961664) hhf hin (by decide) (by decide) (by decide) (by decide +kernel)
 obtain ⟨e3, q24, he3, _⟩ := sub_ab2 (h := One) he2 hf (by decide) (by decide) (by decide) (by decide +kernel)
 refine ⟨e1, e3, q22, he1, he3, fun ret => ?_⟩
 have hb : ∀ {α β : Type} (a : α) (g : α → Option β), (some a >>= g) = g a := fun a g => rfl
 rw [d1, hb, s1, hb, q1, hb, q2, hb, q3, hb, q4, hb, q5, hb, q6, hb, q7, hb, q8, hb, q9, hb, q10, hb, q11, hb, q12, hb, q13, hb, q14, hb, q15, hb, q16, hb, q17, hb, q18, hb, q19, hb, q20, hb, q21, hb, q22, hb, q23, hb, q24, hb]
end Go.Proofs.YtfmjdoofopamkaaGreatDoor.Plain
namespace Go.Proofs.YtfmjdoofopamkaaGreatDoor.Plain
open Go.RowKit Go.Proofs.YtfmjdoofopamkaaGreatDoorW.PrintWords Go.Proofs.YtfmjdoofopamkaaGreatDoorW.PrintLast Go.Proofs.YtfmjdoofopamkaaGreatDoorW.PrintMore Go.Proofs.YtfmjdoofopamkaaGreatDoor.W
set_option linter.unusedVariables false
set_option linter.unusedSimpArgs false
set_option exponentiation.threshold 3000
theorem nearest_eq (neg : Bool) (mag : Nat) (place : Int) : FloatKind.f64.format.nearest neg mag place = (if neg then P63 else 0) + wordQ (mag * 2 ^ (place + 1074).toNat) (2 ^ (-(place + 1074)).toNat) := by
 by_cases h0 : mag = 0
 ·subst h0
  rw [Nat.zero_mul, wordQ_zero _ (Nat.two_pow_pos _)]
  unfold Ieee.Format.nearest
  rw [if_pos rfl]
  cases neg <;> rfl
 ·exact nearest_word neg mag place h0
theorem cut_down (neg : Bool) (n drop : Nat) : Ieee.Toward.down.cut neg n drop = n / 2 ^ drop + (neg && n % 2 ^ drop != 0).toNat := by
 unfold Ieee.Toward.cut
 simp only
 rw [Nat.shiftLeft_eq, Nat.one_mul]
 by_cases h : drop ≤ n.log2 + 2
 ·rw [Nat.min_eq_left h]
 ·rw [Nat.min_eq_right (by omega)]
  have h1 : n < 2 ^ (n.log2 + 2) := Nat.lt_of_lt_of_le Nat.lt_log2_self (Nat.pow_le_pow_right (by omega) (by omega))
  have h2 : 2 ^ (n.log2 + 2) ≤ 2 ^ drop := Nat.pow_le_pow_right (by omega) (by omega)
  rw [Nat.div_eq_of_lt h1, Nat.mod_eq_of_lt h1, Nat.div_eq_of_lt (Nat.lt_of_lt_of_le h1 h2), Nat.mod_eq_of_lt (Nat.lt_of_lt_of_le h1 h2)]
theorem cut_zero (neg : Bool) (n drop : Nat) : Ieee.Toward.zero.cut neg n drop = n / 2 ^ drop := by
 unfold Ieee.Toward.cut
 simp only [Bool.toNat_false, Nat.add_zero]
 rw [Nat.shiftLeft_eq, Nat.one_mul]
 by_cases h : drop ≤ n.log2 + 2
 ·rw [Nat.min_eq_left h]
 ·rw [Nat.min_eq_right (by omega)]
  have h1 : n < 2 ^ (n.log2 + 2) := Nat.lt_of_lt_of_le Nat.lt_log2_self (Nat.pow_le_pow_right (by omega) (by omega))
  have h2 : 2 ^ (n.log2 + 2) ≤ 2 ^ drop := Nat.pow_le_pow_right (by omega) (by omega)
  rw [Nat.div_eq_of_lt h1, Nat.div_eq_of_lt (Nat.lt_of_lt_of_le h1 h2)]
theorem units (m i : Nat) : (m <<< ((i : Nat) + (-1074 : Int)).toNat) / 2 ^ (-((i : Nat) + (-1074 : Int))).toNat = m * 2 ^ i / 2 ^ 1074 ∧ ((m <<< ((i : Nat) + (-1074 : Int)).toNat) % 2 ^ (-((i : Nat) + (-1074 : Int))).toNat = 0 ↔ m * 2 ^ i % 2 ^ 1074 = 0) := by
 rw [Nat.shiftLeft_eq]
 rcases Nat.le_total 1074 i with hi | hi
 ·obtain ⟨d, rfl⟩ := Nat.exists_eq_add_of_le hi
  rw [show (-(((1074 + d : Nat) : Int) + (-1074 : Int))).toNat = 0 by omega, show (((1074 + d : Nat) : Int) + (-1074 : Int)).toNat = d by omega, Nat.pow_zero, Nat.div_one, Nat.mod_one, Nat.pow_add, Nat.mul_comm (2 ^ 1074), ← Nat.mul_assoc, Nat.mul_div_cancel _ (Nat.two_pow_pos 1074), Nat.mul_mod_left]
  exact ⟨rfl, Iff.rfl⟩
 ·obtain ⟨d, hd⟩ := Nat.exists_eq_add_of_le hi
  rw [show (-((i : Int) + (-1074 : Int))).toNat = d by omega, show ((i : Int) + (-1074 : Int)).toNat = 0 by omega, Nat.pow_zero, Nat.mul_one, hd, Nat.pow_add, Nat.mul_comm (2 ^ i) (2 ^ d)]
  constructor
  ·rw [Nat.mul_div_mul_right _ _ (Nat.two_pow_pos i)]
  ·rw [Nat.mul_mod_mul_right]
   constructor
   ·intro h; rw [h, Nat.zero_mul]
   ·intro h; exact (Nat.mul_eq_zero.1 h).resolve_right (Nat.ne_of_gt (Nat.two_pow_pos i))
theorem floor_neg (A D : Nat) (hD : 0 < D) : (-(A : Int)) / (D : Int) = -(((A / D + (A % D != 0).toNat : Nat)) : Int) := by
 have h1 := Nat.div_add_mod A D
 have h2 := Nat.mod_lt A hD
 obtain ⟨q, hq⟩ : ∃ q, A / D = q := ⟨_, rfl⟩
 obtain ⟨m, hm⟩ : ∃ m, A % D = m := ⟨_, rfl⟩
 rw [hq, hm] at h1 ⊢
 rw [hm] at h2
 by_cases h0 : m = 0
 ·subst h0
  have e : -(A : Int) = -(q : Int) * (D : Int) := by rw [← h1, Nat.add_zero, Int.natCast_mul, Int.neg_mul, Int.mul_comm]
  rw [e, Int.mul_ediv_cancel _ (by omega)]; simp
 ·have e : -(A : Int) = (D - m : Int) + (-(q : Int) - 1) * (D : Int) := by
   rw [← h1, Int.natCast_add, Int.natCast_mul, Int.sub_mul, Int.neg_mul, Int.mul_comm (D : Int)]; omega
  rw [e, Int.add_mul_ediv_right _ _ (by omega), Int.ediv_eq_zero_of_lt (by omega) (by omega), show (m != 0) = true from bne_iff_ne.2 h0]
  simp; omega
theorem floor_ok (x : Nat) (hx : x < 18446744073709551616) (hf : x % P63 < INF) (hb : (sv x).natAbs ≤ 1048576 * 2 ^ 1074) : ∃ r, math_Floor.f x = some r ∧ floatToIntVal .f64 r .i64 = some (sv x / ((2 ^ 1074 : Nat) : Int)) := by
 obtain ⟨m, i, e1, e2⟩ := read_fin x hf
 obtain ⟨neg, hneg⟩ : ∃ neg, (x / P63 % 2 == 1) = neg := ⟨_, rfl⟩
 rw [hneg] at e1
 obtain ⟨u1, u2⟩ := units m i
 rw [← e2] at u1 u2
 obtain ⟨M, hM⟩ : ∃ M, fv (x % P63) / 2 ^ 1074 + (neg && fv (x % P63) % 2 ^ 1074 != 0).toNat = M := ⟨_, rfl⟩
 have hcut : Ieee.Toward.down.cut neg (m <<< ((i : Nat) + (-1074 : Int)).toNat) (-((i : Nat) + (-1074 : Int))).toNat = M := by
  rw [cut_down, u1, ← hM]
  congr 3
  rw [Bool.eq_iff_iff, bne_iff_ne, bne_iff_ne]
  exact not_congr u2
 have hfl : math_Floor.f x = some (FloatKind.f64.format.nearest neg M 0) := by
  unfold math_Floor.f Rm.archFloorP
  have e3 : FloatKind.f64.decode x = .number neg m ((i : Nat) + (-1074 : Int)) := e1
  rw [e3]
  show (some (FloatKind.f64.format.nearest neg (Ieee.Toward.down.cut neg (m <<< ((i : Nat) + (-1074 : Int)).toNat) (-((i : Nat) + (-1074 : Int))).toNat) 0)).bind _ = _
  rw [hcut]; rfl
 rw [sv_abs] at hb
 have hMb : M ≤ 1048577 := by
  have h1 : fv (x % P63) / 2 ^ 1074 ≤ 1048576 := Nat.div_le_of_le_mul (by rw [Nat.mul_comm]; exact hb)
  have h2 : (neg && fv (x % P63) % 2 ^ 1074 != 0).toNat ≤ 1 := Bool.toNat_le _
  omega
 have hsv : sv x / ((2 ^ 1074 : Nat) : Int) = if neg then -(M : Int) else (M : Int) := by
  have e4 : sv x = if neg then -(fv (x % P63) : Int) else (fv (x % P63) : Int) := by unfold sv; rw [hneg]
  rw [e4, ← hM]
  cases neg with
  | true => rw [if_pos rfl, if_pos rfl, floor_neg _ _ (Nat.two_pow_pos 1074), Bool.true_and]
  | false => rw [if_neg (by simp), if_neg (by simp), ← Int.natCast_ediv, Bool.false_and]; rfl
 refine ⟨_, hfl, ?_⟩
 rw [hsv]
 have hne : FloatKind.f64.format.nearest neg M 0 = (if neg then P63 else 0) + wordQ (M * 2 ^ 1074) 1 := by
  have := nearest_eq neg M 0
  rw [show ((0 : Int) + 1074).toNat = 1074 by omega, show (-((0 : Int) + 1074)).toNat = 0 by omega, Nat.pow_zero] at this
  exact this
 obtain ⟨r0, g1, g2, g3, _⟩ := word_exact M 1074 (by unfold P52; omega) (by omega)
 rw [g3] at hne
 obtain ⟨r, hr⟩ : ∃ r, FloatKind.f64.format.nearest neg M 0 = r := ⟨_, rfl⟩
 rw [hr] at hne ⊢
 have q1 : r % P63 = r0 := by rw [hne]; cases neg <;> simp <;> (unfold P63 INF at *; omega)
 have q2 : (r / P63 % 2 == 1) = neg := by
  rw [hne]
  cases neg
  ·simp only [Bool.false_eq_true, if_false, Nat.zero_add]; rw [Nat.div_eq_of_lt (by unfold P63 INF at *; omega)]; rfl
  ·simp only [if_true]; rw [show (P63 + r0) / P63 = 1 by unfold P63 INF at *; omega]; rfl
 obtain ⟨m', i', k1, k2⟩ := read_fin r (by rw [q1]; exact g1)
 rw [q2] at k1
 rw [q1, g2] at k2
 obtain ⟨v1, _⟩ := units m' i'
 rw [← k2, Nat.mul_div_cancel _ (Nat.two_pow_pos 1074)] at v1
 have k3 : (FloatKind.f64.decode r).toInt .zero = some (if neg then -(M : Int) else (M : Int)) := by
  show (FloatKind.f64.format.read r).toInt .zero = _
  rw [k1]
  show some (Ieee.signed neg (Ieee.Toward.zero.cut neg (m' <<< ((i' : Nat) + (-1074 : Int)).toNat) (-((i' : Nat) + (-1074 : Int))).toNat) 0) = _
  rw [cut_zero, v1]
  unfold Ieee.signed
  rw [Nat.shiftLeft_zero]
 unfold floatToIntVal
 rw [k3]
 simp only
 have z1 : IntKind.i64.min = -9223372036854775808 := by decide
 have z2 : IntKind.i64.max = 9223372036854775807 := by decide
 rw [z1, z2]
 exact if_pos (by cases neg <;> simp only [if_true, if_false, Bool.false_eq_true] <;> omega)
abbrev Ln2Hi : Nat := 0x3FE62E42FEE00000
abbrev InvLn10 : Nat := 4601495173785380110
def logFits (E : Nat) (tl th : Nat) : Bool :=
 decide (-400 ≤ sv tl / ((2 ^ 1074 : Nat) : Int)) && decide (sv th / ((2 ^ 1074 : Nat) : Int) ≤ 400) &&
 (E == 0 || decide (10 ^ (sv th / ((2 ^ 1074 : Nat) : Int) - 2).toNat * 2 ^ 1074 ≤ 2 ^ (E + 51) * 10 ^ (2 - sv th / ((2 ^ 1074 : Nat) : Int)).toNat)) &&
 decide (2 ^ (E + 52) * 10 ^ (-(sv tl / ((2 ^ 1074 : Nat) : Int) + 8)).toNat ≤ 10 ^ (sv tl / ((2 ^ 1074 : Nat) : Int) + 8).toNat * 2 ^ 1074)
def logChk (E : Nat) (sm : Bool) : Bool :=
 match floatBits .sub .f64 (FloatKind.f64.nearest (Int.ofNat E - 0x3FE)) (if sm then 0x3FF0000000000000 else 0) with
 | none => false
 | some k1 => decide (k1 < 18446744073709551616) && decide (k1 % P63 ≤ 4656722014701092864) &&
  match floatBits .mul .f64 k1 Ln2Hi with
  | none => false
  | some e1 =>
   match floatBits .sub .f64 e1 One, floatBits .add .f64 e1 One with
   | some el, some eh =>
    match floatBits .mul .f64 el InvLn10, floatBits .mul .f64 eh InvLn10 with
    | some tl, some th => decide (el % P63 < INF) && decide (eh % P63 < INF) && logFits E tl th
    | _, _ => false
   | _, _ => false
end Go.Proofs.YtfmjdoofopamkaaGreatDoor.Plain
namespace Go.Proofs.YtfmjdoofopamkaaGreatDoor.Plain
open Go.RowKit Go.Proofs.YtfmjdoofopamkaaGreatDoorW.PrintWords Go.Proofs.YtfmjdoofopamkaaGreatDoorW.PrintLast Go.Proofs.YtfmjdoofopamkaaGreatDoorW.PrintMore
def logRow (j : Nat) : Bool := (List.range 64).all fun i => 2047 ≤ 64 * j + i || logChk (64 * j + i) true && logChk (64 * j + i) false
set_option maxRecDepth 100000 in
theorem logChk_0 : logRow 0 = true := by decide +kernel
set_option maxRecDepth 100000 in
theorem logChk_1 : logRow 1 = true := by decide +kernel
set_option maxRecDepth 100000 in
theorem logChk_2 : logRow 2 = true := by decide +kernel
set_option maxRecDepth 100000 in
theorem logChk_3 : logRow 3 = true := by decide +kernel
set_option maxRecDepth 100000 in
theorem logChk_4 : logRow 4 = true := by decide +kernel
set_option maxRecDepth 100000 in
theorem logChk_5 : logRow 5 = true := by decide +kernel
set_option maxRecDepth 100000 in
theorem logChk_6 : logRow 6 = true := by decide +kernel
set_option maxRecDepth 100000 in
theorem logChk_7 : logRow 7 = true := by decide +kernel
set_option maxRecDepth 100000 in
theorem logChk_8 : logRow 8 = true := by decide +kernel
set_option maxRecDepth 100000 in
theorem logChk_9 : logRow 9 = true := by decide +kernel
set_option maxRecDepth 100000 in
theorem logChk_10 : logRow 10 = true := by decide +kernel
set_option maxRecDepth 100000 in
theorem logChk_11 : logRow 11 = true := by decide +kernel
set_option maxRecDepth 100000 in
theorem logChk_12 : logRow 12 = true := by decide +kernel
set_option maxRecDepth 100000 in
theorem logChk_13 : logRow 13 = true := by decide +kernel
set_option maxRecDepth 100000 in
theorem logChk_14 : logRow 14 = true := by decide +kernel
set_option maxRecDepth 100000 in
theorem logChk_15 : logRow 15 = true := by decide +kernel
set_option maxRecDepth 100000 in
theorem logChk_16 : logRow 16 = true := by decide +kernel
set_option maxRecDepth 100000 in
theorem logChk_17 : logRow 17 = true := by decide +kernel
set_option maxRecDepth 100000 in
theorem logChk_18 : logRow 18 = true := by decide +kernel
set_option maxRecDepth 100000 in
theorem logChk_19 : logRow 19 = true := by decide +kernel
set_option maxRecDepth 100000 in
theorem logChk_20 : logRow 20 = true := by decide +kernel
set_option maxRecDepth 100000 in
theorem logChk_21 : logRow 21 = true := by decide +kernel
set_option maxRecDepth 100000 in
theorem logChk_22 : logRow 22 = true := by decide +kernel
set_option maxRecDepth 100000 in
theorem logChk_23 : logRow 23 = true := by decide +kernel
set_option maxRecDepth 100000 in
theorem logChk_24 : logRow 24 = true := by decide +kernel
set_option maxRecDepth 100000 in
theorem logChk_25 : logRow 25 = true := by decide +kernel
set_option maxRecDepth 100000 in
theorem logChk_26 : logRow 26 = true := by decide +kernel
set_option maxRecDepth 100000 in
theorem logChk_27 : logRow 27 = true := by decide +kernel
set_option maxRecDepth 100000 in
theorem logChk_28 : logRow 28 = true := by decide +kernel
set_option maxRecDepth 100000 in
theorem logChk_29 : logRow 29 = true := by decide +kernel
set_option maxRecDepth 100000 in
theorem logChk_30 : logRow 30 = true := by decide +kernel
set_option maxRecDepth 100000 in
theorem logChk_31 : logRow 31 = true := by decide +kernel
theorem logRow_all : ∀ j, j < 32 → logRow j = true
 | 0, _ => logChk_0
 | 1, _ => logChk_1
 | 2, _ => logChk_2
 | 3, _ => logChk_3
 | 4, _ => logChk_4
 | 5, _ => logChk_5
 | 6, _ => logChk_6
 | 7, _ => logChk_7
 | 8, _ => logChk_8
 | 9, _ => logChk_9
 | 10, _ => logChk_10
 | 11, _ => logChk_11
 | 12, _ => logChk_12
 | 13, _ => logChk_13
 | 14, _ => logChk_14
 | 15, _ => logChk_15
 | 16, _ => logChk_16
 | 17, _ => logChk_17
 | 18, _ => logChk_18
 | 19, _ => logChk_19
 | 20, _ => logChk_20
 | 21, _ => logChk_21
 | 22, _ => logChk_22
 | 23, _ => logChk_23
 | 24, _ => logChk_24
 | 25, _ => logChk_25
 | 26, _ => logChk_26
 | 27, _ => logChk_27
 | 28, _ => logChk_28
 | 29, _ => logChk_29
 | 30, _ => logChk_30
 | 31, _ => logChk_31
 | n + 32, h => absurd h (by omega)
theorem logChk_at (E : Nat) (h : E < 2047) (sm : Bool) : logChk E sm = true := by
 have h1 := List.all_eq_true.1 (logRow_all (E / 64) (by omega)) (E % 64) (List.mem_range.2 (by omega))
 rw [show 64 * (E / 64) + E % 64 = E by omega, Bool.or_eq_true] at h1
 have h2 := h1.resolve_left (by rw [decide_eq_true_iff]; omega)
 rw [Bool.and_eq_true] at h2
 cases sm
 ·exact h2.2
 ·exact h2.1
end Go.Proofs.YtfmjdoofopamkaaGreatDoor.Plain
namespace Go.Proofs.YtfmjdoofopamkaaGreatDoor.Plain
open Go.RowKit Go.Proofs.YtfmjdoofopamkaaGreatDoorW.PrintWords Go.Proofs.YtfmjdoofopamkaaGreatDoorW.PrintLast Go.Proofs.YtfmjdoofopamkaaGreatDoorW.PrintMore
set_option linter.unusedVariables false
set_option linter.unusedSimpArgs false
set_option exponentiation.threshold 3000
def un (y : Int) (l : Nat) : Nat := 10 ^ (y + l).toNat * 2 ^ 1074
theorem un_pos (y : Int) (l : Nat) : 0 < un y l := Nat.mul_pos (Nat.pow_pos (by omega)) (Nat.two_pow_pos _)
theorem un_succ (y : Int) (l : Nat) (hy : -(l : Int) ≤ y) : un (y + 1) l = 10 * un y l := by
 unfold un
 rw [show (y + 1 + l).toNat = (y + l).toNat + 1 by omega, Nat.pow_succ, Nat.mul_comm _ 10, Nat.mul_assoc]
theorem un_add (y : Int) (l : Nat) (hy : -(l : Int) ≤ y) (n : Nat) : un (y + n) l = 10 ^ n * un y l := by
 unfold un
 rw [show (y + n + l).toNat = n + (y + l).toNat by omega, Nat.pow_add, Nat.mul_assoc]
theorem un_mono {y z : Int} (l : Nat) (h : y ≤ z) : un y l ≤ un z l := Nat.mul_le_mul_right _ (Nat.pow_le_pow_right (by omega) (by omega))
theorem un_iff (A : Nat) (y : Int) (l : Nat) (hy : -(l : Int) ≤ y) : (un y l ≤ A * 10 ^ l ↔ 10 ^ y.toNat * 2 ^ 1074 ≤ A * 10 ^ (-y).toNat) ∧ (A * 10 ^ l < un y l ↔ A * 10 ^ (-y).toNat < 10 ^ y.toNat * 2 ^ 1074) := by
 have e1 : un y l = 10 ^ y.toNat * 2 ^ 1074 * 10 ^ (l - (-y).toNat) := by
  unfold un
  rw [show (y + l).toNat = y.toNat + (l - (-y).toNat) by omega, Nat.pow_add, Nat.mul_right_comm]
 have e2 : A * 10 ^ l = A * 10 ^ (-y).toNat * 10 ^ (l - (-y).toNat) := by
  rw [Nat.mul_assoc, ← Nat.pow_add]; congr 2; omega
 have hc : 0 < 10 ^ (l - (-y).toNat) := Nat.pow_pos (by omega)
 rw [e1, e2]
 exact ⟨Nat.mul_le_mul_right_iff hc, Nat.mul_lt_mul_right hc⟩
theorem decW_un (d : Nat) (y : Int) (l : Nat) (hy : -(l : Int) ≤ y) : decW d y = wordQ (d * un y l) (10 ^ l) := by
 unfold decW un
 refine wordQ_cross (Nat.pow_pos (by omega)) (Nat.pow_pos (by omega)) ?_
 have e : 10 ^ y.toNat * 10 ^ l = 10 ^ (y + l).toNat * 10 ^ (-y).toNat := by rw [← Nat.pow_add, ← Nat.pow_add]; congr 1; omega
 generalize (2 : Nat) ^ 1074 = t
 rw [Nat.mul_right_comm, Nat.mul_assoc d, e]
 simp only [Nat.mul_assoc, Nat.mul_comm, Nat.mul_left_comm]
def Rd (r l n : Nat) : Prop := wordQ n (10 ^ l) = r
theorem rd_self (r l : Nat) (hr : r < INF) : Rd r l (fv r * 10 ^ l) := by
 have h := wordQ_scale (fv r) 1 (10 ^ l) (Nat.pow_pos (by omega))
 rw [Nat.one_mul] at h
 exact h.trans (wordQ_fv r hr)
theorem rd_mono (l : Nat) {m n : Nat} (h : m ≤ n) : wordQ m (10 ^ l) ≤ wordQ n (10 ^ l) :=
 wordQ_mono _ _ _ _ (Nat.pow_pos (by omega)) (Nat.pow_pos (by omega)) (Nat.mul_le_mul_right _ h)
theorem rd_between {r l m n : Nat} (hr : r < INF) (hm : Rd r l m) (h : (m ≤ n ∧ n ≤ fv r * 10 ^ l) ∨ (fv r * 10 ^ l ≤ n ∧ n ≤ m)) : Rd r l n := by
 have hs := rd_self r l hr
 unfold Rd at *
 rcases h with ⟨h1, h2⟩ | ⟨h1, h2⟩
 ·have a := rd_mono l h1
  have b := rd_mono l h2
  omega
 ·have a := rd_mono l h1
  have b := rd_mono l h2
  omega
theorem fv_gap (r : Nat) : fv r * 9007199254740993 < fv (r + 1) * 9007199254740992 := by
 by_cases h : r < P52
 ·by_cases h2 : r + 1 < P52
  ·rw [fv_sub h, fv_sub h2]; unfold P52 at *; omega
  ·have e : r + 1 = P52 := by omega
   have e2 : fv P52 = P52 := by decide
   rw [fv_sub h, e, e2]; unfold P52 at *; omega
 ·obtain ⟨q, hq⟩ : ∃ q, r / P52 = q + 1 := ⟨r / P52 - 1, by unfold P52 at *; omega⟩
  have hm := Nat.mod_lt r (show 0 < P52 by decide)
  have hdm := Nat.div_add_mod r P52
  obtain ⟨m, hme⟩ : ∃ m, r % P52 = m := ⟨_, rfl⟩
  rw [hme] at hm hdm
  rw [hq] at hdm
  have e1 : r = (q + 1) * P52 + m := by rw [Nat.mul_comm (q + 1)]; exact hdm.symm
  have f1 : fv r = (P52 + m) * 2 ^ q := by rw [e1]; exact fv_mk q m hm
  have hp := Nat.two_pow_pos q
  by_cases h2 : m + 1 < P52
  ·have f2 : fv (r + 1) = (P52 + (m + 1)) * 2 ^ q := by rw [e1, Nat.add_assoc]; exact fv_mk q (m + 1) h2
   rw [f1, f2, Nat.mul_right_comm, Nat.mul_right_comm (P52 + (m + 1))]
   refine Nat.mul_lt_mul_of_pos_right ?_ hp
   unfold P52 at *; omega
  ·have e2 : r + 1 = (q + 1 + 1) * P52 + 0 := by rw [e1, Nat.add_mul (q + 1) 1]; unfold P52 at *; omega
   have f2 : fv (r + 1) = (P52 + 0) * 2 ^ (q + 1) := by rw [e2]; exact fv_mk (q + 1) 0 (by decide)
   rw [f1, f2, Nat.pow_succ, Nat.mul_comm (2 ^ q) 2, ← Nat.mul_assoc, Nat.mul_right_comm, Nat.mul_right_comm ((P52 + 0) * 2)]
   refine Nat.mul_lt_mul_of_pos_right ?_ hp
   unfold P52 at *; omega
theorem rd_close {r l n T : Nat} (hr0 : 0 < r) (hr : r < INF) (hT : T * 10000000000000000 ≤ fv r * 10 ^ l) (h1 : 2 * n ≤ 2 * (fv r * 10 ^ l) + T) (h2 : 2 * (fv r * 10 ^ l) ≤ 2 * n + T) : Rd r l n := by
 have hq : 0 < 10 ^ l := Nat.pow_pos (by omega)
 have g1 := Nat.mul_lt_mul_of_pos_right (fv_gap r) hq
 have g2 := Nat.mul_lt_mul_of_pos_right (fv_gap (r - 1)) hq
 rw [show r - 1 + 1 = r by omega] at g2
 have hw : wordU n (10 ^ l) = r := by
  refine wordU_is n (10 ^ l) r hq (.inr ?_) ?_
  ·rw [Nat.add_mul]
   rw [Nat.mul_right_comm, Nat.mul_right_comm (fv r)] at g2
   omega
  ·rw [Nat.add_mul]
   rw [Nat.mul_right_comm, Nat.mul_right_comm (fv (r + 1))] at g1
   omega
 unfold Rd
 rw [wordQ_U, hw]
 exact Nat.min_eq_left (by omega)
def fst (F T : Nat) : Nat := rne F T
def snd (F T : Nat) : Nat := 2 * (F / T) + 1 - rne F T
theorem fst_snd (F T : Nat) : (fst F T = F / T ∧ snd F T = F / T + 1) ∨ (fst F T = F / T + 1 ∧ snd F T = F / T) := by
 unfold fst snd rne
 split
 ·right; omega
 ·left; omega
theorem fst_near (F T : Nat) (hT : 0 < T) : 2 * (fst F T * T) ≤ 2 * F + T ∧ 2 * F ≤ 2 * (fst F T * T) + T := by
 obtain ⟨h1, _, h3, _⟩ := rne_near F T hT
 unfold fst
 constructor
 ·rw [← Nat.mul_assoc]; exact h3
 ·rw [← Nat.mul_assoc]
  rw [Nat.add_mul, Nat.one_mul] at h1
  exact h1
def Ok (r : Nat) (y : Int) (d : Nat) : Prop := d ≠ 0 ∧ decW d y = r
instance (r : Nat) (y : Int) (d : Nat) : Decidable (Ok r y d) := by unfold Ok; infer_instance
def pick (r l : Nat) (y : Int) : Option Nat :=
 if Ok r y (fst (fv r * 10 ^ l) (un y l)) then some (fst (fv r * 10 ^ l) (un y l)) else if Ok r y (snd (fv r * 10 ^ l) (un y l)) then some (snd (fv r * 10 ^ l) (un y l)) else none
theorem pick_ok {r l : Nat} {y : Int} {d : Nat} (h : pick r l y = some d) : Ok r y d ∧ (d = fv r * 10 ^ l / un y l ∨ d = fv r * 10 ^ l / un y l + 1) := by
 have hc := fst_snd (fv r * 10 ^ l) (un y l)
 unfold pick at h
 split at h
 ·rename_i h1
  obtain rfl := Option.some.inj h
  exact ⟨h1, by omega⟩
 ·split at h
  ·rename_i h1
   obtain rfl := Option.some.inj h
   exact ⟨h1, by omega⟩
  ·exact absurd h (by simp)
theorem pick_some {r l : Nat} {y : Int} (h : Ok r y (fv r * 10 ^ l / un y l) ∨ Ok r y (fv r * 10 ^ l / un y l + 1)) : ∃ d, pick r l y = some d := by
 have hc := fst_snd (fv r * 10 ^ l) (un y l)
 unfold pick
 by_cases h1 : Ok r y (fst (fv r * 10 ^ l) (un y l))
 ·exact ⟨_, if_pos h1⟩
 ·rw [if_neg h1]
  by_cases h2 : Ok r y (snd (fv r * 10 ^ l) (un y l))
  ·exact ⟨_, if_pos h2⟩
  ·exfalso
   rcases hc with ⟨c1, c2⟩ | ⟨c1, c2⟩
   ·rw [c1] at h1; rw [c2] at h2; rcases h with h | h
    ·exact h1 h
    ·exact h2 h
   ·rw [c1] at h1; rw [c2] at h2; rcases h with h | h
    ·exact h2 h
    ·exact h1 h
theorem pick_of {r l : Nat} {y : Int} (hr : r < INF) (hy : -(l : Int) ≤ y) (hF : un y l ≤ fv r * 10 ^ l) {D : Nat} (h : Rd r l (D * un y l)) : ∃ d, pick r l y = some d := by
 obtain ⟨F, hFe⟩ : ∃ F, fv r * 10 ^ l = F := ⟨_, rfl⟩
 obtain ⟨T, hTe⟩ : ∃ T, un y l = T := ⟨_, rfl⟩
 have hT0 : 0 < T := by rw [← hTe]; exact un_pos y l
 refine pick_some ?_
 rw [hFe] at hF ⊢
 rw [hTe] at h hF ⊢
 have hdm := Nat.div_add_mod F T
 have hml := Nat.mod_lt F hT0
 have h1 : 1 ≤ F / T := (Nat.le_div_iff_mul_le hT0).2 (by omega)
 by_cases hc : D ≤ F / T
 ·left
  refine ⟨by omega, ?_⟩
  rw [decW_un _ y l hy, hTe]
  refine rd_between hr h (.inl ⟨Nat.mul_le_mul_right _ hc, ?_⟩)
  rw [hFe, Nat.mul_comm]; omega
 ·right
  refine ⟨by omega, ?_⟩
  rw [decW_un _ y l hy, hTe]
  refine rd_between hr h (.inr ⟨?_, Nat.mul_le_mul_right _ (by omega)⟩)
  rw [hFe, Nat.add_mul, Nat.mul_comm (F / T)]; omega
theorem pick_17 {r l : Nat} {y : Int} (hr0 : 0 < r) (hr : r < INF) (hy : -(l : Int) ≤ y) (hF : un (y + 16) l ≤ fv r * 10 ^ l) : ∃ d, pick r l y = some d := by
 have e := un_add y l hy 16
 rw [show y + ((16 : Nat) : Int) = y + 16 by omega] at e
 rw [e] at hF
 have hle : un y l ≤ fv r * 10 ^ l := by omega
 refine pick_of hr hy hle (D := fst (fv r * 10 ^ l) (un y l)) ?_
 obtain ⟨h1, h2⟩ := fst_near (fv r * 10 ^ l) (un y l) (un_pos y l)
 exact rd_close hr0 hr (by rw [Nat.mul_comm]; exact hF) h1 h2
end Go.Proofs.YtfmjdoofopamkaaGreatDoor.Plain
namespace Go.Proofs.YtfmjdoofopamkaaGreatDoor.Plain
open Go.RowKit Go.Proofs.YtfmjdoofopamkaaGreatDoorW.PrintWords Go.Proofs.YtfmjdoofopamkaaGreatDoorW.PrintLast Go.Proofs.YtfmjdoofopamkaaGreatDoorW.PrintMore Go.Proofs.YtfmjdoofopamkaaGreatDoor.W
set_option linter.unusedVariables false
set_option linter.unusedSimpArgs false
set_option exponentiation.threshold 3000
theorem sv_one : sv One = ((2 ^ 1074 : Nat) : Int) := by decide +kernel
theorem sv_inv : 0 ≤ sv InvLn10 := by decide +kernel
theorem fv_two : fv 4611686018427387904 = 2 ^ 1075 := by decide +kernel
theorem fv_one : fv One = 2 ^ 1074 := by decide +kernel
theorem f1_ok (x : Nat) : ∃ f1, floatBits .mul .f64 (x % 2 ^ 52 + 0x3FE0000000000000) (if Rm.logSmall x then 4611686018427387904 else One) = some f1 ∧ Hlf ≤ f1 ∧ f1 ≤ 4609434218613702656 := by
 have hm := Nat.mod_lt x (show 0 < 2 ^ 52 by decide)
 obtain ⟨u, hu⟩ : ∃ u, x % 2 ^ 52 = u := ⟨_, rfl⟩
 have hs : Rm.logSmall x = !(FloatKind.f64.format.order 0x3FE6A09E667F3BCD (u + 0x3FE0000000000000) == some .lt) := by unfold Rm.logSmall; rw [hu]
 rw [hu] at hm ⊢
 have hm' : u < P52 := hm
 have e1 : u + 0x3FE0000000000000 = (1021 + 1) * P52 + u := by unfold P52; omega
 have f1 : fv (u + 0x3FE0000000000000) = (P52 + u) * 2 ^ 1021 := by rw [e1]; exact fv_mk 1021 u hm'
 have e2 : u + 0x3FE0000000000000 + P52 = (1022 + 1) * P52 + u := by unfold P52; omega
 have f2 : fv (u + 0x3FE0000000000000 + P52) = (P52 + u) * 2 ^ 1022 := by rw [e2]; exact fv_mk 1022 u hm'
 rw [order_pos _ _ (by decide) (by unfold P52 INF at *; omega)] at hs
 have hlt : compare 0x3FE6A09E667F3BCD (u + 0x3FE0000000000000) = .lt ↔ 0x3FE6A09E667F3BCD < u + 0x3FE0000000000000 := Nat.compare_eq_lt
 by_cases hc : 0x3FE6A09E667F3BCD < u + 0x3FE0000000000000
 ·rw [hlt.2 hc] at hs
  have hs' : Rm.logSmall x = false := hs
  rw [hs', if_neg (by simp)]
  refine ⟨u + 0x3FE0000000000000, ?_, by unfold Hlf; omega, by unfold P52 at *; omega⟩
  rw [mul_pos_bits _ _ (by unfold P52 INF at *; omega) (by decide), fv_one]
  have := wordQ_scale (fv (u + 0x3FE0000000000000)) 1 (2 ^ 1074) (Nat.two_pow_pos _)
  rw [Nat.one_mul] at this
  rw [this, wordQ_fv _ (by unfold P52 INF at *; omega)]
 ·have hs' : Rm.logSmall x = true := by
   rw [hs]
   cases hcc : compare 0x3FE6A09E667F3BCD (u + 0x3FE0000000000000) with
   | lt => exact absurd (hlt.1 hcc) hc
   | eq => rfl
   | gt => rfl
  rw [hs', if_pos rfl]
  refine ⟨u + 0x3FE0000000000000 + P52, ?_, by unfold Hlf P52; omega, by unfold P52 at *; omega⟩
  rw [mul_pos_bits _ _ (by unfold P52 INF at *; omega) (by decide), fv_two]
  have h2 : wordQ (fv (u + 0x3FE0000000000000) * 2 ^ 1075) (2 ^ 1074) = wordQ (fv (u + 0x3FE0000000000000 + P52)) 1 := by
   refine wordQ_cross (Nat.two_pow_pos _) (by omega) ?_
   rw [f1, f2, Nat.mul_one, Nat.mul_assoc, Nat.mul_assoc, ← Nat.pow_add]
  rw [h2, wordQ_fv _ (by unfold P52 INF at *; omega)]
theorem add_lift (sm : Bool) : floatBits .add .f64 (if sm then 0x3FF0000000000000 else 0) 0x3FF0000000000000 = some (if sm then 4611686018427387904 else One) := by
 cases sm
 ·decide +kernel
 ·decide +kernel
def logTop (sm : Bool) : Option Nat :=
 (floatBits .sub .f64 (FloatKind.f64.nearest (Int.ofNat 0 - 0x3FE)) (if sm = true then 4607182418800017408 else 0)).bind fun k1 => (floatBits .mul .f64 k1 0x3FE62E42FEE00000).bind fun e1 => (floatBits .add .f64 e1 One).bind fun eh => floatBits .mul .f64 eh InvLn10
theorem log_low (sm : Bool) : (match logTop sm with | some th => decide (sv th / ((2 ^ 1074 : Nat) : Int) ≤ 0) | none => true) = true := by
 cases sm
 ·decide +kernel
 ·decide +kernel
theorem log10_ok (x l : Nat) (h0 : 0 < x) (h : x < INF) (hl : 1000 ≤ l) : ∃ L : Int, -400 ≤ L ∧ L ≤ 400 ∧
  (∀ {β : Type} (g : Int → Option β), ((math_Log10.f x).bind fun t374 => ((math_Floor.f t374).bind fun t375 => ((floatToIntVal .f64 t375 .i64).bind g))) = g L) ∧
  (P52 ≤ x → un (L - 2) l ≤ fv x * 10 ^ l) ∧ fv x * 10 ^ l < un (L + 8) l ∧ (x < P52 → L ≤ 0) := by
 have hE : x / 2 ^ 52 < 2047 := by rw [Nat.div_lt_iff_lt_mul (by decide)]; unfold INF at h; omega
 have hchk := logChk_at (x / 2 ^ 52) hE (Rm.logSmall x)
 obtain ⟨E, hEe⟩ : ∃ E, x / 2 ^ 52 = E := ⟨_, rfl⟩
 obtain ⟨sm, hsm⟩ : ∃ sm, Rm.logSmall x = sm := ⟨_, rfl⟩
 obtain ⟨f1, m1, m2, m3⟩ := f1_ok x
 obtain ⟨f, n1, n2⟩ := less_one f1 m2 m3
 rw [hEe] at hE hchk
 rw [hsm] at hchk m1
 unfold logChk at hchk
 have hK : Rm.logK x = FloatKind.f64.nearest (Int.ofNat E - 0x3FE) := by unfold Rm.logK; rw [hEe]
 rw [← hK] at hchk
 cases hk1 : floatBits .sub .f64 (Rm.logK x) (if sm = true then 4607182418800017408 else 0) with
 | none => rw [hk1] at hchk; exact absurd hchk (by simp)
 | some k1 =>
 rw [hk1] at hchk
 simp only [Bool.and_eq_true, decide_eq_true_eq] at hchk
 obtain ⟨⟨c1, c2⟩, hchk⟩ := hchk
 obtain ⟨e1, e3, p1, p2, p3, ptail⟩ := log_tail f k1 n2 ⟨c1, c2⟩
 rw [show floatBits .mul .f64 k1 Ln2Hi = some e1 from p1] at hchk
 simp only at hchk
 cases hel : floatBits .sub .f64 e1 One with
 | none => rw [hel] at hchk; exact absurd hchk (by simp)
 | some el =>
 cases heh : floatBits .add .f64 e1 One with
 | none => rw [hel, heh] at hchk; exact absurd hchk (by simp)
 | some eh =>
 rw [hel, heh] at hchk
 simp only at hchk
 cases htl : floatBits .mul .f64 el InvLn10 with
 | none => rw [htl] at hchk; exact absurd hchk (by simp)
 | some tl =>
 cases hth : floatBits .mul .f64 eh InvLn10 with
 | none => rw [htl, hth] at hchk; exact absurd hchk (by simp)
 | some th =>
 rw [htl, hth] at hchk
 simp only [Bool.and_eq_true, decide_eq_true_eq] at hchk
 obtain ⟨⟨d1, d2⟩, hfit⟩ := hchk
 have fe1 : e1 % P63 < INF := p2.fin (by decide)
 have fe3 : e3 % P63 < INF := p3.fin (by decide)
 have fOne : One % P63 < INF := by decide
 have fInv : InvLn10 % P63 < INF := by decide
 obtain ⟨e4, q1, q2, q3⟩ := sub_ab2 (h := 4658973814514778112) p2 p3 (by decide) (by decide) (by decide) (by decide +kernel)
 have fe4 : e4 % P63 < INF := q2.fin (by decide)
 obtain ⟨el', r1, _, _, r2⟩ := sub_res e1 One fe1 fOne
 obtain ⟨eh', r3, _, _, r4⟩ := add_res e1 One fe1 fOne
 obtain rfl : el' = el := Option.some.inj (r1.symm.trans hel)
 obtain rfl : eh' = eh := Option.some.inj (r3.symm.trans heh)
 have hs3 := p3.sv
 rw [fv_one] at hs3
 have b1 : sv el' ≤ sv e4 := by
  rw [r2, q3, sv_one]; refine rsv_mono _ _ 1 (by omega) ?_
  generalize (2 : Nat) ^ 1074 = W at hs3 ⊢
  omega
 have b2 : sv e4 ≤ sv eh' := by
  rw [r4, q3, sv_one]; refine rsv_mono _ _ 1 (by omega) ?_
  generalize (2 : Nat) ^ 1074 = W at hs3 ⊢
  omega
 obtain ⟨t, s1, s2, _, s3⟩ := mul_res e4 InvLn10 fe4 fInv
 obtain ⟨tl', s4, _, _, s5⟩ := mul_res el' InvLn10 d1 fInv
 obtain ⟨th', s6, _, _, s7⟩ := mul_res eh' InvLn10 d2 fInv
 obtain rfl : tl' = tl := Option.some.inj (s4.symm.trans htl)
 obtain rfl : th' = th := Option.some.inj (s6.symm.trans hth)
 have b3 : sv tl' ≤ sv t := by
  rw [s5, s3]; exact rsv_mono _ _ _ (Nat.two_pow_pos _) (Int.mul_le_mul_of_nonneg_right b1 sv_inv)
 have b4 : sv t ≤ sv th' := by
  rw [s7, s3]; exact rsv_mono _ _ _ (Nat.two_pow_pos _) (Int.mul_le_mul_of_nonneg_right b2 sv_inv)
 obtain ⟨t2, u1, ⟨u2, u3⟩, _⟩ := mul_ab (h := 4665729213955833856) q2 (Ab.self (x := InvLn10) (by decide)) (by decide) (by decide) (by decide) (by decide +kernel)
 have ht2 : t2 = t := Option.some.inj (u1.symm.trans s1)
 rw [ht2] at u3
 have ft : t % P63 < INF := Nat.lt_of_le_of_lt u3 (by decide)
 obtain ⟨D, hD⟩ : ∃ D : Nat, 2 ^ 1074 = D := ⟨_, rfl⟩
 have hD0 : 0 < D := by rw [← hD]; exact Nat.two_pow_pos _
 unfold logFits at hfit
 simp only [Bool.and_eq_true, Bool.or_eq_true, decide_eq_true_eq, beq_iff_eq] at hfit
 obtain ⟨⟨⟨v1, v2⟩, v3⟩, v4⟩ := hfit
 obtain ⟨Lh, hLh⟩ : ∃ Lh, sv th' / ((2 ^ 1074 : Nat) : Int) = Lh := ⟨_, rfl⟩
 obtain ⟨Ll, hLl⟩ : ∃ Ll, sv tl' / ((2 ^ 1074 : Nat) : Int) = Ll := ⟨_, rfl⟩
 obtain ⟨L, hL⟩ : ∃ L, sv t / ((2 ^ 1074 : Nat) : Int) = L := ⟨_, rfl⟩
 rw [hLh] at v2 v3
 rw [hLl] at v1 v4
 have hDi : (0 : Int) < ((2 ^ 1074 : Nat) : Int) := by rw [hD]; omega
 have l1 : Ll ≤ L := by rw [← hLl, ← hL]; exact Int.ediv_le_ediv hDi b3
 have l2 : L ≤ Lh := by rw [← hLh, ← hL]; exact Int.ediv_le_ediv hDi b4
 have habs : (sv t).natAbs ≤ 1048576 * 2 ^ 1074 := by
  have k1 := Int.emod_add_mul_ediv (sv t) ((2 ^ 1074 : Nat) : Int)
  have k2 := Int.emod_nonneg (sv t) (Int.ne_of_gt hDi)
  have k3 := Int.emod_lt_of_pos (sv t) hDi
  rw [hL] at k1
  rw [hD] at k1 k2 k3 ⊢
  have k4 : (-400 : Int) ≤ L := by omega
  have k5 : L ≤ 400 := by omega
  have k6 : (D : Int) * (-400) ≤ (D : Int) * L := Int.mul_le_mul_of_nonneg_left k4 (by omega)
  have k7 : (D : Int) * L ≤ (D : Int) * 400 := Int.mul_le_mul_of_nonneg_left k5 (by omega)
  omega
 obtain ⟨fr, w1, w2⟩ := floor_ok t s2 ft habs
 rw [hL] at w2
 refine ⟨L, by omega, by omega, ?_, ?_, ?_, ?_⟩
 ·intro β g
  have hlog : math_Log.f x = some e4 := by
   have ha : Rm.archLogP x = some e4 := by
    unfold Rm.archLogP
    rw [if_neg ?_]
    ·show Rm.logG (fun o a b => floatBits o .f64 a b) some (Rm.logSmall x) (Rm.logK x) x = some e4
     unfold Rm.logG
     dsimp only
     have hb : ∀ {α β : Type} (a : α) (g : α → Option β), (some a >>= g) = g a := fun a g => rfl
     rw [show Rm.logSmall x = sm from hsm]
     rw [show floatBits .sub .f64 (Rm.logK x) (if sm = true then 0x3FF0000000000000 else 0) = some k1 from hk1, hb, add_lift, hb, m1, hb, n1, hb, ptail, q1, hb]
    ·rintro (hh | hh | hh)
     ·have hz : x % 2 ^ 63 = 0 := beq_iff_eq.1 hh
      unfold INF at h; omega
     ·unfold INF at h; omega
     ·unfold INF at h; omega
   unfold math_Log.f
   rw [ha]; rfl
  have h10 : math_Log10.f x = some t := by
   unfold math_Log10.f math_log10.f
   rw [hlog, Option.bind_some, show floatBits .mul .f64 e4 4601495173785380110 = some t from s1]; rfl
  rw [h10, Option.bind_some, w1, Option.bind_some, w2, Option.bind_some]
 ·intro hx
  have hE0 : E ≠ 0 := by
   rw [← hEe]
   have : 1 ≤ x / 2 ^ 52 := (Nat.le_div_iff_mul_le (by decide)).2 (by unfold P52 at hx; omega)
   omega
  have v5 := v3.resolve_left hE0
  have hfv : 2 ^ (E + 51) ≤ fv x := by
   rw [fv_norm hx, show x / P52 = E from hEe, show E + 51 = 52 + (E - 1) by omega, Nat.pow_add]
   exact Nat.mul_le_mul_right _ (by show P52 ≤ _; omega)
  have hu := (un_iff (fv x) (Lh - 2) l (by omega)).1.2 (by
   rw [show -(Lh - 2) = 2 - Lh by omega]
   exact Nat.le_trans v5 (Nat.mul_le_mul_right _ hfv))
  exact Nat.le_trans (un_mono l (by omega)) hu
 ·have hfv : fv x < 2 ^ (E + 52) := by
   by_cases hx : P52 ≤ x
   ·have hE1 : 1 ≤ E := by rw [← hEe]; exact (Nat.le_div_iff_mul_le (by decide)).2 (by unfold P52 at hx; omega)
    rw [fv_norm hx, show x / P52 = E from hEe, show E + 52 = 53 + (E - 1) by omega, Nat.pow_add]
    refine Nat.mul_lt_mul_of_pos_right ?_ (Nat.two_pow_pos _)
    have := Nat.mod_lt x (show 0 < P52 by decide)
    have e : (2 : Nat) ^ 53 = 2 * P52 := by decide
    rw [e]; omega
   ·rw [fv_sub (by omega)]
    refine Nat.lt_of_lt_of_le (show x < 2 ^ 52 by unfold P52 at hx; omega) (Nat.pow_le_pow_right (by omega) (by omega))
  have hu := (un_iff (fv x) (Ll + 8) l (by omega)).2.2 (Nat.lt_of_lt_of_le (Nat.mul_lt_mul_of_pos_right hfv (Nat.pow_pos (by omega))) v4)
  exact Nat.lt_of_lt_of_le hu (un_mono l (by omega))
 ·intro hx
  have hE0 : E = 0 := by rw [← hEe]; exact Nat.div_eq_of_lt hx
  have h2 := log_low sm
  have e : logTop sm = some th' := by
   unfold logTop
   rw [hK, hE0] at hk1
   have hb : ∀ {α β : Type} (a : α) (g : α → Option β), (some a).bind g = g a := fun a g => rfl
   rw [hk1, hb, p1, hb, r3, hb, s6]
  rw [e] at h2
  have h3 : sv th' / ((2 ^ 1074 : Nat) : Int) ≤ 0 := of_decide_eq_true h2
  omega
end Go.Proofs.YtfmjdoofopamkaaGreatDoor.Plain
