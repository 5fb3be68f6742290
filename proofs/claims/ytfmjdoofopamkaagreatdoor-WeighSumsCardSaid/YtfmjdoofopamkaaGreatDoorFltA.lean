import Derived.Test.YtfmjdoofopamkaaGreatDoorFltN
namespace Go.Proofs.YtfmjdoofopamkaaGreatDoor.Plain
open Go.RowKit Go.Proofs.YtfmjdoofopamkaaGreatDoorW.PrintWords Go.Proofs.YtfmjdoofopamkaaGreatDoorW.PrintLast Go.Proofs.YtfmjdoofopamkaaGreatDoorW.PrintMore
set_option linter.unusedVariables false
set_option linter.unusedSimpArgs false
set_option exponentiation.threshold 3000
def rsv (S : Int) (D : Nat) : Int := if S < 0 then -(fv (wordQ S.natAbs D) : Int) else (fv (wordQ S.natAbs D) : Int)
def Res (o : Option Nat) (S : Int) (D : Nat) : Prop := ∃ r, o = some r ∧ r < 18446744073709551616 ∧ r % P63 = wordQ S.natAbs D ∧ sv r = rsv S D
theorem sum_num (s t : Bool) (m n i j : Nat) : ∃ neg : Bool, ∃ mag b : Nat, Ieee.Datum.sum (.number s m ((i : Nat) + (-1074 : Int))) (.number t n ((j : Nat) + (-1074 : Int))) = some (.number neg mag ((b : Nat) + (-1074 : Int))) ∧
  mag * 2 ^ b = ((if s then -((m * 2 ^ i : Nat) : Int) else ((m * 2 ^ i : Nat) : Int)) + (if t then -((n * 2 ^ j : Nat) : Int) else ((n * 2 ^ j : Nat) : Int))).natAbs ∧
  (mag ≠ 0 → (neg = true ↔ ((if s then -((m * 2 ^ i : Nat) : Int) else ((m * 2 ^ i : Nat) : Int)) + (if t then -((n * 2 ^ j : Nat) : Int) else ((n * 2 ^ j : Nat) : Int))) < 0)) := by
 obtain ⟨b, hb⟩ : ∃ b, min i j = b := ⟨_, rfl⟩
 have hbase : min ((i : Nat) + (-1074 : Int)) ((j : Nat) + (-1074 : Int)) = (b : Nat) + (-1074 : Int) := by omega
 have e1 : (((i : Nat) + (-1074 : Int)) - ((b : Nat) + (-1074 : Int))).toNat = i - b := by omega
 have e2 : (((j : Nat) + (-1074 : Int)) - ((b : Nat) + (-1074 : Int))).toNat = j - b := by omega
 unfold Ieee.Datum.sum
 simp only [hbase, e1, e2]
 obtain ⟨T, hT⟩ : ∃ T, Ieee.signed s m (i - b) + Ieee.signed t n (j - b) = T := ⟨_, rfl⟩
 rw [hT]
 have e3 : m * 2 ^ i = m * 2 ^ (i - b) * 2 ^ b := by rw [Nat.mul_assoc, ← Nat.pow_add]; congr 2; omega
 have e4 : n * 2 ^ j = n * 2 ^ (j - b) * 2 ^ b := by rw [Nat.mul_assoc, ← Nat.pow_add]; congr 2; omega
 have hS : ((if s then -((m * 2 ^ i : Nat) : Int) else ((m * 2 ^ i : Nat) : Int)) + (if t then -((n * 2 ^ j : Nat) : Int) else ((n * 2 ^ j : Nat) : Int))) = T * ((2 ^ b : Nat) : Int) := by
  rw [e3, e4, ← hT]
  unfold Ieee.signed
  simp only [Nat.shiftLeft_eq]
  generalize m * 2 ^ (i - b) = M
  generalize n * 2 ^ (j - b) = N
  generalize 2 ^ b = B
  rw [Int.add_mul]
  cases s <;> cases t <;> simp only [if_true, if_false, Bool.false_eq_true, Int.natCast_mul, Int.neg_mul]
 refine ⟨_, _, b, rfl, ?_, ?_⟩
 ·rw [hS, Int.natAbs_mul, Int.natAbs_natCast]
 ·intro hm
  rw [hS]
  have hB : (0 : Int) < ((2 ^ b : Nat) : Int) := by have := Nat.two_pow_pos b; omega
  have hT0 : T ≠ 0 := by intro h; exact hm (by rw [h]; rfl)
  rw [if_neg hT0, decide_eq_true_eq]
  constructor
  ·intro h
   have := Int.mul_lt_mul_of_pos_right h hB
   rwa [Int.zero_mul] at this
  ·intro h
   exact Int.lt_of_mul_lt_mul_right (by rwa [Int.zero_mul]) (Int.le_of_lt hB)
theorem sv_read (x m i : Nat) (e2 : fv (x % P63) = m * 2 ^ i) : sv x = if (x / P63 % 2 == 1) = true then -((m * 2 ^ i : Nat) : Int) else ((m * 2 ^ i : Nat) : Int) := by
 unfold sv; rw [e2]
def Ab (x h : Nat) : Prop := x < 18446744073709551616 ∧ x % P63 ≤ h
theorem Ab.fin {x h : Nat} (a : Ab x h) (hh : h < INF) : x % P63 < INF := Nat.lt_of_le_of_lt a.2 hh
theorem sv_abs (x : Nat) : (sv x).natAbs = fv (x % P63) := by unfold sv; cases (x / P63 % 2 == 1) <;> simp
theorem Ab.sv {x h : Nat} (a : Ab x h) : (sv x).natAbs ≤ fv h := by rw [sv_abs]; exact fv_le a.2
end Go.Proofs.YtfmjdoofopamkaaGreatDoor.Plain
