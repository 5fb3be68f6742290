import Derived.Test.YtfmjdoofopamkaaGreatDoorPlF
import Derived.Test.YtfmjdoofopamkaaGreatDoorPlA
import Derived.Test.YtfmjdoofopamkaaGreatDoorWx14
import Derived.Test.YtfmjdoofopamkaaGreatDoorWx15
import Derived.Test.YtfmjdoofopamkaaGreatDoorPlR
import Derived.Test.YtfmjdoofopamkaaGreatDoorWx16
import Derived.Test.YtfmjdoofopamkaaGreatDoorWx17
import Derived.Test.YtfmjdoofopamkaaGreatDoorWx18
namespace Go.Proofs.YtfmjdoofopamkaaGreatDoor.Plain
open Go.RowKit Go.Proofs.YtfmjdoofopamkaaGreatDoorW.PrintWords Go.Proofs.YtfmjdoofopamkaaGreatDoorW.PrintLast Go.Proofs.YtfmjdoofopamkaaGreatDoorW.PrintMore Go.Proofs.YtfmjdoofopamkaaGreatDoor.W
set_option linter.unusedVariables false
set_option linter.unusedSimpArgs false
abbrev B16 : Nat := 65536
theorem b16 : 2 ≤ B16 := by decide
def rl (n : Nat) : List Int := dl B16 n
theorem rl_zero : rl 0 = [] := dl_zero _
theorem rl_dig (n : Nat) : Dig B16 (rl n) := Dig.dl b16 n
theorem nv_rl (n : Nat) : nv B16 (rl n) = n := nv_dl b16 n
theorem rl_nv {l : List Int} (hd : Dig B16 l) (hn : Norm l) : rl (nv B16 l) = l := dl_nv b16 hd hn
theorem pow16 (k : Nat) : B16 ^ k = 2 ^ (16 * k) := by rw [show B16 = 2 ^ 16 from rfl, ← Nat.pow_mul]
theorem rl_len_of {n : Nat} (m : Nat) (h : bl n ≤ 16 * m) : (rl n).length ≤ m := by
 refine dl_len_le b16 ?_
 rw [pow16]
 exact Nat.lt_of_lt_of_le (lt_two_bl n) (Nat.pow_le_pow_right (by omega) h)
theorem rd_dig {x : List Int} (hd : Dig B16 x) (i : Nat) (hi : i < x.length) : ∃ R : Nat, rd x (i : Int) = (R : Int) ∧ R < 65536 := by
 have hr : 0 ≤ rd x (i : Int) ∧ rd x (i : Int) < 65536 := hd.rd i hi
 exact ⟨(rd x (i : Int)).toNat, by omega, by omega⟩
theorem succ_w (i : Nat) (h : i ≤ 4611686018427387904) : wrap64 ((i : Int) + 1) = ((i + 1 : Nat) : Int) := by rw [w64 (by omega) (by omega)]; omega
theorem dig_nat {n : Nat} (h : n < 65536) : (0 : Int) ≤ ((n : Nat) : Int) ∧ ((n : Nat) : Int) < ((B16 : Nat) : Int) := ⟨by omega, by show _ < (65536 : Int); omega⟩
theorem nv_snoc (B : Nat) (l : List Int) (d : Int) : nv B (l ++ [d]) = nv B l + B ^ l.length * d.toNat := by rw [nv_append]; simp [nv]
theorem rtrim_loop (l : List Int) (hd : Dig B16 l) (hl : l.length ≤ 4611686018427387904) : ∀ n : Nat, n ≤ l.length → Ev (fun k => endonymref2_trim.l0 k l (n : Int)) (rl (nv B16 (l.take n)))
 | 0, h => by
  refine Ev.step (f := fun _ => some []) (fun k => ?_) ?_
  ·rw [endonymref2_trim.l0, if_neg (by omega), if_pos (by omega), if_pos (by omega)]; simp
  ·have e : rl (nv B16 (l.take 0)) = [] := by rw [List.take_zero, nv, rl_zero]
   rw [e]; exact Ev.now _
 | n + 1, h => by
  obtain ⟨R, hR, hR2⟩ := rd_dig hd n (by omega)
  have hw : wrap64 (((n + 1 : Nat) : Int) - 1) = (n : Int) := by rw [w64 (by omega) (by omega)]; omega
  have hs : ∀ k, endonymref2_trim.l0 (k + 1) l ((n + 1 : Nat) : Int) = if rd l (n : Int) = 0 then endonymref2_trim.l0 k l (n : Int) else some (l.take (n + 1)) := by
   intro k
   rw [endonymref2_trim.l0, if_pos (by omega), hw, if_pos (by omega), if_pos (by omega)]
   by_cases h0 : rd l (n : Int) = 0
   ·rw [if_pos h0, if_pos h0]
   ·rw [if_neg h0, if_neg h0, if_pos (by omega), if_pos (by omega), Int.toNat_natCast]
  by_cases h0 : rd l (n : Int) = 0
  ·rw [nv_take_succ B16 l n (by omega), h0]
   have ih := rtrim_loop l hd hl n (by omega)
   have e : nv B16 (l.take n) + B16 ^ n * (0 : Int).toNat = nv B16 (l.take n) := by simp
   rw [e]
   exact Ev.step (fun k => by rw [hs k, if_pos h0]) ih
  ·have e : rl (nv B16 (l.take (n + 1))) = l.take (n + 1) := by
    refine rl_nv (hd.take _) ?_
    rw [take_rd l n (by omega)]
    simp [Norm, h0]
   rw [e]
   exact Ev.step (f := fun _ => some (l.take (n + 1))) (fun k => by rw [hs k, if_neg h0]) (Ev.now _)
theorem rtrim_ok {l : List Int} (hd : Dig B16 l) (hl : l.length ≤ 4611686018427387904) : Ev (fun k => endonymref2_trim.f k l) (rl (nv B16 l)) := by
 have h := rtrim_loop l hd hl l.length (Nat.le_refl _)
 rw [List.take_length] at h
 exact h
theorem and16 (m : Nat) (h : m < 18446744073709551616) : Go.bits .and .u64 (m : Int) 65535 = ((m % 65536 : Nat) : Int) := by
 have h1 := u64_and m 65535 (by omega) (by omega)
 refine h1.trans ?_
 rw [show 65535 = 2 ^ 16 - 1 from rfl, Nat.and_two_pow_sub_one_eq_mod]
theorem u32w {x : Int} (h0 : 0 ≤ x) (h1 : x ≤ 4294967295) : IntKind.u32.wrap x = x := by
 have e5 : IntKind.u32.wrap x = x % 4294967296 := rfl
 rw [e5]; omega
theorem and16' (m : Nat) (h : m < 4294967296) : Go.bits .and .u32 (m : Int) 65535 = ((m % 65536 : Nat) : Int) := by
 have h1 := (bits_nat .u32 32 (by decide) (fun n h0 h1 => u32w h0 (by omega)) m 65535 (by omega) (by omega)).1
 refine h1.trans ?_
 rw [show 65535 = 2 ^ 16 - 1 from rfl, Nat.and_two_pow_sub_one_eq_mod]
theorem of_loop : ∀ (m : Nat) (u : Nat) (acc : List Int), u < B16 ^ m → u < 18446744073709551616 → acc.length + m ≤ 1000 → Ev (fun k => endonymref2_Of.l0 k (u : Int) acc) (acc ++ rl u)
 | 0, u, acc, hu, h64, ha => by
  have h0 : u = 0 := by rw [Nat.pow_zero] at hu; omega
  subst h0
  rw [rl_zero, List.append_nil]
  exact Ev.step (f := fun _ => some acc) (fun k => by rw [endonymref2_Of.l0, if_neg (by omega)]) (Ev.now _)
 | m + 1, u, acc, hu, h64, ha => by
  by_cases h0 : u = 0
  ·subst h0
   rw [rl_zero, List.append_nil]
   exact Ev.step (f := fun _ => some acc) (fun k => by rw [endonymref2_Of.l0, if_neg (by omega)]) (Ev.now _)
  ·have hdiv : u / 65536 < B16 ^ m := Nat.div_lt_of_lt_mul (by rw [Nat.pow_succ, Nat.mul_comm] at hu; exact hu)
   have ih := of_loop m (u / 65536) (acc ++ [((u % 65536 : Nat) : Int)]) hdiv (by omega) (by rw [List.length_append, List.length_singleton]; omega)
   have e : acc ++ rl u = acc ++ [((u % 65536 : Nat) : Int)] ++ rl (u / 65536) := by
    rw [List.append_assoc]; congr 1
    exact dl_pos b16 h0
   rw [e]
   refine Ev.step (fun k => ?_) ih
   rw [endonymref2_Of.l0, if_pos (by omega), if_pos (by omega), and16 u h64]
   have e1 : ((u : Nat) : Int) / 65536 = ((u / 65536 : Nat) : Int) := by omega
   have e2 : ((u % 65536 : Nat) : Int) % 4294967296 = ((u % 65536 : Nat) : Int) := by omega
   rw [e1, e2]
theorem of_ok (u : Nat) (h : u < 18446744073709551616) : Ev (fun k => endonymref2_Of.f k (u : Int)) (rl u) :=
 of_loop 4 u [] (by rw [pow16]; exact h) h (by simp)
theorem times_carry : ∀ (m c : Nat) (out : List Int), c < B16 ^ m → m ≤ 2 → Dig B16 out → out.length + m ≤ 10000000 → Ev (fun k => endonymref2_Times.l1 k out (c : Int)) (rl (nv B16 out + B16 ^ out.length * c))
 | 0, c, out, hc, hm, hd, hl => by
  have h0 : c = 0 := by rw [Nat.pow_zero] at hc; omega
  subst h0
  have e : nv B16 out + B16 ^ out.length * 0 = nv B16 out := by rw [Nat.mul_zero, Nat.add_zero]
  rw [e]
  exact Ev.step (fun k => by rw [endonymref2_Times.l1, if_neg (by omega)]) (Ev.bind (rtrim_ok hd (by omega)) (Ev.now _))
 | m + 1, c, out, hc, hm, hd, hl => by
  by_cases h0 : c = 0
  ·subst h0
   have e : nv B16 out + B16 ^ out.length * 0 = nv B16 out := by rw [Nat.mul_zero, Nat.add_zero]
   rw [e]
   exact Ev.step (fun k => by rw [endonymref2_Times.l1, if_neg (by omega)]) (Ev.bind (rtrim_ok hd (by omega)) (Ev.now _))
  ·have hc32 : c < 4294967296 := Nat.lt_of_lt_of_le hc (Nat.le_trans (Nat.pow_le_pow_right (by decide) hm) (by decide))
   have hdiv : c / 65536 < B16 ^ m := Nat.div_lt_of_lt_mul (by rw [Nat.pow_succ, Nat.mul_comm] at hc; exact hc)
   have hdg := dig_nat (Nat.mod_lt c (show 0 < 65536 by omega))
   have ih := times_carry m (c / 65536) (out ++ [((c % 65536 : Nat) : Int)]) hdiv (by omega) (hd.append (Dig.cons hdg.1 hdg.2 (Dig.nil _))) (by rw [List.length_append, List.length_singleton]; omega)
   have e : nv B16 (out ++ [((c % 65536 : Nat) : Int)]) + B16 ^ (out ++ [((c % 65536 : Nat) : Int)]).length * (c / 65536) = nv B16 out + B16 ^ out.length * c := by
    rw [nv_snoc, List.length_append, List.length_singleton, Nat.pow_succ, Int.toNat_natCast, Nat.mul_assoc, Nat.add_assoc, ← Nat.mul_add]
    congr 2
    exact Nat.mod_add_div c 65536
   rw [e] at ih
   refine Ev.step (fun k => ?_) ih
   rw [endonymref2_Times.l1, if_pos (by omega), if_pos (by omega), and16' c hc32]
   rfl
theorem times_num (c R m : Nat) (hc : c < 65536) (hR : R < 65536) (hm : m < 65536) : c + R * m < 4294967296 ∧ (c + R * m) / 65536 < 65536 := by
 have h1 : R * m ≤ 65535 * 65535 := Nat.mul_le_mul (by omega) (by omega)
 omega
theorem rtimes_loop (l : List Int) (hd : Dig B16 l) (hl : l.length ≤ 1000000) (m : Nat) (hm : m < 65536) : ∀ (d i : Nat) (out : List Int) (c : Nat), i + d = l.length → out.length = i → Dig B16 out → c < 65536 →
  Ev (fun k => endonymref2_Times.l0 k l (m : Int) out (c : Int) (i : Int)) (rl (nv B16 out + B16 ^ i * (c + nv B16 (l.drop i) * m)))
 | 0, i, out, c, hi, ho, hdo, hc => by
  have e : l.drop i = [] := List.drop_eq_nil_of_le (by omega)
  have e2 : nv B16 out + B16 ^ i * (c + nv B16 (l.drop i) * m) = nv B16 out + B16 ^ out.length * c := by rw [e, nv, Nat.zero_mul, Nat.add_zero, ho]
  rw [e2]
  refine Ev.step (fun k => ?_) (times_carry 1 c out (by rw [Nat.pow_one]; exact hc) (by omega) hdo (by omega))
  rw [endonymref2_Times.l0, if_neg (by omega)]
 | d + 1, i, out, c, hi, ho, hdo, hc => by
  have hlt : i < l.length := by omega
  obtain ⟨R, hR, hR2⟩ := rd_dig hd i hlt
  obtain ⟨n1, n2⟩ := times_num c R m hc hR2 hm
  have hdg := dig_nat (Nat.mod_lt (c + R * m) (show 0 < 65536 by omega))
  have ih := rtimes_loop l hd hl m hm d (i + 1) (out ++ [(((c + R * m) % 65536 : Nat) : Int)]) ((c + R * m) / 65536) (by omega) (by rw [List.length_append, List.length_singleton, ho]) (hdo.append (Dig.cons hdg.1 hdg.2 (Dig.nil _))) n2
  have e : nv B16 (out ++ [(((c + R * m) % 65536 : Nat) : Int)]) + B16 ^ (i + 1) * ((c + R * m) / 65536 + nv B16 (l.drop (i + 1)) * m) = nv B16 out + B16 ^ i * (c + nv B16 (l.drop i) * m) := by
   rw [nv_snoc, ho, drop_rd l i hlt, nv, hR, Int.toNat_natCast, Int.toNat_natCast, Nat.pow_succ, Nat.mul_assoc, Nat.add_assoc, ← Nat.mul_add]
   congr 2
   obtain ⟨X, hX⟩ : ∃ X, nv B16 (l.drop (i + 1)) * m = X := ⟨_, rfl⟩
   obtain ⟨Y, hY⟩ : ∃ Y, R * m = Y := ⟨_, rfl⟩
   rw [Nat.add_mul, Nat.mul_assoc, hX, hY]
   show (c + Y) % 65536 + 65536 * ((c + Y) / 65536 + X) = c + (Y + 65536 * X)
   omega
  rw [e] at ih
  refine Ev.step (fun k => ?_) ih
  have e3 : ((c : Int) + (R : Int) * (m : Int)) % 4294967296 = ((c + R * m : Nat) : Int) := by
   rw [show ((c : Int) + (R : Int) * (m : Int)) = ((c + R * m : Nat) : Int) by rw [Int.natCast_add, Int.natCast_mul]]
   omega
  rw [endonymref2_Times.l0, if_pos (by omega), if_pos (by omega), if_pos (by omega), hR, e3, and16' _ n1, succ_w i (by omega)]
  rfl
theorem rtimes_ok (a m c : Nat) (ha : (rl a).length ≤ 1000000) (hm : m < 65536) (hc : c < 65536) : Ev (fun k => endonymref2_Times.f k (rl a) (m : Int) (c : Int)) (rl (a * m + c)) := by
 have h := rtimes_loop (rl a) (rl_dig a) ha m hm (rl a).length 0 [] c (by omega) rfl (Dig.nil _) hc
 rw [List.drop_zero, nv_rl, Nat.pow_zero, Nat.one_mul, nv, Nat.zero_add, Nat.add_comm] at h
 exact h
def cmpS (a b : Nat) : Int := if a < b then -1 else if b < a then 1 else 0
theorem rcmp_loop (a b : List Int) (hl : a.length = b.length) (hda : Dig B16 a) (hdb : Dig B16 b) (hb : a.length ≤ 4611686018427387904) : ∀ n : Nat, n ≤ a.length → a.drop n = b.drop n →
  Ev (fun k => endonymref2_Cmp.l0 k a b ((n : Int) - 1)) (cmpS (nv B16 a) (nv B16 b))
 | 0, h, he => by
  rw [List.drop_zero, List.drop_zero] at he
  rw [he]
  have e : cmpS (nv B16 b) (nv B16 b) = 0 := by unfold cmpS; rw [if_neg (Nat.lt_irrefl _), if_neg (Nat.lt_irrefl _)]
  rw [e]
  exact Ev.step (f := fun _ => some 0) (fun k => by rw [endonymref2_Cmp.l0, if_neg (by omega)]) (Ev.now _)
 | n + 1, h, he => by
  have hs : ∀ k, endonymref2_Cmp.l0 (k + 1) a b (((n + 1 : Nat) : Int) - 1) = if rd a (n : Int) < rd b (n : Int) then some (-1) else if rd a (n : Int) > rd b (n : Int) then some 1 else endonymref2_Cmp.l0 k a b ((n : Int) - 1) := by
   intro k
   rw [show ((n + 1 : Nat) : Int) - 1 = (n : Int) by omega, endonymref2_Cmp.l0, if_pos (by omega), if_pos (by omega), if_pos (by omega), if_pos (by omega), w64 (x := (n : Int) - 1) (by omega) (by omega)]
  by_cases h1 : rd a (n : Int) < rd b (n : Int)
  ·have hlt := cmp_at (B := B16) (by decide) a b hl hda hdb n (by omega) he h1
   have e : cmpS (nv B16 a) (nv B16 b) = -1 := by unfold cmpS; rw [if_pos hlt]
   rw [e]
   exact Ev.step (f := fun _ => some (-1)) (fun k => by rw [hs k, if_pos h1]) (Ev.now _)
  ·by_cases h2 : rd b (n : Int) < rd a (n : Int)
   ·have hlt := cmp_at (B := B16) (by decide) b a hl.symm hdb hda n (by omega) he.symm h2
    have e : cmpS (nv B16 a) (nv B16 b) = 1 := by unfold cmpS; rw [if_neg (by omega), if_pos hlt]
    rw [e]
    exact Ev.step (f := fun _ => some 1) (fun k => by rw [hs k, if_neg h1, if_pos (show rd a (n : Int) > rd b (n : Int) from h2)]) (Ev.now _)
   ·have e : a.drop n = b.drop n := by
     rw [drop_rd a n (by omega), drop_rd b n (by omega), he, show rd a (n : Int) = rd b (n : Int) by omega]
    exact Ev.step (fun k => by rw [hs k, if_neg h1, if_neg (show ¬ rd a (n : Int) > rd b (n : Int) from h2)]) (rcmp_loop a b hl hda hdb hb n (by omega) e)
theorem rcmp_ok (a b : Nat) (ha : (rl a).length ≤ 4611686018427387904) (hb : (rl b).length ≤ 4611686018427387904) : Ev (fun k => endonymref2_Cmp.f k (rl a) (rl b)) (cmpS a b) := by
 unfold endonymref2_Cmp.f
 by_cases h1 : (rl a).length = (rl b).length
 ·refine Ev.congr (fun k => by rw [if_pos (by omega), w64 (x := ((rl a).length : Int) - 1) (by omega) (by omega)]) ?_
  have h := rcmp_loop (rl a) (rl b) h1 (rl_dig a) (rl_dig b) ha (rl a).length (Nat.le_refl _) (by rw [List.drop_eq_nil_of_le (Nat.le_refl _), List.drop_eq_nil_of_le (by omega)])
  rw [nv_rl, nv_rl] at h
  exact h
 ·by_cases h2 : (rl a).length < (rl b).length
  ·have hlt := cmp_len b16 h2
   have e : cmpS a b = -1 := by unfold cmpS; rw [if_pos hlt]
   rw [e]
   exact Ev.congr (f := fun _ => some (-1)) (fun k => by rw [if_neg (by omega), if_pos (by omega)]) (Ev.now _)
  ·have hlt : b < a := cmp_len b16 (show (dl B16 b).length < (dl B16 a).length by show (rl b).length < (rl a).length; omega)
   have e : cmpS a b = 1 := by unfold cmpS; rw [if_neg (by omega), if_pos hlt]
   rw [e]
   exact Ev.congr (f := fun _ => some 1) (fun k => by rw [if_neg (by omega), if_neg (by omega)]) (Ev.now _)
end Go.Proofs.YtfmjdoofopamkaaGreatDoor.Plain
namespace Go.Proofs.YtfmjdoofopamkaaGreatDoor.Plain
open Go.RowKit Go.Proofs.YtfmjdoofopamkaaGreatDoorW.PrintWords Go.Proofs.YtfmjdoofopamkaaGreatDoorW.PrintLast Go.Proofs.YtfmjdoofopamkaaGreatDoorW.PrintMore
set_option linter.unusedVariables false
set_option linter.unusedSimpArgs false
set_option exponentiation.threshold 3000
theorem dl_shift {B : Nat} (hB : 2 ≤ B) (a : Nat) (ha : a ≠ 0) : ∀ k, dl B (B ^ k * a) = List.replicate k 0 ++ dl B a
 | 0 => by rw [Nat.pow_zero, Nat.one_mul]; rfl
 | k + 1 => by
  have hne : B ^ (k + 1) * a ≠ 0 := Nat.mul_ne_zero (Nat.ne_of_gt (Nat.pow_pos (by omega))) ha
  rw [dl_pos hB hne, Nat.pow_succ, Nat.mul_comm (B ^ k) B, Nat.mul_assoc, Nat.mul_mod_right, Nat.mul_div_cancel_left _ (by omega), dl_shift hB a ha k, List.replicate_succ]; rfl
def tr (p q u : Nat) : Nat := rne (p * 2 ^ 1074) (q * 2 ^ u)
theorem tr_at (p q : Nat) (x : Int) (hx : -1074 ≤ x) : rne (p * 2 ^ (-x).toNat) (q * 2 ^ x.toNat) = tr p q (x + 1074).toNat := by
 unfold tr
 rcases Int.le_total 0 x with h | h
 ·obtain ⟨n, rfl⟩ := Int.eq_ofNat_of_zero_le h
  rw [show (-(n : Int)).toNat = 0 by omega, Int.toNat_natCast, show ((n : Int) + 1074).toNat = n + 1074 by omega, Nat.pow_zero, Nat.mul_one, Nat.pow_add, ← Nat.mul_assoc, rne_scale _ _ _ (Nat.two_pow_pos 1074)]
 ·obtain ⟨d, hd⟩ := Int.eq_ofNat_of_zero_le (show 0 ≤ -x by omega)
  have e : 1074 = d + (x + 1074).toNat := by omega
  rw [hd, Int.toNat_natCast, show x.toNat = 0 by omega, Nat.pow_zero, Nat.mul_one]
  conv => rhs; rw [show (2 : Nat) ^ 1074 = 2 ^ d * 2 ^ (x + 1074).toNat by rw [← Nat.pow_add, ← e]]
  rw [← Nat.mul_assoc, rne_scale _ _ _ (Nat.two_pow_pos _)]
def u0 (p q : Nat) : Nat := bl p + 1074 - bl q - 53
theorem round_start (p q : Nat) (hp : p ≠ 0) (hq : q ≠ 0) : ulp (p * 2 ^ 1074) q = u0 p q ∨ (ulp (p * 2 ^ 1074) q = u0 p q + 1 ∧ 2 * P52 ≤ p * 2 ^ 1074 / (q * 2 ^ u0 p q)) := by
 have hP : p * 2 ^ 1074 ≠ 0 := Nat.mul_ne_zero hp (Nat.ne_of_gt (Nat.two_pow_pos _))
 have hbl : bl (p * 2 ^ 1074) = bl p + 1074 := bl_mul_pow hp 1074
 unfold ulp u0
 rw [← hbl]
 obtain ⟨P, hPe⟩ : ∃ P, p * 2 ^ 1074 = P := ⟨_, rfl⟩
 rw [hPe] at hP ⊢
 clear hbl hPe hp p
 have hq0 := Nat.pos_of_ne_zero hq
 have hP0 := two_bl_le hP
 have hP1 := lt_two_bl P
 have hq1 := lt_two_bl q
 have hq2 := two_bl_le hq
 have hbp := bl_pos hP
 have hbq := bl_pos hq
 by_cases hlt : P < q
 ·rw [Nat.div_eq_of_lt hlt]
  have := bl_mono (Nat.le_of_lt hlt)
  left; simp [bl] at *; omega
 ·have hle := bl_mono (Nat.not_lt.1 hlt)
  have hn0 : P / q ≠ 0 := by have := (Nat.le_div_iff_mul_le hq0).2 (show 1 * q ≤ P by omega); omega
  have hup : bl (P / q) ≤ bl P - bl q + 1 := by
   refine bl_le ?_
   rw [Nat.div_lt_iff_lt_mul hq0]
   have h1 : 2 ^ (bl P - bl q + 1) * 2 ^ (bl q - 1) ≤ 2 ^ (bl P - bl q + 1) * q := Nat.mul_le_mul_left _ hq2
   rw [← Nat.pow_add, show bl P - bl q + 1 + (bl q - 1) = bl P by omega] at h1
   omega
  by_cases hc : bl (P / q) = bl P - bl q + 1
  ·by_cases h53 : bl P - bl q < 53
   ·left; omega
   ·right
    refine ⟨by omega, ?_⟩
    rw [← Nat.div_div_eq_div_mul, Nat.le_div_iff_mul_le (Nat.two_pow_pos _)]
    have h3 := two_bl_le hn0
    have e : 2 * P52 * 2 ^ (bl P - bl q - 53) = 2 ^ (bl (P / q) - 1) := by
     rw [show 2 * P52 = 2 ^ 53 by decide, ← Nat.pow_add]; congr 1; omega
    omega
  ·left
   have hlo : bl P - bl q ≤ bl (P / q) := by
    refine Nat.not_lt.1 fun hcon => ?_
    have h1 : P / q < 2 ^ (bl P - bl q - 1) := Nat.lt_of_lt_of_le (lt_two_bl _) (Nat.pow_le_pow_right (by omega) (by omega))
    rw [Nat.div_lt_iff_lt_mul hq0] at h1
    have h2 : 2 ^ (bl P - bl q - 1) * q < 2 ^ (bl P - bl q - 1) * 2 ^ bl q := Nat.mul_lt_mul_of_pos_left hq1 (Nat.two_pow_pos _)
    rw [← Nat.pow_add, show bl P - bl q - 1 + bl q = bl P - 1 by omega] at h2
    omega
   omega
def Took (p q m u : Nat) : Prop := m ≤ 2 * P52 ∧ (u = 0 ∨ P52 ≤ m) ∧ wordQ (p * 2 ^ 1074) q = min (u * P52 + m) INF
theorem took_ulp (p q : Nat) : Took p q (tr p q (ulp (p * 2 ^ 1074) q)) (ulp (p * 2 ^ 1074) q) := ⟨(ulp_bounds _ _).1, (ulp_bounds _ _).2, rfl⟩
theorem took_first (p q : Nat) (hp : p ≠ 0) (hq : q ≠ 0) (h : tr p q (u0 p q) ≤ 2 * P52) : Took p q (tr p q (u0 p q)) (u0 p q) := by
 rcases round_start p q hp hq with e | ⟨e, hge⟩
 ·rw [← e]; exact took_ulp p q
 ·have h1 : p * 2 ^ 1074 / (q * 2 ^ u0 p q) ≤ tr p q (u0 p q) := rne_ge _ _
  have h2 : tr p q (u0 p q) = 2 * P52 := by omega
  have h3 := took_ulp p q
  obtain ⟨u, hu⟩ : ∃ u, u0 p q = u := ⟨_, rfl⟩
  rw [hu] at h1 h2 hge e ⊢
  rw [e] at h3
  obtain ⟨P, hP⟩ : ∃ P, p * 2 ^ 1074 = P := ⟨_, rfl⟩
  obtain ⟨Q, hQ⟩ : ∃ Q, q * 2 ^ u = Q := ⟨_, rfl⟩
  have hQ0 : 0 < Q := by rw [← hQ]; exact Nat.mul_pos (Nat.pos_of_ne_zero hq) (Nat.two_pow_pos u)
  have e2 : q * 2 ^ (u + 1) = 2 * Q := by rw [Nat.pow_succ, ← hQ, ← Nat.mul_assoc, Nat.mul_comm]
  have ht : tr p q (u + 1) = P52 := by
   unfold tr at h1 h2 ⊢
   rw [hP, e2]
   rw [hP, hQ] at h1 h2 hge
   have hd : P / Q = 2 * P52 := by omega
   have hdm := Nat.div_add_mod P Q
   have hml := Nat.mod_lt P hQ0
   obtain ⟨r, hr⟩ : ∃ r, P % Q = r := ⟨_, rfl⟩
   rw [hd, hr] at hdm
   rw [hr] at hml
   have h2r : 2 * r ≤ Q := by
    refine Nat.not_lt.1 fun hc => ?_
    unfold rne at h2
    rw [hr, hd, if_pos (.inl hc)] at h2
    omega
   have hP2 : P = 2 * Q * P52 + r := by
    rw [← hdm, Nat.mul_comm 2 Q, Nat.mul_assoc Q 2 P52]
   have hd2 : P / (2 * Q) = P52 := by rw [hP2, Nat.mul_add_div (by omega), Nat.div_eq_of_lt (by omega), Nat.add_zero]
   have hm2 : P % (2 * Q) = r := by rw [hP2, Nat.mul_add_mod, Nat.mod_eq_of_lt (by omega)]
   have hneg : ¬ (2 * Q < 2 * r ∨ (2 * Q = 2 * r ∧ P52 % 2 = 1)) := by rintro (h | ⟨h, _⟩) <;> omega
   unfold rne
   rw [hd2, hm2, if_neg hneg]
  rw [ht] at h3
  refine ⟨Nat.le_of_eq h2, .inr (by rw [h2]; decide), ?_⟩
  rw [h3.2.2, h2]
  have e5 : (u + 1) * P52 + P52 = u * P52 + 2 * P52 := by rw [Nat.add_mul, Nat.one_mul, Nat.add_assoc, ← Nat.two_mul]
  rw [e5]
theorem took_next (p q : Nat) (hp : p ≠ 0) (hq : q ≠ 0) (h : ¬ tr p q (u0 p q) ≤ 2 * P52) : Took p q (tr p q (u0 p q + 1)) (u0 p q + 1) := by
 rcases round_start p q hp hq with e | ⟨e, hge⟩
 ·have h3 := took_ulp p q
  rw [e] at h3
  exact absurd h3.1 h
 ·have h3 := took_ulp p q
  rw [e] at h3
  exact h3
theorem bl_le_iff (m : Nat) : bl m ≤ 53 ↔ m < 2 * P52 := by
 constructor
 ·intro h
  have h1 := lt_two_bl m
  have h2 : 2 ^ bl m ≤ 2 ^ 53 := Nat.pow_le_pow_right (by omega) h
  have h3 : 2 * P52 = 2 ^ 53 := by decide
  rw [h3]; exact Nat.lt_of_lt_of_le h1 h2
 ·intro h
  exact bl_le (k := 53) (by rw [show (2 : Nat) ^ 53 = 2 * P52 by decide]; exact h)
theorem took_over (p q m u : Nat) (h : Took p q m u) : (u + bl m ≤ 2098 → wordQ (p * 2 ^ 1074) q = u * P52 + m ∧ u * P52 + m < INF) ∧ (2098 < u + bl m → wordQ (p * 2 ^ 1074) q = INF) := by
 obtain ⟨h1, h2, h3⟩ := h
 have hc : (m < P52 ∧ u = 0 ∧ bl m ≤ 52) ∨ (P52 ≤ m ∧ m < 2 * P52 ∧ bl m = 53) ∨ (m = 2 * P52 ∧ bl m = 54) := by
  by_cases c1 : m < P52
  ·left; exact ⟨c1, by omega, bl_le (k := 52) (by rw [show (2 : Nat) ^ 52 = P52 by decide]; exact c1)⟩
  ·by_cases c2 : m < 2 * P52
   ·right; left
    exact ⟨by omega, c2, bl_eq (k := 52) (by rw [show (2 : Nat) ^ 52 = P52 by decide]; omega) (by rw [show (2 : Nat) ^ (52 + 1) = 2 * P52 by decide]; exact c2)⟩
   ·right; right
    have e : m = 2 * P52 := by omega
    exact ⟨e, by rw [e]; decide⟩
 have hI : INF = 2047 * P52 := by decide
 rw [h3, hI]
 have hP : 0 < P52 := by decide
 constructor
 ·intro hs
  have hlt : u * P52 + m < 2047 * P52 := by
   rcases hc with ⟨c1, c2, c3⟩ | ⟨c1, c2, c3⟩ | ⟨c1, c3⟩
   ·subst c2; unfold P52 at *; omega
   ·unfold P52 at *; omega
   ·unfold P52 at *; omega
  exact ⟨Nat.min_eq_left (Nat.le_of_lt hlt), hlt⟩
 ·intro hs
  refine Nat.min_eq_right ?_
  rcases hc with ⟨c1, c2, c3⟩ | ⟨c1, c2, c3⟩ | ⟨c1, c3⟩
  ·omega
  ·unfold P52 at *; omega
  ·unfold P52 at *; omega
end Go.Proofs.YtfmjdoofopamkaaGreatDoor.Plain
namespace Go.Proofs.YtfmjdoofopamkaaGreatDoor.Plain
open Go.RowKit Go.Proofs.YtfmjdoofopamkaaGreatDoorW.PrintWords Go.Proofs.YtfmjdoofopamkaaGreatDoorW.PrintLast Go.Proofs.YtfmjdoofopamkaaGreatDoorW.PrintMore Go.Proofs.YtfmjdoofopamkaaGreatDoor.W
set_option linter.unusedVariables false
set_option linter.unusedSimpArgs false
theorem bl_half {n : Nat} (h : n ≠ 0) : bl n = bl (n / 2) + 1 := by
 have h1 := bl_div_pow n 1
 rw [Nat.pow_one] at h1
 have h2 := bl_pos h
 omega
theorem rlen_loop : ∀ (m n c : Nat), n < 2 ^ m → c + m ≤ 1000000000 → Ev (fun k => endonymref2_Length.l0 k (c : Int) (n : Int)) (((c + bl n : Nat)) : Int)
 | 0, n, c, h, hc => by
  have h0 : n = 0 := by rw [Nat.pow_zero] at h; omega
  subst h0
  exact Ev.step (f := fun _ => some (c : Int)) (fun k => by rw [endonymref2_Length.l0, if_neg (by omega)]) (Ev.now _)
 | m + 1, n, c, h, hc => by
  by_cases h0 : n = 0
  ·subst h0
   exact Ev.step (f := fun _ => some (c : Int)) (fun k => by rw [endonymref2_Length.l0, if_neg (by omega)]) (Ev.now _)
  ·have ih := rlen_loop m (n / 2) (c + 1) (by rw [Nat.pow_succ] at h; omega) (by omega)
   rw [show c + 1 + bl (n / 2) = c + bl n by rw [bl_half h0]; omega] at ih
   refine Ev.step (fun k => ?_) ih
   rw [endonymref2_Length.l0, if_pos (by omega), succ_w c (by omega)]
   rfl
theorem rl_top (a m : Nat) (hm : (rl a).length = m + 1) : rd (rl a) (m : Int) ≠ 0 := by
 have hn := dl_norm b16 a
 intro e
 apply hn
 rw [List.getLast?_eq_getElem?]
 show (rl a)[(rl a).length - 1]? = some 0
 rw [hm, Nat.add_sub_cancel, List.getElem?_eq_getElem (by omega), ← rd_nat _ _ (by omega), e]
theorem rl_len_pos {a : Nat} (h : a ≠ 0) : 1 ≤ (rl a).length := by
 have := dl_ne b16 h
 exact List.length_pos_iff.2 this
theorem rlength_ok (a : Nat) (ha : (rl a).length ≤ 10000000) : Ev (fun k => endonymref2_Length.f k (rl a)) ((bl a : Nat) : Int) := by
 unfold endonymref2_Length.f
 by_cases h0 : a = 0
 ·subst h0
  exact Ev.congr (f := fun _ => some 0) (fun k => by rw [rl_zero, if_pos (by simp)]) (Ev.now _)
 ·have hp := rl_len_pos h0
  obtain ⟨m, hm⟩ : ∃ m, (rl a).length = m + 1 := ⟨(rl a).length - 1, by omega⟩
  have hw : wrap64 (((rl a).length : Int) - 1) = (m : Int) := by rw [w64] <;> omega
  obtain ⟨R, hR, hR2⟩ := rd_dig (rl_dig a) m (by omega)
  have hb := bl_top (B := B16) (j := 16) rfl m (rl a) hm (rl_dig a) (rl_top a m hm)
  rw [nv_rl, hR, Int.toNat_natCast] at hb
  have h := rlen_loop 16 R (16 * m) hR2 (by omega)
  rw [← hb] at h
  refine Ev.congr (fun k => ?_) h
  rw [if_neg (by omega), hw, if_pos (by omega), if_pos (by omega), hR, w64 (x := 16 * (m : Int)) (by omega) (by omega)]
  rfl
theorem shl_one (r : Nat) (hr : r < 32) : shl .u32 1 (IntKind.u64.wrap (r : Int)) = ((2 ^ r : Nat) : Int) := by
 unfold shl
 rw [wu64 (x := (r : Int)) (by omega) (by omega), Int.toNat_natCast]
 have e : min r IntKind.u32.bits = r := by show min r 32 = r; omega
 rw [e, Int.one_mul]
 have h : (2 : Nat) ^ r ≤ 2 ^ 31 := Nat.pow_le_pow_right (by omega) (by omega)
 have h2 : (2 : Int) ^ r = ((2 ^ r : Nat) : Int) := (Int.natCast_pow 2 r).symm
 rw [h2]
 obtain ⟨W, hW⟩ : ∃ W, (2 : Nat) ^ r = W := ⟨_, rfl⟩
 rw [hW] at h ⊢
 clear h2 e
 exact u32w (by omega) (by omega)
theorem rl_bl (a : Nat) (h : bl a ≤ 16000000) : (rl a).length ≤ 1000000 := rl_len_of 1000000 (by omega)
theorem rleft_ok (a n : Nat) (ha : bl a ≤ 8000000) (hn : n ≤ 8000000) : Ev (fun k => endonymref2_Left.f k (rl a) (n : Int)) (rl (a * 2 ^ n)) := by
 unfold endonymref2_Left.f
 by_cases h0 : a = 0
 ·subst h0
  rw [Nat.zero_mul, rl_zero]
  exact Ev.congr (f := fun _ => some []) (fun k => by rw [if_pos (by simp)]) (Ev.now _)
 ·have hp := rl_len_pos h0
  have hla := rl_bl a (by omega)
  have e1 : wrap64 (Int.tdiv (n : Int) 16) = ((n / 16 : Nat) : Int) := by rw [Int.tdiv_eq_ediv_of_nonneg (by omega), w64 (by omega) (by omega)]; omega
  have e2 : Int.tmod (n : Int) 16 = ((n % 16 : Nat) : Int) := by rw [Int.tmod_eq_emod_of_nonneg (by omega)]; omega
  have hpw : (2 : Nat) ^ (n % 16) ≤ 2 ^ 15 := Nat.pow_le_pow_right (by omega) (by omega)
  have ht := rtimes_ok a (2 ^ (n % 16)) 0 hla (by omega) (by omega)
  rw [Nat.add_zero] at ht
  have hbl2 := bl_mul_le a (n % 16)
  have hl2 := rl_bl (a * 2 ^ (n % 16)) (by omega)
  have ha2 : a * 2 ^ (n % 16) ≠ 0 := Nat.mul_ne_zero h0 (Nat.ne_of_gt (Nat.two_pow_pos _))
  have e3 : List.replicate (n / 16) (0 : Int) ++ rl (a * 2 ^ (n % 16)) = rl (a * 2 ^ n) := by
   have h := dl_shift b16 (a * 2 ^ (n % 16)) ha2 (n / 16)
   rw [pow16, Nat.mul_left_comm, ← Nat.pow_add, show 16 * (n / 16) + n % 16 = n by omega] at h
   exact h.symm
  refine Ev.congr (f := fun k => (endonymref2_Times.f k (rl a) ((2 ^ (n % 16) : Nat) : Int) ((0 : Nat) : Int)).bind fun t256 => (if (List.replicate (n / 16) (0 : Int)).length + t256.length < 35184372088832 then (some (List.replicate (n / 16) (0 : Int) ++ t256)) else (none))) (fun k => ?_) (Ev.bind ht ?_)
  ·rw [if_neg (by omega), e1, if_pos (by omega), if_pos (by omega), Option.bind_some, e2, if_pos (by rw [wu64 (by omega) (by omega)]; omega), shl_one _ (by omega), Int.toNat_natCast]
   rfl
  ·refine Ev.congr (f := fun _ => some (rl (a * 2 ^ n))) (fun k => ?_) (Ev.now _)
   rw [if_pos (by rw [List.length_replicate]; omega), e3]
theorem and_one (R : Nat) (hR : R < 4294967296) : Go.bits .and .u32 (R : Int) 1 = ((R % 2 : Nat) : Int) := by
 have h1 := (bits_nat .u32 32 (by decide) (fun n h0 h1 => u32w h0 (by omega)) R 1 (by omega) (by omega)).1
 refine h1.trans ?_
 rw [show 1 = 2 ^ 1 - 1 from rfl, Nat.and_two_pow_sub_one_eq_mod]
theorem half_or (R S : Nat) (hR : R < 65536) : Go.bits .or .u32 ((R / 2 : Nat) : Int) ((((S % 2 : Nat) : Int) * 32768) % 4294967296) = ((R / 2 + 32768 * (S % 2) : Nat) : Int) := by
 have e : (((S % 2 : Nat) : Int) * 32768) % 4294967296 = ((S % 2 * 32768 : Nat) : Int) := by omega
 rw [e]
 have h := u32_or_add (h := ((R / 2 : Nat) : Int)) (l := ((S % 2 * 32768 : Nat) : Int)) 15 (by omega) (by omega) (by omega) (by omega) (by omega) (by omega)
 rw [h]; omega
theorem half_loop (l : List Int) (hd : Dig B16 l) (hl : l.length ≤ 10000000) (b0 : Nat) : ∀ (m i : Nat) (p : List Int), i + m = l.length → p.length = i → Dig B16 p →
  2 * nv B16 p + b0 = nv B16 (l.take i) + B16 ^ i * ((rd l (i : Int)).toNat % 2) → b0 < 2 → Ev (fun k => endonymref2_half.l0 k l (p ++ List.replicate m 0) (i : Int)) (rl (nv B16 l / 2))
 | 0, i, p, hi, hp, hdp, hv, hb => by
  have ho : rd l (i : Int) = 0 := rd_out l i (by omega)
  rw [ho, List.take_of_length_le (by omega)] at hv
  have e : nv B16 p = nv B16 l / 2 := by
   have : B16 ^ i * ((0 : Int).toNat % 2) = 0 := by simp
   rw [this] at hv; omega
  have ht := rtrim_ok (l := p) hdp (by omega)
  rw [e] at ht
  refine Ev.step (fun k => ?_) (Ev.bind ht (Ev.now _))
  rw [List.replicate_zero, List.append_nil, endonymref2_half.l0, if_neg (by omega)]
 | m + 1, i, p, hi, hp, hdp, hv, hb => by
  have hil : i < l.length := by omega
  obtain ⟨R, hR, hR2⟩ := rd_dig hd i hil
  have hS : ∃ S : Nat, rd l ((i + 1 : Nat) : Int) = (S : Int) ∧ S < 65536 := by
   by_cases h1 : i + 1 < l.length
   ·exact rd_dig hd (i + 1) h1
   ·exact ⟨0, rd_out l (i + 1) (by omega), by omega⟩
  obtain ⟨S, hS, hS2⟩ := hS
  have hdl : R / 2 + 32768 * (S % 2) < 65536 := by omega
  have hdg := dig_nat hdl
  have hv' : 2 * nv B16 (p ++ [((R / 2 + 32768 * (S % 2) : Nat) : Int)]) + b0 = nv B16 (l.take (i + 1)) + B16 ^ (i + 1) * ((rd l ((i + 1 : Nat) : Int)).toNat % 2) := by
   rw [nv_snoc, hp, nv_take_any, hS, hR, Int.toNat_natCast, Int.toNat_natCast, Int.toNat_natCast, Nat.pow_succ]
   rw [hR, Int.toNat_natCast] at hv
   obtain ⟨P, hP⟩ : ∃ P, B16 ^ i = P := ⟨_, rfl⟩
   rw [hP] at hv ⊢
   have e1 : P * R = 2 * (P * (R / 2)) + P * (R % 2) := by rw [← Nat.mul_assoc, Nat.mul_comm 2 P, Nat.mul_assoc, ← Nat.mul_add]; congr 1; omega
   have e2 : P * B16 * (S % 2) = 2 * (P * (32768 * (S % 2))) := by
    rw [Nat.mul_assoc, Nat.mul_left_comm 2 P]; congr 1
    show 65536 * (S % 2) = _; omega
   simp only [Nat.mul_add]
   rw [e1, e2]
   omega
  have ih := half_loop l hd hl b0 m (i + 1) (p ++ [((R / 2 + 32768 * (S % 2) : Nat) : Int)]) (by omega) (by rw [List.length_append, List.length_singleton, hp]) (hdp.append (Dig.cons hdg.1 hdg.2 (Dig.nil _))) hv' hb
  refine Ev.step (fun k => ?_) ih
  have hlen : ((p ++ List.replicate (m + 1) (0 : Int)).length : Int) = l.length := by rw [List.length_append, List.length_replicate]; omega
  have eR : (R : Int) / 2 = ((R / 2 : Nat) : Int) := by omega
  have eset : (p ++ List.replicate (m + 1) (0 : Int)).set i ((R / 2 : Nat) : Int) = p ++ ((R / 2 : Nat) : Int) :: List.replicate m 0 := by rw [List.replicate_succ, set_mid p 0 _ _ i hp.symm]
  rw [endonymref2_half.l0, if_pos (by omega), if_pos (by omega), if_pos (by omega), Option.bind_some, hR, eR, Int.toNat_natCast, eset, succ_w i (by omega)]
  have erd : rd (p ++ ((R / 2 : Nat) : Int) :: List.replicate m 0) (i : Int) = ((R / 2 : Nat) : Int) := rd_mid p _ _ _ (by omega)
  by_cases h1 : i + 1 < l.length
  ·rw [if_pos (by omega), if_pos (by omega), hS, and_one S (by omega), erd, half_or R S hR2, set_mid p _ _ _ i hp.symm, List.append_assoc]
   rfl
  ·have hz : S = 0 := by have := rd_out l (i + 1) (by omega); rw [hS] at this; omega
   subst hz
   rw [if_neg (by omega), List.append_assoc]
   rfl
theorem half_rok (a : Nat) (ha : (rl a).length ≤ 10000000) : Ev (fun k => endonymref2_half.f k (rl a)) (rl (a / 2)) := by
 have h := half_loop (rl a) (rl_dig a) ha ((rd (rl a) ((0 : Nat) : Int)).toNat % 2) (rl a).length 0 [] (by omega) rfl (Dig.nil _) (by simp [nv]) (by omega)
 rw [nv_rl] at h
 unfold endonymref2_half.f
 refine Ev.congr (fun k => ?_) h
 rw [if_pos (by omega), if_pos (by omega), Int.toNat_natCast]
 rfl
theorem and_step (V : Nat) (hV : V < 131072) : Go.bits .and .u32 ((V : Int) % 4294967296) 65535 = ((V % 65536 : Nat) : Int) ∧ ((V : Int) % 4294967296) / 65536 = ((V / 65536 : Nat) : Int) := by
 have e : (V : Int) % 4294967296 = (V : Int) := by omega
 rw [e]
 exact ⟨and16' V (by omega), by omega⟩
theorem nv_take_len (l : List Int) (i : Nat) (h : l.length ≤ i) : l.take i = l := List.take_of_length_le h
theorem plus_step (k : Nat) (a b : List Int) (out : List Int) (c i R S : Nat) (hda : Dig B16 a) (hdb : Dig B16 b) (hi : i < a.length ∨ i < b.length) (hil : i ≤ 10000000) (ho : out.length ≤ 10000000)
  (hR : rd a (i : Int) = (R : Int)) (hR2 : R < 65536) (hS : rd b (i : Int) = (S : Int)) (hS2 : S < 65536) (hc : c ≤ 1) :
  endonymref2_Plus.l0 (k + 2) a b out (c : Int) (i : Int) = endonymref2_Plus.l0 k a b (out ++ [(((c + R + S) % 65536 : Nat) : Int)]) (((c + R + S) / 65536 : Nat) : Int) ((i + 1 : Nat) : Int) := by
 have hj : endonymref2_Plus.l0 (k + 2) a b out (c : Int) (i : Int) = endonymref2_Plus.j1 (k + 1) a b out (c : Int) (i : Int) true := by
  rw [endonymref2_Plus.l0]
  by_cases h1 : i < a.length
  ·rw [if_pos (by omega)]
  ·rw [if_neg (by omega), decide_eq_true (by omega)]
 rw [hj, endonymref2_Plus.j1, if_pos rfl, succ_w i (by omega)]
 obtain ⟨s1, s2⟩ := and_step (c + R + S) (by omega)
 by_cases h1 : i < a.length
 ·by_cases h2 : i < b.length
  ·have e : (c : Int) + (R : Int) + (S : Int) = ((c + R + S : Nat) : Int) := by omega
   rw [if_pos (by omega), if_pos (by omega), if_pos (by omega), if_pos (by omega), hR, hS, e, s1, s2]
  ·have hz : S = 0 := by have := rd_out b i (by omega); rw [hS] at this; omega
   subst hz
   have e : (c : Int) + (R : Int) = ((c + R + 0 : Nat) : Int) := by omega
   rw [if_pos (by omega), if_pos (by omega), if_neg (by omega), if_pos (by omega), hR, e, s1, s2]
 ·have hz : R = 0 := by have := rd_out a i (by omega); rw [hR] at this; omega
  subst hz
  have e : (c : Int) + (S : Int) = ((c + 0 + S : Nat) : Int) := by omega
  rw [if_neg (by omega), if_pos (by omega), if_pos (by omega), if_pos (by omega), hS, e, s1, s2]
theorem rd_any {l : List Int} (hd : Dig B16 l) (i : Nat) : ∃ R : Nat, rd l (i : Int) = (R : Int) ∧ R < 65536 := by
 by_cases h : i < l.length
 ·exact rd_dig hd i h
 ·exact ⟨0, rd_out l i (by omega), by omega⟩
theorem plus_loop (a b : List Int) (hda : Dig B16 a) (hdb : Dig B16 b) (hna : Norm a) (hnb : Norm b) (hla : a.length ≤ 1000000) (hlb : b.length ≤ 1000000) : ∀ (m i : Nat) (out : List Int) (c : Nat), i + m = max a.length b.length → out.length = i → Dig B16 out → c ≤ 1 →
  nv B16 out + B16 ^ i * c = nv B16 (a.take i) + nv B16 (b.take i) → Ev (fun k => endonymref2_Plus.l0 k a b out (c : Int) (i : Int)) (rl (nv B16 a + nv B16 b))
 | 0, i, out, c, hi, ho, hdo, hc, hv => by
  rw [nv_take_len a i (by omega), nv_take_len b i (by omega)] at hv
  have hend : ∀ k, endonymref2_Plus.l0 (k + 2) a b out (c : Int) (i : Int) = if c = 0 then some out else some (out ++ [(c : Int)]) := by
   intro k
   rw [endonymref2_Plus.l0, if_neg (by omega), decide_eq_false (by omega), endonymref2_Plus.j1, if_neg (by simp)]
   by_cases h0 : c = 0
   ·rw [if_neg (by omega), if_pos h0]
   ·rw [if_pos (by omega), if_pos (by omega), if_neg h0]
  have e : (if c = 0 then out else out ++ [(c : Int)]) = rl (nv B16 a + nv B16 b) := by
   by_cases h0 : c = 0
   ·subst h0
    rw [if_pos rfl, ← hv, Nat.mul_zero, Nat.add_zero]
    refine (rl_nv hdo ?_).symm
    intro hlast
    rcases last_cases out with rfl | ⟨t, d, rfl⟩
    ·simp at hlast
    ·have hd0 : d = 0 := by simpa using hlast
     subst hd0
     rw [nv_snoc_zero, Nat.mul_zero, Nat.add_zero] at hv
     have hdt : Dig B16 t := hdo.left
     have hlt := nv_lt (B := B16) (by decide) hdt
     rw [List.length_append, List.length_singleton] at ho
     have big : ∀ l : List Int, Dig B16 l → Norm l → l.length = i → B16 ^ t.length ≤ nv B16 l := by
      intro l hdl hnl hll
      have h1 := dl_nv b16 hdl hnl
      have h2 : nv B16 l ≠ 0 := nv_pos b16 hdl hnl (by rintro rfl; simp at hll; omega)
      have h3 := dl_len_ge b16 h2
      rw [h1, hll] at h3
      rwa [show t.length = i - 1 by omega]
     rcases Nat.le_total a.length b.length with h | h
     ·have := big b hdb hnb (by omega); omega
     ·have := big a hda hna (by omega); omega
   ·have h1 : c = 1 := by omega
    subst h1
    rw [if_neg (by omega), ← hv]
    have hdg := dig_nat (show 1 < 65536 by omega)
    have h2 := rl_nv (hdo.append (Dig.cons hdg.1 hdg.2 (Dig.nil _))) (by simp [Norm])
    rw [nv_snoc, ho, Int.toNat_natCast] at h2
    exact h2.symm
  rw [← e]
  refine ⟨2, fun k hk => ?_⟩
  obtain ⟨j, rfl⟩ : ∃ j, k = j + 2 := ⟨k - 2, by omega⟩
  show endonymref2_Plus.l0 (j + 2) a b out (c : Int) (i : Int) = _
  rw [hend j]
  split <;> rfl
 | m + 1, i, out, c, hi, ho, hdo, hc, hv => by
  obtain ⟨R, hR, hR2⟩ := rd_any hda i
  obtain ⟨S, hS, hS2⟩ := rd_any hdb i
  have hdg := dig_nat (Nat.mod_lt (c + R + S) (show 0 < 65536 by omega))
  have hv' : nv B16 (out ++ [(((c + R + S) % 65536 : Nat) : Int)]) + B16 ^ (i + 1) * ((c + R + S) / 65536) = nv B16 (a.take (i + 1)) + nv B16 (b.take (i + 1)) := by
   rw [nv_snoc, ho, nv_take_any, nv_take_any, hR, hS, Int.toNat_natCast, Int.toNat_natCast, Int.toNat_natCast, Nat.pow_succ]
   obtain ⟨P, hP⟩ : ∃ P, B16 ^ i = P := ⟨_, rfl⟩
   rw [hP] at hv ⊢
   have e1 : P * ((c + R + S) % 65536) + P * B16 * ((c + R + S) / 65536) = P * c + P * R + P * S := by
    rw [Nat.mul_assoc, ← Nat.mul_add, ← Nat.mul_add, ← Nat.mul_add]; congr 1
    exact Nat.mod_add_div _ 65536
   omega
  have ih := plus_loop a b hda hdb hna hnb hla hlb m (i + 1) (out ++ [(((c + R + S) % 65536 : Nat) : Int)]) ((c + R + S) / 65536) (by omega) (by rw [List.length_append, List.length_singleton, ho]) (hdo.append (Dig.cons hdg.1 hdg.2 (Dig.nil _))) (by omega) hv'
  obtain ⟨K, hK⟩ := ih
  refine ⟨K + 2, fun k hk => ?_⟩
  obtain ⟨j, rfl⟩ : ∃ j, k = j + 2 := ⟨k - 2, by omega⟩
  have := plus_step j a b out c i R S hda hdb (by omega) (by omega) (by omega) hR hR2 hS hS2 hc
  show endonymref2_Plus.l0 (j + 2) a b out (c : Int) (i : Int) = _
  rw [this]
  exact hK j (by omega)
theorem rl_norm (a : Nat) : Norm (rl a) := dl_norm b16 a
theorem rplus_ok (a b : Nat) (ha : (rl a).length ≤ 1000000) (hb : (rl b).length ≤ 1000000) : Ev (fun k => endonymref2_Plus.f k (rl a) (rl b)) (rl (a + b)) := by
 have h := plus_loop (rl a) (rl b) (rl_dig a) (rl_dig b) (rl_norm a) (rl_norm b) ha hb (max (rl a).length (rl b).length) 0 [] 0 (by omega) rfl (Dig.nil _) (by omega) (by simp [nv])
 rw [nv_rl, nv_rl] at h
 exact h
theorem lessd (R S c : Nat) (hR : R < 65536) (hS : S < 65536) (hc : c ≤ 1) : ∃ d e : Nat, d < 65536 ∧ e ≤ 1 ∧ R + 65536 * e = d + S + c ∧ (if S + c ≤ R then e = 0 ∧ ((R : Int) - ((c : Int) + (S : Int))) % 4294967296 = (d : Int) else e = 1 ∧ (((R : Int) + 65536) - ((c : Int) + (S : Int))) % 4294967296 = (d : Int)) := by
 by_cases h : S + c ≤ R
 ·exact ⟨R - (S + c), 0, by omega, by omega, by omega, by rw [if_pos h]; exact ⟨rfl, by omega⟩⟩
 ·exact ⟨R + 65536 - (S + c), 1, by omega, by omega, by omega, by rw [if_neg h]; exact ⟨rfl, by omega⟩⟩
theorem rless_loop (a b : List Int) (hda : Dig B16 a) (hdb : Dig B16 b) (hla : a.length ≤ 1000000) (hbl : b.length ≤ a.length) (hle : nv B16 b ≤ nv B16 a) : ∀ (m i : Nat) (out : List Int) (c : Nat), i + m = a.length → out.length = i → Dig B16 out → c ≤ 1 →
  nv B16 (a.take i) + B16 ^ i * c = nv B16 out + nv B16 (b.take i) → Ev (fun k => endonymref2_Less.l0 k a b out (c : Int) (i : Int)) (rl (nv B16 a - nv B16 b))
 | 0, i, out, c, hi, ho, hdo, hc, hv => by
  rw [nv_take_len a i (by omega), nv_take_len b i (by omega)] at hv
  have hlt := nv_lt (B := B16) (by decide) hdo
  rw [ho] at hlt
  have e : nv B16 out = nv B16 a - nv B16 b := by
   have : c = 0 ∨ c = 1 := by omega
   rcases this with rfl | rfl
   ·simp at hv; omega
   ·simp at hv; omega
  have ht := rtrim_ok hdo (by omega)
  rw [e] at ht
  refine Ev.step (fun k => ?_) (Ev.bind ht (Ev.now _))
  rw [endonymref2_Less.l0, if_neg (by omega)]
 | m + 1, i, out, c, hi, ho, hdo, hc, hv => by
  obtain ⟨R, hR, hR2⟩ := rd_any hda i
  obtain ⟨S, hS, hS2⟩ := rd_any hdb i
  obtain ⟨d, e, hd1, he1, hde, hif⟩ := lessd R S c hR2 hS2 hc
  have hdg := dig_nat hd1
  have hv' : nv B16 (a.take (i + 1)) + B16 ^ (i + 1) * e = nv B16 (out ++ [(d : Int)]) + nv B16 (b.take (i + 1)) := by
   rw [nv_snoc, ho, nv_take_any, nv_take_any, hR, hS, Int.toNat_natCast, Int.toNat_natCast, Int.toNat_natCast, Nat.pow_succ]
   obtain ⟨P, hP⟩ : ∃ P, B16 ^ i = P := ⟨_, rfl⟩
   rw [hP] at hv ⊢
   have e1 : P * R + P * B16 * e = P * d + P * S + P * c := by
    rw [Nat.mul_assoc, ← Nat.mul_add, ← Nat.mul_add, ← Nat.mul_add]; congr 1
   omega
  have ih := rless_loop a b hda hdb hla hbl hle m (i + 1) (out ++ [(d : Int)]) e (by omega) (by rw [List.length_append, List.length_singleton, ho]) (hdo.append (Dig.cons hdg.1 hdg.2 (Dig.nil _))) he1 hv'
  refine Ev.step (fun k => ?_) ih
  rw [endonymref2_Less.l0, if_pos (by omega), succ_w i (by omega)]
  by_cases h2 : i < b.length
  ·rw [if_pos (by omega), if_pos (by omega), hR, hS, show ((c : Int) + (S : Int)) % 4294967296 = (c : Int) + (S : Int) by omega]
   by_cases h3 : S + c ≤ R
   ·rw [if_pos h3] at hif
    rw [if_pos (by omega), if_pos (by omega), hif.2, hif.1]; rfl
   ·rw [if_neg h3] at hif
    rw [if_neg (by omega), if_pos (by omega), hif.2, hif.1]; rfl
  ·have hz : S = 0 := by have := rd_out b i (by omega); rw [hS] at this; omega
   subst hz
   have e0 : (c : Int) + ((0 : Nat) : Int) = (c : Int) := by omega
   rw [e0] at hif
   rw [if_neg (by omega), if_pos (by omega), hR]
   by_cases h3 : 0 + c ≤ R
   ·rw [if_pos h3] at hif
    rw [if_pos (by omega), if_pos (by omega), hif.2, hif.1]; rfl
   ·rw [if_neg h3] at hif
    rw [if_neg (by omega), if_pos (by omega), hif.2, hif.1]; rfl
theorem rl_len_mono {a b : Nat} (h : b ≤ a) : (rl b).length ≤ (rl a).length := by
 by_cases hc : (rl b).length ≤ (rl a).length
 ·exact hc
 ·have := cmp_len (B := B16) b16 (a := a) (b := b) (by unfold rl at hc; omega); omega
theorem rless_ok (a b : Nat) (ha : (rl a).length ≤ 1000000) (h : b ≤ a) : Ev (fun k => endonymref2_Less.f k (rl a) (rl b)) (rl (a - b)) := by
 have hl := rless_loop (rl a) (rl b) (rl_dig a) (rl_dig b) ha (rl_len_mono h) (by rw [nv_rl, nv_rl]; exact h) (rl a).length 0 [] 0 (by omega) rfl (Dig.nil _) (by omega) (by simp [nv])
 rw [nv_rl, nv_rl] at hl
 exact hl
theorem rover_loop (b : Nat) (hb : b ≠ 0) : ∀ (m a Q : Nat), bl b + m ≤ 4000000 → bl Q + m ≤ 4000000 → bl a ≤ 4000000 → a < b * 2 ^ m →
  Ev (fun k => endonymref2_Over.l0 k (rl a) (rl Q) (rl (b * 2 ^ m / 2)) ((m : Int) - 1)) (rl (Q * 2 ^ m + a / b), rl (a % b))
 | 0, a, Q, hbm, hQ, ha, hlt => by
  rw [Nat.pow_zero, Nat.mul_one] at hlt
  simp only [Nat.pow_zero, Nat.mul_one]
  rw [Nat.div_eq_of_lt hlt, Nat.mod_eq_of_lt hlt, Nat.add_zero]
  have ht := rtrim_ok (rl_dig Q) (by have := rl_bl Q (by omega); omega)
  rw [nv_rl] at ht
  refine Ev.step (f := fun k => (endonymref2_trim.f k (rl Q)).bind fun t323 => some (t323, rl a)) (fun k => ?_) (Ev.bind ht (Ev.now _))
  rw [endonymref2_Over.l0, if_neg (by omega)]
 | m + 1, a, Q, hbm, hQ, ha, hlt => by
  have ed : b * 2 ^ (m + 1) / 2 = b * 2 ^ m := by rw [Nat.pow_succ, ← Nat.mul_assoc, Nat.mul_div_cancel _ (by omega)]
  rw [ed]
  have hbm2 := bl_mul_le b m
  have hbm3 := bl_mul_le b (m + 1)
  have hQ2 := bl_mul_le Q 1
  rw [Nat.pow_one] at hQ2
  have t1 := rtimes_ok Q 2 0 (rl_bl Q (by omega)) (by omega) (by omega)
  rw [Nat.add_zero] at t1
  have lD := rl_bl (b * 2 ^ m) (by omega)
  have lA := rl_bl a (by omega)
  have t2 := rcmp_ok a (b * 2 ^ m) (by omega) (by omega)
  have t3 := half_rok (b * 2 ^ m) (by omega)
  have hw : wrap64 (((m + 1 : Nat) : Int) - 1 - 1) = (m : Int) - 1 := by rw [w64 (by omega) (by omega)]; omega
  by_cases hge : b * 2 ^ m ≤ a
  ·have t4 := rless_ok a (b * 2 ^ m) (by omega) hge
   have t5 := of_ok 1 (by omega)
   have t6 := rplus_ok (Q * 2) 1 (rl_bl _ (by omega)) (rl_bl 1 (by decide))
   have hb1 : bl (Q * 2 + 1) ≤ bl Q + 1 := by
    refine bl_le ?_
    have := lt_two_bl Q
    rw [Nat.pow_succ]; omega
   have ih := rover_loop b hb m (a - b * 2 ^ m) (Q * 2 + 1) (by omega) (by omega) (Nat.le_trans (bl_mono (Nat.sub_le _ _)) ha) (by
    rw [Nat.pow_succ, ← Nat.mul_assoc] at hlt; omega)
   have e1 : a = a - b * 2 ^ m + b * 2 ^ m := by omega
   have e2 : (Q * 2 + 1) * 2 ^ m + (a - b * 2 ^ m) / b = Q * 2 ^ (m + 1) + a / b := by
    conv => rhs; rw [e1, Nat.add_mul_div_left _ _ (Nat.pos_of_ne_zero hb), Nat.pow_succ]
    rw [Nat.add_mul, Nat.one_mul, Nat.mul_assoc, Nat.mul_comm 2]; omega
   have e3 : (a - b * 2 ^ m) % b = a % b := by conv => rhs; rw [e1, Nat.add_mul_mod_self_left]
   rw [e2, e3] at ih
   refine Ev.step (f := fun k => (endonymref2_Times.f k (rl Q) ((2 : Nat) : Int) ((0 : Nat) : Int)).bind fun t326 => ((endonymref2_Cmp.f k (rl a) (rl (b * 2 ^ m))).bind fun t329 => (if t329 ≥ 0 then ((endonymref2_Less.f k (rl a) (rl (b * 2 ^ m))).bind fun t330 => ((endonymref2_Of.f k ((1 : Nat) : Int)).bind fun t333 => ((endonymref2_Plus.f k t326 t333).bind fun t336 => ((endonymref2_half.f k (rl (b * 2 ^ m))).bind fun t339 => (endonymref2_Over.l0 k t330 t336 t339 ((m : Int) - 1)))))) else ((endonymref2_half.f k (rl (b * 2 ^ m))).bind fun t342 => (endonymref2_Over.l0 k (rl a) t326 t342 ((m : Int) - 1)))))) (fun k => ?_) ?_
   ·rw [endonymref2_Over.l0, if_pos (by omega), hw]; rfl
   ·refine Ev.bind t1 (Ev.bind t2 ?_)
    have hc : cmpS a (b * 2 ^ m) ≥ 0 := by unfold cmpS; rw [if_neg (by omega)]; split <;> omega
    refine Ev.congr (fun k => by rw [if_pos hc]) (Ev.bind t4 (Ev.bind t5 (Ev.bind t6 (Ev.bind t3 ih))))
  ·have ih := rover_loop b hb m a (Q * 2) (by omega) (by omega) ha (by omega)
   have e2 : Q * 2 * 2 ^ m + a / b = Q * 2 ^ (m + 1) + a / b := by rw [Nat.pow_succ, Nat.mul_assoc, Nat.mul_comm 2]
   rw [e2] at ih
   refine Ev.step (f := fun k => (endonymref2_Times.f k (rl Q) ((2 : Nat) : Int) ((0 : Nat) : Int)).bind fun t326 => ((endonymref2_Cmp.f k (rl a) (rl (b * 2 ^ m))).bind fun t329 => (if t329 ≥ 0 then ((endonymref2_Less.f k (rl a) (rl (b * 2 ^ m))).bind fun t330 => ((endonymref2_Of.f k ((1 : Nat) : Int)).bind fun t333 => ((endonymref2_Plus.f k t326 t333).bind fun t336 => ((endonymref2_half.f k (rl (b * 2 ^ m))).bind fun t339 => (endonymref2_Over.l0 k t330 t336 t339 ((m : Int) - 1)))))) else ((endonymref2_half.f k (rl (b * 2 ^ m))).bind fun t342 => (endonymref2_Over.l0 k (rl a) t326 t342 ((m : Int) - 1)))))) (fun k => ?_) ?_
   ·rw [endonymref2_Over.l0, if_pos (by omega), hw]; rfl
   ·refine Ev.bind t1 (Ev.bind t2 ?_)
    have hc : ¬ cmpS a (b * 2 ^ m) ≥ 0 := by unfold cmpS; rw [if_pos (by omega)]; omega
    refine Ev.congr (fun k => by rw [if_neg hc]) (Ev.bind t3 ih)
theorem rover_ok (a b : Nat) (hb : b ≠ 0) (ha : bl a ≤ 1000000) (hbb : bl b ≤ 1000000) : Ev (fun k => endonymref2_Over.f k (rl a) (rl b)) (rl (a / b), rl (a % b)) := by
 unfold endonymref2_Over.f
 refine Ev.bind (rlength_ok a (by have := rl_bl a (by omega); omega)) (Ev.bind (rlength_ok b (by have := rl_bl b (by omega); omega)) ?_)
 rw [w64 (x := ((bl a : Nat) : Int) - ((bl b : Nat) : Int)) (by omega) (by omega)]
 by_cases h : bl a < bl b
 ·have hlt := lt_of_bl h
  rw [Nat.div_eq_of_lt hlt, Nat.mod_eq_of_lt hlt, rl_zero]
  exact Ev.congr (f := fun _ => some ([], rl a)) (fun k => by rw [if_pos (by omega)]) (Ev.now _)
 ·obtain ⟨n, hn⟩ : ∃ n : Nat, bl a = bl b + n := ⟨bl a - bl b, by omega⟩
  have hbn := bl_mul_pow hb n
  have e : b * 2 ^ (n + 1) / 2 = b * 2 ^ n := by rw [Nat.pow_succ, ← Nat.mul_assoc, Nat.mul_div_cancel _ (by omega)]
  have hlt : a < b * 2 ^ (n + 1) := by
   refine lt_of_bl ?_
   rw [bl_mul_pow hb]; omega
  have hl := rover_loop b hb (n + 1) a 0 (by omega) (by simp [bl]; omega) (by omega) hlt
  rw [e, Nat.zero_mul, Nat.zero_add, rl_zero] at hl
  refine Ev.congr (fun k => by rw [if_neg (by omega), show ((bl a : Nat) : Int) - ((bl b : Nat) : Int) = (n : Int) by omega]) (Ev.bind (rleft_ok b n (by omega) (by omega)) ?_)
  rw [show (n : Int) = ((n + 1 : Nat) : Int) - 1 by omega]
  exact hl
theorem rbit_ok (a : Nat) : endonymref2_Bit.f (rl a) 0 = some (decide (a % 2 = 1)) := by
 unfold endonymref2_Bit.f
 have e1 : wrap64 (Int.tdiv 0 16) = 0 := by rw [show Int.tdiv 0 16 = 0 from rfl]; exact w64 (by omega) (by omega)
 have e2 : IntKind.u64.wrap (Int.tmod 0 16) = 0 := by rw [show Int.tmod 0 16 = 0 from rfl]; exact wu64 (by omega) (by omega)
 rw [if_pos (by omega), e1, e2]
 by_cases h0 : a = 0
 ·subst h0; rw [rl_zero, if_neg (by simp)]; rfl
 ·have hp := rl_len_pos h0
  obtain ⟨R, hR, hR2⟩ := rd_dig (rl_dig a) 0 (by omega)
  have hR' : rd (rl a) 0 = (R : Int) := hR
  rw [if_pos (by omega), if_pos (by omega), if_pos (by omega), hR']
  have e3 : shr .u32 (R : Int) 0 = (R : Int) := by unfold shr; simp
  rw [e3, and_one R (by omega)]
  have e4 : a % 2 = R % 2 := by
   have h1 := dl_pos b16 h0
   have h2 : rd (rl a) 0 = ((a % B16 : Nat) : Int) := by show rd (dl B16 a) 0 = _; rw [h1]; rfl
   rw [hR'] at h2
   have h3 : R = a % 65536 := by have := h2; simp only [B16] at this; omega
   omega
  rw [e4]
  congr 1
  rw [Bool.eq_iff_iff, beq_iff_eq, decide_eq_true_iff]
  omega
end Go.Proofs.YtfmjdoofopamkaaGreatDoor.Plain
namespace Go.Proofs.YtfmjdoofopamkaaGreatDoor.Plain
open Go.RowKit Go.Proofs.YtfmjdoofopamkaaGreatDoorW.PrintWords Go.Proofs.YtfmjdoofopamkaaGreatDoorW.PrintLast Go.Proofs.YtfmjdoofopamkaaGreatDoorW.PrintMore Go.Proofs.YtfmjdoofopamkaaGreatDoor.W
set_option linter.unusedVariables false
set_option linter.unusedSimpArgs false
set_option exponentiation.threshold 3000
theorem val_or (V R i : Nat) (hi : i < 4) (hV : V < 2 ^ (16 * i)) (hR : R < 65536) : Go.bits .or .u64 (V : Int) (shl .u64 (IntKind.u64.wrap (R : Int)) (IntKind.u64.wrap (((16 * i : Nat)) : Int))) = ((V + 2 ^ (16 * i) * R : Nat) : Int) ∧ V + 2 ^ (16 * i) * R < 18446744073709551616 := by
 have hlt : V + 2 ^ (16 * i) * R < 2 ^ (16 * i) * 65536 := by
  have h1 : 2 ^ (16 * i) * (R + 1) ≤ 2 ^ (16 * i) * 65536 := Nat.mul_le_mul_left _ (by omega)
  rw [Nat.mul_add] at h1
  omega
 have hle : 2 ^ (16 * i) * 65536 ≤ 18446744073709551616 := by
  have h1 : (2 : Nat) ^ (16 * i) ≤ 2 ^ 48 := Nat.pow_le_pow_right (by omega) (by omega)
  omega
 have e1 : shl .u64 (IntKind.u64.wrap (R : Int)) (IntKind.u64.wrap (((16 * i : Nat)) : Int)) = ((2 ^ (16 * i) * R : Nat) : Int) := by
  unfold shl
  rw [wu64 (x := (R : Int)) (by omega) (by omega), wu64 (x := ((16 * i : Nat) : Int)) (by omega) (by omega), Int.toNat_natCast]
  have e : min (16 * i) IntKind.u64.bits = 16 * i := by show min (16 * i) 64 = 16 * i; omega
  rw [e]
  have e2 : (R : Int) * 2 ^ (16 * i) = ((2 ^ (16 * i) * R : Nat) : Int) := by
   rw [Int.natCast_mul, Int.natCast_pow, Int.mul_comm]; rfl
  rw [e2]
  exact wu64 (by omega) (by omega)
 rw [e1, u64_or _ _ (by omega) (by omega)]
 refine ⟨?_, by omega⟩
 congr 1
 rw [Nat.or_comm, ← Nat.two_pow_add_eq_or_of_lt hV, Nat.add_comm]
theorem value_loop (l : List Int) (hd : Dig B16 l) (hl : l.length ≤ 4) : ∀ (m i : Nat), i + m = l.length → Ev (fun k => endonymref2_value.l0 k l ((nv B16 (l.take i) : Nat) : Int) (i : Int)) ((nv B16 l : Nat) : Int)
 | 0, i, hi => by
  rw [nv_take_len l i (by omega)]
  exact Ev.step (f := fun _ => some ((nv B16 l : Nat) : Int)) (fun k => by rw [endonymref2_value.l0, if_neg (by omega)]) (Ev.now _)
 | m + 1, i, hi => by
  obtain ⟨R, hR, hR2⟩ := rd_dig hd i (by omega)
  have hlt := nv_lt (B := B16) (by decide) (hd.take i)
  rw [List.length_take, Nat.min_eq_left (by omega), pow16] at hlt
  obtain ⟨h1, h2⟩ := val_or (nv B16 (l.take i)) R i (by omega) hlt hR2
  have ih := value_loop l hd hl m (i + 1) (by omega)
  rw [nv_take_succ B16 l i (by omega), hR, Int.toNat_natCast, pow16] at ih
  refine Ev.step (fun k => ?_) ih
  rw [endonymref2_value.l0, if_pos (by omega), if_pos (by omega), if_pos (by omega), show wrap64 (16 * (i : Int)) = ((16 * i : Nat) : Int) by rw [w64 (by omega) (by omega)]; omega, if_pos (by rw [wu64 (by omega) (by omega)]; omega), hR, h1, succ_w i (by omega)]
theorem value_ok (a : Nat) (ha : a < 18446744073709551616) : Ev (fun k => endonymref2_value.f k (rl a)) ((a : Nat) : Int) := by
 have hl : (rl a).length ≤ 4 := dl_len_le b16 (show a < B16 ^ 4 by rw [pow16]; exact ha)
 have h := value_loop (rl a) (rl_dig a) hl (rl a).length 0 (by omega)
 rw [nv_rl] at h
 exact h
theorem and_mant (m : Nat) (h : m < 18446744073709551616) : Go.bits .and .u64 (m : Int) 4503599627370495 = ((m % P52 : Nat) : Int) := by
 have h1 := u64_and m 4503599627370495 (by omega) (by omega)
 refine h1.trans ?_
 rw [show 4503599627370495 = 2 ^ 52 - 1 from rfl, Nat.and_two_pow_sub_one_eq_mod]
theorem or_mant (e m : Nat) (hm : m < P52) (he : e < 4096) : Go.bits .or .u64 ((e * P52 : Nat) : Int) (m : Int) = ((e * P52 + m : Nat) : Int) := by
 rw [u64_or _ _ (by unfold P52; omega) (by unfold P52 at hm; omega)]
 congr 1
 have := Nat.two_pow_add_eq_or_of_lt (i := 52) (b := m) hm e
 rw [← show 2 ^ 52 * e = e * P52 by rw [Nat.mul_comm]]
 exact this.symm
theorem pack_end (m u : Nat) (h1 : P52 ≤ m) (h2 : m < 2 * P52) (hu : u ≤ 2046) : Ev (fun k => endonymref2_pack.l0 k (rl m) ((u : Int) - 1074)) (((u * P52 + m : Nat)) : Int) := by
 have hb : bl m = 53 := bl_eq (k := 52) (by rw [show (2 : Nat) ^ 52 = P52 by decide]; exact h1) (by rw [show (2 : Nat) ^ (52 + 1) = 2 * P52 by decide]; exact h2)
 have hm0 : m ≠ 0 := by unfold P52 at h1; omega
 have hlp := rl_len_pos hm0
 have hl := rlength_ok m (by have := rl_bl m (by omega); omega)
 rw [hb] at hl
 refine Ev.step (f := fun k => (endonymref2_Length.f k (rl m)).bind fun t382 => (if t382 > 53 then ((endonymref2_half.f k (rl m)).bind fun t383 => (endonymref2_pack.l0 k t383 (wrap64 ((u : Int) - 1074 + 1)))) else (if ((rl m).length : Int) = 0 then (some 0) else (endonymref2_pack.l1 k (rl m) ((u : Int) - 1074))))) (fun k => by rw [endonymref2_pack.l0]) (Ev.bind hl ?_)
 refine Ev.congr (fun k => by rw [if_neg (by omega), if_neg (by omega)]) ?_
 refine Ev.step (f := fun k => (endonymref2_Length.f k (rl m)).bind fun t386 => (if t386 < 53 then (if (u : Int) - 1074 > (-1074) then ((endonymref2_Left.f k (rl m) 1).bind fun t387 => (endonymref2_pack.l1 k t387 (wrap64 ((u : Int) - 1074 - 1)))) else (endonymref2_pack.j2 k (rl m) ((u : Int) - 1074))) else (endonymref2_pack.j2 k (rl m) ((u : Int) - 1074)))) (fun k => by rw [endonymref2_pack.l1]) (Ev.bind hl ?_)
 refine Ev.congr (fun k => by rw [if_neg (by omega)]) ?_
 have hv := value_ok m (by unfold P52 at h2; omega)
 refine Ev.step (f := fun k => (endonymref2_Length.f k (rl m)).bind fun t390 => (if t390 < 53 then ((endonymref2_value.f k (rl m)).bind fun t391 => (some t391)) else ((endonymref2_value.f k (rl m)).bind fun t392 => (some (Go.bits .or .u64 (IntKind.u64.wrap ((IntKind.u64.wrap (wrap64 ((u : Int) - 1074 + 1075))) * 4503599627370496)) (Go.bits .and .u64 t392 4503599627370495)))))) (fun k => by rw [endonymref2_pack.j2]) (Ev.bind hl ?_)
 refine Ev.congr (fun k => by rw [if_neg (by omega)]) (Ev.bind hv ?_)
 have e1 : IntKind.u64.wrap ((IntKind.u64.wrap (wrap64 ((u : Int) - 1074 + 1075))) * 4503599627370496) = (((u + 1) * P52 : Nat) : Int) := by
  rw [w64 (by omega) (by omega), wu64 (x := (u : Int) - 1074 + 1075) (by omega) (by omega), wu64 (by omega) (by omega)]
  unfold P52; omega
 have e2 : m % P52 = m - P52 := by unfold P52 at *; omega
 refine Ev.congr (f := fun _ => some (((u * P52 + m : Nat)) : Int)) (fun k => ?_) (Ev.now _)
 rw [e1, and_mant m (by unfold P52 at h2; omega), or_mant (u + 1) (m % P52) (Nat.mod_lt _ (by decide)) (by omega), e2]
 have e4 : (u + 1) * P52 + (m - P52) = u * P52 + m := by rw [Nat.add_mul, Nat.one_mul, Nat.add_assoc, Nat.add_sub_cancel' h1]
 rw [e4]
theorem pack_ok (m u : Nat) (h1 : m ≤ 2 * P52) (h2 : u = 0 ∨ P52 ≤ m) (h3 : u + bl m ≤ 2098) : Ev (fun k => endonymref2_pack.f k (rl m) ((u : Int) - 1074)) (((u * P52 + m : Nat)) : Int) := by
 show Ev (fun k => endonymref2_pack.l0 k (rl m) ((u : Int) - 1074)) _
 by_cases c1 : m < P52
 ·have hu : u = 0 := by omega
  subst hu
  have hb : bl m ≤ 52 := bl_le (k := 52) (by rw [show (2 : Nat) ^ 52 = P52 by decide]; exact c1)
  have hl := rlength_ok m (by have := rl_bl m (by omega); omega)
  refine Ev.step (f := fun k => (endonymref2_Length.f k (rl m)).bind fun t382 => (if t382 > 53 then ((endonymref2_half.f k (rl m)).bind fun t383 => (endonymref2_pack.l0 k t383 (wrap64 (((0 : Nat) : Int) - 1074 + 1)))) else (if ((rl m).length : Int) = 0 then (some 0) else (endonymref2_pack.l1 k (rl m) (((0 : Nat) : Int) - 1074))))) (fun k => by rw [endonymref2_pack.l0]) (Ev.bind hl ?_)
  refine Ev.congr (fun k => by rw [if_neg (by omega)]) ?_
  rw [Nat.zero_mul, Nat.zero_add]
  by_cases h0 : m = 0
  ·subst h0
   rw [rl_zero]
   exact Ev.congr (f := fun _ => some 0) (fun k => by rw [if_pos (by simp)]) (Ev.now _)
  ·have hlp := rl_len_pos h0
   refine Ev.congr (fun k => by rw [if_neg (by omega)]) ?_
   refine Ev.step (f := fun k => (endonymref2_Length.f k (rl m)).bind fun t386 => (if t386 < 53 then (if ((0 : Nat) : Int) - 1074 > (-1074) then ((endonymref2_Left.f k (rl m) 1).bind fun t387 => (endonymref2_pack.l1 k t387 (wrap64 (((0 : Nat) : Int) - 1074 - 1)))) else (endonymref2_pack.j2 k (rl m) (((0 : Nat) : Int) - 1074))) else (endonymref2_pack.j2 k (rl m) (((0 : Nat) : Int) - 1074)))) (fun k => by rw [endonymref2_pack.l1]) (Ev.bind hl ?_)
   refine Ev.congr (fun k => by rw [if_pos (by omega), if_neg (by omega)]) ?_
   have hv := value_ok m (by unfold P52 at c1; omega)
   refine Ev.step (f := fun k => (endonymref2_Length.f k (rl m)).bind fun t390 => (if t390 < 53 then ((endonymref2_value.f k (rl m)).bind fun t391 => (some t391)) else ((endonymref2_value.f k (rl m)).bind fun t392 => (some (Go.bits .or .u64 (IntKind.u64.wrap ((IntKind.u64.wrap (wrap64 (((0 : Nat) : Int) - 1074 + 1075))) * 4503599627370496)) (Go.bits .and .u64 t392 4503599627370495)))))) (fun k => by rw [endonymref2_pack.j2]) (Ev.bind hl ?_)
   exact Ev.congr (fun k => by rw [if_pos (by omega)]) (Ev.bind hv (Ev.now _))
 ·by_cases c2 : m < 2 * P52
  ·have hb : bl m = 53 := bl_eq (k := 52) (by rw [show (2 : Nat) ^ 52 = P52 by decide]; omega) (by rw [show (2 : Nat) ^ (52 + 1) = 2 * P52 by decide]; exact c2)
   exact pack_end m u (by omega) c2 (by omega)
  ·have e : m = 2 * P52 := by omega
   subst e
   have hb : bl (2 * P52) = 54 := by decide
   rw [hb] at h3
   have hl := rlength_ok (2 * P52) (by have := rl_bl (2 * P52) (by omega); omega)
   rw [hb] at hl
   have hh := half_rok (2 * P52) (by have := rl_bl (2 * P52) (by omega); omega)
   rw [show 2 * P52 / 2 = P52 by decide] at hh
   have he := pack_end P52 (u + 1) (Nat.le_refl _) (by decide) (by omega)
   have e3 : (u + 1) * P52 + P52 = u * P52 + 2 * P52 := by rw [Nat.add_mul, Nat.one_mul, Nat.add_assoc, ← Nat.two_mul]
   rw [e3] at he
   refine Ev.step (f := fun k => (endonymref2_Length.f k (rl (2 * P52))).bind fun t382 => (if t382 > 53 then ((endonymref2_half.f k (rl (2 * P52))).bind fun t383 => (endonymref2_pack.l0 k t383 (wrap64 ((u : Int) - 1074 + 1)))) else (if ((rl (2 * P52)).length : Int) = 0 then (some 0) else (endonymref2_pack.l1 k (rl (2 * P52)) ((u : Int) - 1074))))) (fun k => by rw [endonymref2_pack.l0]) (Ev.bind hl ?_)
   refine Ev.congr (fun k => by rw [if_pos (by omega)]) (Ev.bind hh ?_)
   rw [w64 (by omega) (by omega), show (u : Int) - 1074 + 1 = ((u + 1 : Nat) : Int) - 1074 by omega]
   exact he
def triedR (k : Nat) (p q : Nat) (u : Nat) (t : Int) : Option (List Int × Int × Bool) :=
 if tr p q u ≤ 2 * P52 then (if 2098 < u + bl (tr p q u) then some ([], 0, false) else some (rl (tr p q u), (u : Int) - 1074, true)) else endonymref2_Round.l0 k (rl p) (rl q) 52 (-1074) 1024 ((u : Int) - 1074 + 1) (t + 1)
theorem cmp_zero (a b : Nat) : (cmpS a b > 0 ↔ b < a) ∧ (cmpS a b = 0 ↔ a = b) := by
 unfold cmpS
 constructor
 ·constructor
  ·intro h; split at h
   ·omega
   ·split at h <;> omega
  ·intro h; rw [if_neg (by omega), if_pos h]; omega
 ·constructor
  ·intro h; split at h
   ·omega
   ·split at h <;> omega
  ·intro h; rw [if_neg (by omega), if_neg (by omega)]
theorem rne_mod (x y : Nat) (hy : 0 < y) : rne x y = if y < 2 * (x % y) then x / y + 1 else if y = 2 * (x % y) then (if x / y % 2 = 1 then x / y + 1 else x / y) else x / y := by
 unfold rne
 by_cases h1 : y < 2 * (x % y)
 ·rw [if_pos (.inl h1), if_pos h1]
 ·rw [if_neg h1]
  by_cases h2 : y = 2 * (x % y)
  ·rw [if_pos h2]
   by_cases h3 : x / y % 2 = 1
   ·rw [if_pos (.inr ⟨h2, h3⟩), if_pos h3]
   ·rw [if_neg (by rintro (h | ⟨_, h⟩) <;> omega), if_neg h3]
  ·rw [if_neg h2, if_neg (by rintro (h | ⟨h, _⟩) <;> omega)]
theorem round_trial (p q : Nat) (hp : p ≠ 0) (hq : q ≠ 0) (hlp : bl p ≤ 100000) (hlq : bl q ≤ 100000) (u : Nat) (hu : u ≤ 200000) (x13 t : Int) (ht0 : 0 ≤ t) (ht : t < 3) (hx : mx x13 (-1074) = (u : Int) - 1074) {y : List Int × Int × Bool} (hy : Ev (fun k => triedR k p q u t) y) :
  Ev (fun k => endonymref2_Round.l0 k (rl p) (rl q) 52 (-1074) 1024 x13 t) y := by
 obtain ⟨X, hX⟩ : ∃ X : Int, (u : Int) - 1074 = X := ⟨_, rfl⟩
 have hXu : (X + 1074).toNat = u := by omega
 obtain ⟨x, hxe⟩ : ∃ x, p * 2 ^ (-X).toNat = x := ⟨_, rfl⟩
 obtain ⟨z, hze⟩ : ∃ z, q * 2 ^ X.toNat = z := ⟨_, rfl⟩
 have hz0 : 0 < z := by rw [← hze]; exact Nat.mul_pos (Nat.pos_of_ne_zero hq) (Nat.two_pow_pos _)
 have hbx : bl x ≤ 500000 := by have := bl_mul_le p (-X).toNat; rw [hxe] at this; omega
 have hbz : bl z ≤ 500000 := by have := bl_mul_le q X.toNat; rw [hze] at this; omega
 have htr : tr p q u = rne x z := by rw [← hxe, ← hze, tr_at p q X (by omega), hXu]
 have hj1 : Ev (fun k => endonymref2_Round.j1 k (rl p) (rl q) 52 (-1074) 1024 X t (rl x) (rl z)) y := by
  have hlx := rl_bl x (by omega)
  have hlz := rl_bl z (by omega)
  have hrl : x % z < z := Nat.mod_lt _ hz0
  have hbr := bl_mono (Nat.le_of_lt hrl)
  have t1 := rover_ok x z (by omega) (by omega) (by omega)
  have t2 := rtimes_ok (x % z) 2 0 (rl_bl _ (by omega)) (by omega) (by omega)
  rw [Nat.add_zero] at t2
  have hb2 := bl_mul_le (x % z) 1
  rw [Nat.pow_one] at hb2
  have t3 := rcmp_ok (x % z * 2) z (by have := rl_bl (x % z * 2) (by omega); omega) (by omega)
  obtain ⟨c1, c2⟩ := cmp_zero (x % z * 2) z
  have hdv : x / z ≤ x := Nat.div_le_self _ _
  have hbd := bl_mono hdv
  have hj3 : Ev (fun k => endonymref2_Round.j3 k (rl p) (rl q) 52 (-1074) 1024 X t (rl (tr p q u))) y := by
   obtain ⟨m, hm⟩ : ∃ m, tr p q u = m := ⟨_, rfl⟩
   have hbm : bl m ≤ 500001 := by
    rw [← hm, htr]
    have h1 := rne_le x z
    have h2 : rne x z ≤ 2 * x + 1 := by omega
    have h3 : bl (2 * x + 1) ≤ bl x + 1 := bl_le (by have := lt_two_bl x; rw [Nat.pow_succ]; omega)
    have h4 := bl_mono h2
    omega
   have tl := rlength_ok m (by have := rl_bl m (by omega); omega)
   unfold triedR at hy
   rw [hm] at hy ⊢
   have w1 : wrap64 ((52 : Int) + 1) = 53 := w64 (by omega) (by omega)
   have w2 : wrap64 ((52 : Int) + 2) = 54 := w64 (by omega) (by omega)
   have good : m ≤ 2 * P52 → Ev (fun k => endonymref2_Round.j4 k (rl p) (rl q) 52 (-1074) 1024 X t (rl m) true) y := by
    intro hle
    refine Ev.step (f := fun k => (endonymref2_Length.f k (rl m)).bind fun t380 => (if (wrap64 (X + t380)) > 1024 then (some (([] : List Int), 0, false)) else (some (rl m, X, true)))) (fun k => by rw [endonymref2_Round.j4, if_pos rfl]) (Ev.bind tl ?_)
    rw [w64 (by omega) (by omega)]
    refine Ev.congr (fun k => ?_) hy
    rw [if_pos hle]
    by_cases ho : 2098 < u + bl m
    ·rw [if_pos ho, if_pos (by omega)]
    ·rw [if_neg ho, if_neg (by omega), hX]
   have bad : ¬ m ≤ 2 * P52 → Ev (fun k => endonymref2_Round.j4 k (rl p) (rl q) 52 (-1074) 1024 X t (rl m) false) y := by
    intro hle
    refine Ev.step (fun k => ?_) hy
    rw [endonymref2_Round.j4, if_neg (by simp), if_neg hle, w64 (x := X + 1) (by omega) (by omega), w64 (x := t + 1) (by omega) (by omega), hX]
   have hP : 2 * P52 = 2 ^ 53 := by decide
   refine Ev.step (f := fun k => (endonymref2_Length.f k (rl m)).bind fun t371 => (if t371 ≤ 53 then (endonymref2_Round.j4 k (rl p) (rl q) 52 (-1074) 1024 X t (rl m) true) else ((endonymref2_Length.f k (rl m)).bind fun t372 => (if t372 = 54 then ((endonymref2_Of.f k ((1 : Nat) : Int)).bind fun t373 => ((endonymref2_Left.f k t373 ((53 : Nat) : Int)).bind fun t376 => ((endonymref2_Cmp.f k (rl m) t376).bind fun t379 => (endonymref2_Round.j4 k (rl p) (rl q) 52 (-1074) 1024 X t (rl m) (t379 == 0))))) else (endonymref2_Round.j4 k (rl p) (rl q) 52 (-1074) 1024 X t (rl m) false))))) (fun k => by rw [endonymref2_Round.j3, w1, w2]; rfl) (Ev.bind tl ?_)
   by_cases h53 : bl m ≤ 53
   ·have hlt := (bl_le_iff m).1 h53
    exact Ev.congr (fun k => by rw [if_pos (by omega)]) (good (by omega))
   ·refine Ev.congr (fun k => by rw [if_neg (by omega)]) (Ev.bind tl ?_)
    by_cases h54 : bl m = 54
    ·refine Ev.congr (fun k => by rw [if_pos (by omega)]) (Ev.bind (of_ok 1 (by omega)) (Ev.bind (rleft_ok 1 53 (by decide) (by omega)) ?_))
     rw [Nat.one_mul, ← hP]
     refine Ev.bind (rcmp_ok m (2 * P52) (by have := rl_bl m (by omega); omega) (by have := rl_bl (2 * P52) (by decide); omega)) ?_
     have hz := (cmp_zero m (2 * P52)).2
     by_cases he : m = 2 * P52
     ·have e : (cmpS m (2 * P52) == 0) = true := by rw [beq_iff_eq]; exact hz.2 he
      exact Ev.congr (fun k => by rw [e]) (good (by omega))
     ·have e : (cmpS m (2 * P52) == 0) = false := by rw [Bool.eq_false_iff]; intro h; exact he (hz.1 (beq_iff_eq.1 h))
      have hlt : ¬ m < 2 * P52 := fun h => h53 ((bl_le_iff m).2 h)
      exact Ev.congr (fun k => by rw [e]) (bad (by omega))
    ·have hlt : ¬ m ≤ 2 * P52 := by
      intro h
      have := bl_mono h
      rw [show bl (2 * P52) = 54 by decide] at this
      omega
     exact Ev.congr (fun k => by rw [if_neg (by omega)]) (bad hlt)
  have hr := rne_mod x z hz0
  rw [← htr] at hr
  have up : tr p q u = x / z + 1 → Ev (fun k => endonymref2_Round.j2 k (rl p) (rl q) 52 (-1074) 1024 X t (rl (x / z)) true) y := by
   intro e
   have t4 := rplus_ok (x / z) 1 (rl_bl _ (by omega)) (rl_bl 1 (by decide))
   rw [← e] at t4
   refine Ev.step (f := fun k => (endonymref2_Of.f k ((1 : Nat) : Int)).bind fun t365 => ((endonymref2_Plus.f k (rl (x / z)) t365).bind fun t368 => (endonymref2_Round.j3 k (rl p) (rl q) 52 (-1074) 1024 X t t368))) (fun k => by rw [endonymref2_Round.j2, if_pos rfl]; rfl) (Ev.bind (of_ok 1 (by omega)) (Ev.bind t4 hj3))
  have dn : tr p q u = x / z → Ev (fun k => endonymref2_Round.j2 k (rl p) (rl q) 52 (-1074) 1024 X t (rl (x / z)) false) y := by
   intro e
   rw [e] at hj3
   exact Ev.step (fun k => by rw [endonymref2_Round.j2, if_neg (by simp)]) hj3
  refine Ev.step (f := fun k => (endonymref2_Over.f k (rl x) (rl z)).bind fun bt354 => ((endonymref2_Times.f k bt354.2 ((2 : Nat) : Int) ((0 : Nat) : Int)).bind fun t360 => ((endonymref2_Cmp.f k t360 (rl z)).bind fun t363 => (if t363 > 0 then (endonymref2_Round.j2 k (rl p) (rl q) 52 (-1074) 1024 X t bt354.1 true) else (if t363 = 0 then ((endonymref2_Bit.f bt354.1 0).bind fun t364 => (endonymref2_Round.j2 k (rl p) (rl q) 52 (-1074) 1024 X t bt354.1 t364)) else (endonymref2_Round.j2 k (rl p) (rl q) 52 (-1074) 1024 X t bt354.1 false)))))) (fun k => by rw [endonymref2_Round.j1]; rfl) (Ev.bind t1 (Ev.bind t2 (Ev.bind t3 ?_)))
  simp only
  by_cases g1 : z < x % z * 2
  ·rw [if_pos (by omega)] at hr
   exact Ev.congr (fun k => by rw [if_pos (c1.2 g1)]) (up hr)
  ·rw [if_neg (by omega)] at hr
   refine Ev.congr (fun k => by rw [if_neg (fun h => g1 (c1.1 h))]) ?_
   by_cases g2 : x % z * 2 = z
   ·rw [if_pos (by omega)] at hr
    refine Ev.congr (fun k => by rw [if_pos (c2.2 g2), rbit_ok, Option.bind_some]) ?_
    by_cases g3 : x / z % 2 = 1
    ·rw [if_pos g3] at hr
     rw [decide_eq_true g3]
     exact up hr
    ·rw [if_neg g3] at hr
     rw [decide_eq_false g3]
     exact dn hr
   ·rw [if_neg (by omega)] at hr
    exact Ev.congr (fun k => by rw [if_neg (fun h => g2 (c2.1 h))]) (dn hr)
 by_cases h0 : 0 ≤ X
 ·have hl := rleft_ok q X.toNat (by omega) (by omega)
  rw [hze, show ((X.toNat : Nat) : Int) = X by omega] at hl
  have hxp : x = p := by rw [← hxe, show (-X).toNat = 0 by omega, Nat.pow_zero, Nat.mul_one]
  rw [hxp] at hj1
  refine Ev.step (f := fun k => (endonymref2_Left.f k (rl q) X).bind fun t348 => (endonymref2_Round.j1 k (rl p) (rl q) 52 (-1074) 1024 X t (rl p) t348)) (fun k => ?_) (Ev.bind hl hj1)
  rw [endonymref2_Round.l0, if_pos ht, hx, hX, if_pos (by omega)]
 ·have hl := rleft_ok p (-X).toNat (by omega) (by omega)
  rw [hxe, show (((-X).toNat : Nat) : Int) = -X by omega] at hl
  have hzq : z = q := by rw [← hze, show X.toNat = 0 by omega, Nat.pow_zero, Nat.mul_one]
  rw [hzq] at hj1
  refine Ev.step (f := fun k => (endonymref2_Left.f k (rl p) (-X)).bind fun t351 => (endonymref2_Round.j1 k (rl p) (rl q) 52 (-1074) 1024 X t t351 (rl q))) (fun k => ?_) (Ev.bind hl hj1)
  rw [endonymref2_Round.l0, if_pos ht, hx, hX, if_neg (by omega), w64 (x := -X) (by omega) (by omega)]
def nearS (w : Nat) : Int × Bool := if w = INF then (0, false) else ((w : Int), true)
theorem near_ok (p q : Nat) (hq : q ≠ 0) (hlp : bl p ≤ 100000) (hlq : bl q ≤ 100000) : Ev (fun k => endonymref2_Near.f k (rl p) (rl q)) (nearS (wordQ (p * 2 ^ 1074) q)) := by
 by_cases hp : p = 0
 ·subst hp
  rw [Nat.zero_mul, wordQ_zero q (Nat.pos_of_ne_zero hq), rl_zero]
  have h0 := pack_ok 0 0 (by omega) (.inl rfl) (by decide)
  have e : nearS 0 = (0, true) := by unfold nearS; rw [if_neg (by decide)]; rfl
  rw [e]
  have hl : Ev (fun k => endonymref2_pack.f k ([] : List Int) 0) 0 := by
   show Ev (fun k => endonymref2_pack.l0 k ([] : List Int) 0) 0
   have hl := rlength_ok 0 (by rw [rl_zero]; simp)
   rw [rl_zero, show bl 0 = 0 by decide] at hl
   refine Ev.step (f := fun k => (endonymref2_Length.f k []).bind fun t382 => (if t382 > 53 then ((endonymref2_half.f k []).bind fun t383 => (endonymref2_pack.l0 k t383 (wrap64 (0 + 1)))) else (if (([] : List Int).length : Int) = 0 then (some 0) else (endonymref2_pack.l1 k [] 0)))) (fun k => by rw [endonymref2_pack.l0]) (Ev.bind hl ?_)
   exact Ev.congr (f := fun _ => some 0) (fun k => by rw [if_neg (by omega), if_pos (by simp)]) (Ev.now _)
  refine Ev.congr (f := fun k => (endonymref2_pack.f k ([] : List Int) 0).bind fun t398 => (some (t398, true))) (fun k => ?_) (Ev.bind hl (Ev.now _))
  show (endonymref2_Near.f k [] (rl q)) = _
  have e2 : endonymref2_Round.f k ([] : List Int) (rl q) 52 (-1074) 1024 = some ([], 0, true) := by unfold endonymref2_Round.f; rw [if_pos (by simp)]
  unfold endonymref2_Near.f
  rw [e2, Option.bind_some, if_pos rfl]
 ·have hlen := rl_len_pos hp
  have hbp := bl_pos hp
  have hbq := bl_pos hq
  have fin : ∀ m u : Nat, Took p q m u → (∀ {y : List Int × Int × Bool}, Ev (fun _ => (if 2098 < u + bl m then some ([], 0, false) else some (rl m, (u : Int) - 1074, true))) y → Ev (fun k => endonymref2_Round.f k (rl p) (rl q) 52 (-1074) 1024) y) →
    Ev (fun k => endonymref2_Near.f k (rl p) (rl q)) (nearS (wordQ (p * 2 ^ 1074) q)) := by
   intro m u hT hR
   obtain ⟨o1, o2⟩ := took_over p q m u hT
   by_cases ho : 2098 < u + bl m
   ·rw [o2 ho]
    have h1 : Ev (fun k => endonymref2_Round.f k (rl p) (rl q) 52 (-1074) 1024) ([], 0, false) := hR (Ev.congr (f := fun _ => some ([], 0, false)) (fun k => by rw [if_pos ho]) (Ev.now _))
    unfold endonymref2_Near.f
    refine Ev.bind h1 ?_
    exact Ev.congr (f := fun _ => some (0, false)) (fun k => by rw [if_neg (by simp)]) (by unfold nearS; rw [if_pos rfl]; exact Ev.now _)
   ·obtain ⟨e1, e2⟩ := o1 (by omega)
    have h1 : Ev (fun k => endonymref2_Round.f k (rl p) (rl q) 52 (-1074) 1024) (rl m, (u : Int) - 1074, true) := hR (Ev.congr (f := fun _ => some (rl m, (u : Int) - 1074, true)) (fun k => by rw [if_neg ho]) (Ev.now _))
    have hpk := pack_ok m u hT.1 hT.2.1 (by omega)
    unfold endonymref2_Near.f
    refine Ev.bind h1 ?_
    rw [e1]
    have e3 : nearS (u * P52 + m) = (((u * P52 + m : Nat) : Int), true) := by unfold nearS; rw [if_neg (by omega)]
    rw [e3]
    exact Ev.congr (fun k => by rw [if_pos rfl]) (Ev.bind hpk (Ev.now _))
  have hu0 : u0 p q ≤ 150000 := by unfold u0; omega
  have start : ∀ {y : List Int × Int × Bool}, Ev (fun k => triedR k p q (u0 p q) 0) y → Ev (fun k => endonymref2_Round.f k (rl p) (rl q) 52 (-1074) 1024) y := by
   intro y hy
   have t1 := rlength_ok p (by have := rl_bl p (by omega); omega)
   have t2 := rlength_ok q (by have := rl_bl q (by omega); omega)
   unfold endonymref2_Round.f
   refine Ev.congr (fun k => by rw [if_neg (by omega)]) (Ev.bind t1 (Ev.bind t2 ?_))
   rw [w64 (x := ((bl p : Nat) : Int) - ((bl q : Nat) : Int)) (by omega) (by omega), w64 (x := ((bl p : Nat) : Int) - ((bl q : Nat) : Int) - 52) (by omega) (by omega), w64 (by omega) (by omega)]
   refine round_trial p q hp hq hlp hlq (u0 p q) (by omega) _ 0 (by omega) (by omega) ?_ hy
   rw [mx_eq]; unfold u0; omega
  by_cases hle : tr p q (u0 p q) ≤ 2 * P52
  ·refine fin _ _ (took_first p q hp hq hle) (fun hy => start (Ev.congr (fun k => ?_) hy))
   unfold triedR; rw [if_pos hle]
  ·refine fin _ _ (took_next p q hp hq hle) (fun {y} hy => start ?_)
   have hT := took_next p q hp hq hle
   have h2 : Ev (fun k => endonymref2_Round.l0 k (rl p) (rl q) 52 (-1074) 1024 (((u0 p q : Nat) : Int) - 1074 + 1) (0 + 1)) y := by
    refine round_trial p q hp hq hlp hlq (u0 p q + 1) (by omega) _ _ (by omega) (by omega) ?_ ?_
    ·rw [mx_eq]; omega
    ·refine Ev.congr (fun k => ?_) hy
     unfold triedR; rw [if_pos hT.1]
   refine Ev.congr (fun k => ?_) h2
   unfold triedR; rw [if_neg hle]
end Go.Proofs.YtfmjdoofopamkaaGreatDoor.Plain
