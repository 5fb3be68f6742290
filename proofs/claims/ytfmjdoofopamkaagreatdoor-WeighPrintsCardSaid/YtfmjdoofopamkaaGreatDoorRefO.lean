import Derived.Test.YtfmjdoofopamkaaGreatDoorPlT
import Derived.Test.YtfmjdoofopamkaaGreatDoorRefX
import Derived.Test.YtfmjdoofopamkaaGreatDoorPlN
import Derived.Test.YtfmjdoofopamkaaGreatDoorWx15
namespace Go.Proofs.YtfmjdoofopamkaaGreatDoor.Plain
open Go.RowKit Go.Proofs.YtfmjdoofopamkaaGreatDoorW.PrintWords Go.Proofs.YtfmjdoofopamkaaGreatDoorW.PrintLast Go.Proofs.YtfmjdoofopamkaaGreatDoorW.PrintMore Go.Proofs.YtfmjdoofopamkaaGreatDoor.W
set_option linter.unusedVariables false
set_option linter.unusedSimpArgs false
set_option exponentiation.threshold 3000
theorem bind_pair (o : Option (Int × Bool)) : (o.bind fun b => some (b.1, b.2)) = o := by cases o <;> rfl
theorem nearest_end (n : Nat) (x : Int) (hn : bl n ≤ 90000) (hx0 : -2000 ≤ x) (hx1 : x ≤ 2000) : Ev (fun k => if x ≥ 0 then ((r2_Ten.f k x).bind fun t420 => ((r2_Product.f k (rl n) t420).bind fun t423 => ((r2_Of.f k 1).bind fun t426 => ((r2_Near.f k t423 t426).bind fun bt429 => (some (bt429.1, bt429.2)))))) else ((r2_Ten.f k (wrap64 (-x))).bind fun t431 => ((r2_Near.f k (rl n) t431).bind fun bt434 => (some (bt434.1, bt434.2))))) (nearS (decW n x)) := by
 by_cases h : 0 ≤ x
 ·have h1 := bl_mul10 n x.toNat
  have h2 := bl_pow10 x.toNat
  have hnr := near_ok (n * 10 ^ x.toNat) 1 (by omega) (by omega) (by decide)
  have e : wordQ (n * 10 ^ x.toNat * 2 ^ 1074) 1 = decW n x := by unfold decW; rw [show (-x).toNat = 0 by omega, Nat.pow_zero]
  rw [e] at hnr
  refine Ev.congr (fun k => by rw [if_pos h]) (Ev.bind (rten_ok x (by omega)) (Ev.bind (prod_ok n (10 ^ x.toNat) (rl_bl _ (by omega)) (rl_bl _ (by omega))) (Ev.bind (of_ok 1 (by omega)) ?_)))
  exact Ev.congr (fun k => bind_pair _) hnr
 ·have h2 := bl_pow10 (-x).toNat
  have hnr := near_ok n (10 ^ (-x).toNat) (Nat.ne_of_gt (Nat.pow_pos (by omega))) (by omega) (by omega)
  have e : wordQ (n * 2 ^ 1074) (10 ^ (-x).toNat) = decW n x := by unfold decW; rw [show x.toNat = 0 by omega, Nat.pow_zero, Nat.mul_one]
  rw [e] at hnr
  refine Ev.congr (fun k => by rw [if_neg h, w64 (x := -x) (by omega) (by omega)]) (Ev.bind (rten_ok (-x) (by omega)) ?_)
  exact Ev.congr (fun k => bind_pair _) hnr
theorem nearest_loop (D : ByteArray) (hs : Sz D) (x : Int) (hx0 : -2000 ≤ x) (hx1 : x ≤ 2000) : ∀ (r : List Int) (i a m : Nat), At D i r → r.all dg = true → a < 10 ^ m → m + r.length ≤ 1000 →
  Ev (fun k => r2_Nearest.l0 k D x (rl a) (i : Int)) (nearS (decW (dvF a r) x)) := by
 intro r
 induction r with
 | nil =>
  intro i a m ha hd ham hm
  have h0 := ha.nil
  have hba : bl a ≤ 4001 := by
   have h1 := bl_pow10 m
   have h2 := bl_mono (Nat.le_of_lt ham)
   simp at hm; omega
  refine Ev.step (fun k => ?_) (nearest_end a x (by omega) hx0 hx1)
  rw [r2_Nearest.l0, if_neg (by omega)]
 | cons c t ih =>
  intro i a m ha hd ham hm
  rw [List.all_cons, Bool.and_eq_true] at hd
  rw [List.length_cons] at hm
  have hr := dg_range hd.1
  have hlt := ha.lt
  have hba : bl a ≤ 4001 := by
   have h1 := bl_pow10 m
   have h2 := bl_mono (Nat.le_of_lt ham)
   omega
  have ht := rtimes_ok a 10 (c - 48).toNat (Nat.le_trans (rl_len_of 1000 (by omega)) (by omega)) (by omega) (by omega)
  have hnx := ih (i + 1) (a * 10 + (c - 48).toNat) (m + 1) ha.next hd.2 (by rw [Nat.pow_succ]; omega) (by omega)
  have e : dvF (a * 10 + (c - 48).toNat) t = dvF a (c :: t) := by
   rw [Nat.mul_comm]; rfl
  rw [e] at hnx
  have e2 : (c - 48) % 256 = (((c - 48).toNat : Nat) : Int) := by omega
  refine Ev.step (f := fun k => (r2_Times.f k (rl a) ((10 : Nat) : Int) (((c - 48).toNat : Nat) : Int)).bind fun t417 => (r2_Nearest.l0 k D x t417 ((i + 1 : Nat) : Int))) (fun k => ?_) (Ev.bind ht hnx)
  rw [r2_Nearest.l0, if_pos hlt, if_pos (by omega), ha.rd, e2, ha.wrap hs]
  rfl
theorem nearest_ok (D : ByteArray) (x : Int) (hx0 : -2000 ≤ x) (hx1 : x ≤ 2000) (hd : (bytesOf D).all dg = true) (hl : (bytesOf D).length ≤ 100) : Ev (fun k => r2_Nearest.f k D x) (nearS (decW (dv (bytesOf D)) x)) := by
 have h := nearest_loop D (by unfold Sz; rw [sz]; omega) x hx0 hx1 (bytesOf D) 0 0 0 (At.start D) hd (by decide) (by omega)
 rw [rl_zero] at h
 exact h
end Go.Proofs.YtfmjdoofopamkaaGreatDoor.Plain
