import Derived.Test.YtfmjdoofopamkaaGreatDoorPlR
import Derived.Test.YtfmjdoofopamkaaGreatDoorWx2
import Derived.Test.YtfmjdoofopamkaaGreatDoorWx3
import Derived.Test.YtfmjdoofopamkaaGreatDoorWx6
namespace Go.Proofs.YtfmjdoofopamkaaGreatDoor.Plain
open Go.RowKit Go.Proofs.YtfmjdoofopamkaaGreatDoorW.PrintWords Go.Proofs.YtfmjdoofopamkaaGreatDoorW.PrintLast Go.Proofs.YtfmjdoofopamkaaGreatDoorW.PrintMore
set_option linter.unusedVariables false
set_option linter.unusedSimpArgs false
def wordU (p q : Nat) : Nat := ulp p q * P52 + rne p (q * 2 ^ ulp p q)
theorem wordQ_U (p q : Nat) : wordQ p q = min (wordU p q) INF := rfl
theorem rne_near (p Q : Nat) (hQ : 0 < Q) : 2 * p ≤ (2 * rne p Q + 1) * Q ∧ (2 * p = (2 * rne p Q + 1) * Q → rne p Q % 2 = 0) ∧ (2 * rne p Q * Q ≤ 2 * p + Q) ∧ (2 * rne p Q * Q = 2 * p + Q → rne p Q % 2 = 0) := by
 obtain ⟨a, ha⟩ : ∃ a, p / Q = a := ⟨_, rfl⟩
 obtain ⟨b, hb⟩ : ∃ b, p % Q = b := ⟨_, rfl⟩
 have hp : p = Q * a + b := by rw [← ha, ← hb]; exact (Nat.div_add_mod p Q).symm
 have hbq : b < Q := by rw [← hb]; exact Nat.mod_lt _ hQ
 obtain ⟨m, hm⟩ : ∃ m, Q * a = m := ⟨_, rfl⟩
 have e0 : (2 * a + 1) * Q = 2 * m + Q := by rw [Nat.add_mul, Nat.one_mul, ← hm, Nat.mul_assoc, Nat.mul_comm a Q]
 have e1 : (2 * (a + 1) + 1) * Q = 2 * m + 3 * Q := by rw [Nat.add_mul, Nat.one_mul, ← hm, Nat.mul_assoc, Nat.add_mul, Nat.one_mul, Nat.mul_comm a Q]; omega
 have e2 : 2 * a * Q = 2 * m := by rw [← hm, Nat.mul_assoc, Nat.mul_comm a Q]
 have e3 : 2 * (a + 1) * Q = 2 * m + 2 * Q := by rw [← hm, Nat.mul_assoc, Nat.add_mul, Nat.one_mul, Nat.mul_comm a Q]; omega
 unfold rne
 rw [ha, hb]
 rw [hm] at hp
 by_cases h : Q < 2 * b ∨ (Q = 2 * b ∧ a % 2 = 1)
 ·rw [if_pos h, e1, e3]; refine ⟨by omega, by omega, by omega, by omega⟩
 ·rw [if_neg h, e0, e2]; refine ⟨by omega, by omega, by omega, by omega⟩
theorem fv_word (u R : Nat) (hR : R ≤ 2 * P52) (h : u = 0 ∨ P52 ≤ R) : fv (u * P52 + R) = R * 2 ^ u := by
 by_cases h0 : R < P52
 ·have : u = 0 := by omega
  subst this
  rw [Nat.zero_mul, Nat.zero_add, Nat.pow_zero, Nat.mul_one]; exact fv_sub h0
 ·by_cases h1 : R < 2 * P52
  ·have := fv_mk u (R - P52) (by omega)
   rw [show (u + 1) * P52 + (R - P52) = u * P52 + R by rw [Nat.add_mul]; omega, show P52 + (R - P52) = R by omega] at this
   exact this
  ·have e : R = 2 * P52 := by omega
   have := fv_mk (u + 1) 0 (by decide)
   rw [show (u + 1 + 1) * P52 + 0 = u * P52 + R by rw [Nat.add_mul, Nat.add_mul]; omega, Nat.add_zero] at this
   rw [this, e, Nat.pow_succ, Nat.mul_comm (2 ^ u) 2, ← Nat.mul_assoc, Nat.mul_comm P52 2]
theorem near (p q : Nat) (hq : 0 < q) : 2 * p ≤ (fv (wordU p q) + fv (wordU p q + 1)) * q ∧ (2 * p = (fv (wordU p q) + fv (wordU p q + 1)) * q → wordU p q % 2 = 0) ∧
  (wordU p q ≠ 0 → (fv (wordU p q - 1) + fv (wordU p q)) * q ≤ 2 * p ∧ ((fv (wordU p q - 1) + fv (wordU p q)) * q = 2 * p → wordU p q % 2 = 0)) := by
 obtain ⟨hR, hu⟩ := ulp_bounds p q
 have hge : ulp p q = 0 ∨ P52 ≤ p / (q * 2 ^ ulp p q) := by
  rw [← Nat.div_div_eq_div_mul]
  obtain ⟨n, hn⟩ : ∃ n, p / q = n := ⟨_, rfl⟩
  have hu : ulp p q = bl n - 53 := by unfold ulp; rw [hn]
  rw [hn]
  obtain ⟨u, hu2⟩ : ∃ u, ulp p q = u := ⟨_, rfl⟩
  rw [hu2] at hu ⊢
  by_cases h0 : u = 0
  ·exact .inl h0
  ·right
   rw [Nat.le_div_iff_mul_le (Nat.two_pow_pos u)]
   have hn0 : n ≠ 0 := by rintro rfl; simp [bl] at hu; omega
   have h3 := two_bl_le hn0
   have h4 : P52 * 2 ^ u = 2 ^ (bl n - 1) := by rw [show P52 = 2 ^ 52 from rfl, ← Nat.pow_add]; congr 1; omega
   omega
 have hn := rne_near p (q * 2 ^ ulp p q) (Nat.mul_pos hq (Nat.two_pow_pos _))
 have hrg := rne_ge p (q * 2 ^ ulp p q)
 have hdm : p / (q * 2 ^ ulp p q) * (q * 2 ^ ulp p q) ≤ p := Nat.div_mul_le_self _ _
 unfold wordU
 obtain ⟨u, hu2⟩ : ∃ u, ulp p q = u := ⟨_, rfl⟩
 rw [hu2] at hR hu hn hrg hdm hge ⊢
 obtain ⟨R, hR2⟩ : ∃ R, rne p (q * 2 ^ u) = R := ⟨_, rfl⟩
 rw [hR2] at hR hu hn hrg ⊢
 obtain ⟨n1, n2, n3, n4⟩ := hn
 have hpar : (u * P52 + R) % 2 = R % 2 := by unfold P52; omega
 rw [hpar, fv_word u R hR hu]
 obtain ⟨U, hU⟩ : ∃ U, 2 ^ u = U := ⟨_, rfl⟩
 obtain ⟨Q, hQ⟩ : ∃ Q, q * U = Q := ⟨_, rfl⟩
 have eq1 : ∀ z, z * U * q = z * Q := fun z => by rw [Nat.mul_assoc, ← hQ, Nat.mul_comm U q]
 rw [hU, hQ] at n1 n2 n3 n4
 rw [hU, hQ] at hrg hdm
 rw [hU, hQ] at hge
 have hQ0 : 0 < Q := by rw [← hQ, ← hU]; exact Nat.mul_pos hq (Nat.two_pow_pos u)
 refine ⟨?_, ?_, ?_⟩
 ·by_cases h1 : R < 2 * P52
  ·have e := fv_word u (R + 1) (by omega) (by omega)
   rw [← Nat.add_assoc, hU] at e
   rw [hU, e, ← Nat.add_mul, eq1, show R + (R + 1) = 2 * R + 1 by omega]; exact n1
  ·have e := fv_word (u + 1) (P52 + 1) (by decide) (by omega)
   rw [show (u + 1) * P52 + (P52 + 1) = u * P52 + R + 1 by rw [Nat.add_mul]; omega, Nat.pow_succ, hU] at e
   rw [hU, e, show (P52 + 1) * (U * 2) = (R + 2) * U by rw [Nat.mul_comm U 2, ← Nat.mul_assoc]; congr 1; omega, ← Nat.add_mul, eq1]
   refine Nat.le_trans n1 (Nat.mul_le_mul_right _ (by omega))
 ·intro he
  by_cases h1 : R < 2 * P52
  ·have e := fv_word u (R + 1) (by omega) (by omega)
   rw [← Nat.add_assoc, hU] at e
   rw [hU, e, ← Nat.add_mul, eq1, show R + (R + 1) = 2 * R + 1 by omega] at he
   exact n2 he
  ·have e := fv_word (u + 1) (P52 + 1) (by decide) (by omega)
   rw [show (u + 1) * P52 + (P52 + 1) = u * P52 + R + 1 by rw [Nat.add_mul]; omega, Nat.pow_succ, hU] at e
   rw [hU, e, show (P52 + 1) * (U * 2) = (R + 2) * U by rw [Nat.mul_comm U 2, ← Nat.mul_assoc]; congr 1; omega, ← Nat.add_mul, eq1] at he
   have h2 : (2 * R + 1) * Q < (R + (R + 2)) * Q := Nat.mul_lt_mul_of_pos_right (by omega) hQ0
   omega
 ·intro hw
  by_cases h1 : u = 0 ∨ P52 < R
  ·have e := fv_word u (R - 1) (by omega) (by omega)
   have hR1 : 1 ≤ R := by
    rcases h1 with rfl | h1
    ·omega
    ·omega
   rw [show u * P52 + (R - 1) = u * P52 + R - 1 by omega, hU] at e
   rw [e, hU, ← Nat.add_mul, eq1]
   have e5 : (R - 1 + R) * Q + Q = 2 * R * Q := by
    rw [show 2 * R = (R - 1 + R) + 1 by omega, Nat.add_mul (R - 1 + R) 1, Nat.one_mul]
   refine ⟨by omega, fun he => n4 (by omega)⟩
  ·have hRe : R = P52 := by omega
   obtain ⟨v, hv⟩ : ∃ v, u = v + 1 := ⟨u - 1, by omega⟩
   have e := fv_word v (2 * P52 - 1) (by omega) (by unfold P52; omega)
   rw [show v * P52 + (2 * P52 - 1) = u * P52 + R - 1 by rw [hv, Nat.add_mul, hRe]; unfold P52; omega] at e
   have hU2 : U = 2 ^ v * 2 := by rw [← hU, hv, Nat.pow_succ]
   have hlt : fv (u * P52 + R - 1) < R * U := by
    rw [e, hRe, hU2, Nat.mul_comm (2 ^ v) 2, ← Nat.mul_assoc]
    exact Nat.mul_lt_mul_of_pos_right (by unfold P52; omega) (Nat.two_pow_pos v)
   have hge2 : P52 ≤ p / Q := hge.resolve_left (by omega)
   have hp2 : R * Q ≤ p := Nat.le_trans (Nat.mul_le_mul_right _ (by omega)) hdm
   have h3 : (fv (u * P52 + R - 1) + R * 2 ^ u) * q < (R * U + R * U) * q := by
    rw [hU]; exact Nat.mul_lt_mul_of_pos_right (by omega) hq
   rw [← Nat.add_mul, eq1] at h3
   have h4 : (R + R) * Q = R * Q + R * Q := Nat.add_mul _ _ _
   omega
theorem fv_le {r s : Nat} (h : r ≤ s) : fv r ≤ fv s := by
 rcases Nat.lt_or_eq_of_le h with h1 | h1
 ·exact Nat.le_of_lt (fv_lt h1)
 ·rw [h1]; exact Nat.le_refl _
theorem wordU_mono (p q p' q' : Nat) (hq : 0 < q) (hq' : 0 < q') (h : p * q' ≤ p' * q) : wordU p q ≤ wordU p' q' := by
 obtain ⟨a1, a2, a3⟩ := near p q hq
 obtain ⟨b1, b2, b3⟩ := near p' q' hq'
 obtain ⟨w, hw⟩ : ∃ w, wordU p q = w := ⟨_, rfl⟩
 obtain ⟨w', hw'⟩ : ∃ w, wordU p' q' = w := ⟨_, rfl⟩
 rw [hw] at a1 a2 a3 ⊢
 rw [hw'] at b1 b2 b3 ⊢
 by_cases hc : w ≤ w'
 ·exact hc
 ·exfalso
  obtain ⟨c1, c2⟩ := a3 (by omega)
  have f1 : fv w' ≤ fv (w - 1) := fv_le (by omega)
  have f2 : fv (w' + 1) ≤ fv w := fv_le (by omega)
  obtain ⟨S, hS⟩ : ∃ S, fv w' + fv (w' + 1) = S := ⟨_, rfl⟩
  obtain ⟨T, hT⟩ : ∃ T, fv (w - 1) + fv w = T := ⟨_, rfl⟩
  rw [hS] at b1 b2
  rw [hT] at c1 c2
  have hST : S ≤ T := by omega
  have k1 : 2 * p' * q ≤ S * q' * q := Nat.mul_le_mul_right _ b1
  have k2 : S * q' * q ≤ T * q' * q := Nat.mul_le_mul_right _ (Nat.mul_le_mul_right _ hST)
  have k3 : T * q * q' ≤ 2 * p * q' := Nat.mul_le_mul_right _ c1
  have k4 : T * q' * q = T * q * q' := by rw [Nat.mul_assoc, Nat.mul_comm q' q, ← Nat.mul_assoc]
  have k5 : 2 * p * q' = 2 * (p * q') := Nat.mul_assoc _ _ _
  have k6 : 2 * p' * q = 2 * (p' * q) := Nat.mul_assoc _ _ _
  have g1 : T * q = 2 * p := Nat.eq_of_mul_eq_mul_right hq' (by omega)
  have g2 : 2 * p' = S * q' := Nat.eq_of_mul_eq_mul_right hq (by omega)
  have g3 : S * q' = T * q' := Nat.eq_of_mul_eq_mul_right hq (by omega)
  have g4 : S = T := Nat.eq_of_mul_eq_mul_right hq' g3
  have p1 := c2 g1
  have p2 := b2 g2
  have g5 : fv w' = fv (w - 1) := by omega
  have g6 := fv_inj g5
  omega
theorem wordQ_mono (p q p' q' : Nat) (hq : 0 < q) (hq' : 0 < q') (h : p * q' ≤ p' * q) : wordQ p q ≤ wordQ p' q' := by
 rw [wordQ_U, wordQ_U]
 have := wordU_mono p q p' q' hq hq' h
 omega
theorem wordU_is (p q r : Nat) (hq : 0 < q) (h0 : r = 0 ∨ (fv (r - 1) + fv r) * q < 2 * p) (h1 : 2 * p < (fv r + fv (r + 1)) * q) : wordU p q = r := by
 obtain ⟨a1, _, a3⟩ := near p q hq
 obtain ⟨w, hw⟩ : ∃ w, wordU p q = w := ⟨_, rfl⟩
 rw [hw] at a1 a3 ⊢
 rcases Nat.lt_trichotomy w r with hc | hc | hc
 ·exfalso
  have h2 := h0.resolve_left (by omega)
  have f1 : fv w ≤ fv (r - 1) := fv_le (by omega)
  have f2 : fv (w + 1) ≤ fv r := fv_le (by omega)
  have f3 : (fv w + fv (w + 1)) * q ≤ (fv (r - 1) + fv r) * q := Nat.mul_le_mul_right _ (by omega)
  omega
 ·exact hc
 ·exfalso
  obtain ⟨c1, _⟩ := a3 (by omega)
  have f1 : fv r ≤ fv (w - 1) := fv_le (by omega)
  have f2 : fv (r + 1) ≤ fv w := fv_le (by omega)
  have f3 : (fv r + fv (r + 1)) * q ≤ (fv (w - 1) + fv w) * q := Nat.mul_le_mul_right _ (by omega)
  omega
end Go.Proofs.YtfmjdoofopamkaaGreatDoor.Plain
namespace Go.Proofs.YtfmjdoofopamkaaGreatDoor.Plain
open Go.RowKit Go.Proofs.YtfmjdoofopamkaaGreatDoorW.PrintWords Go.Proofs.YtfmjdoofopamkaaGreatDoorW.PrintLast Go.Proofs.YtfmjdoofopamkaaGreatDoorW.PrintMore Go.Proofs.YtfmjdoofopamkaaGreatDoor.W
set_option linter.unusedVariables false
set_option linter.unusedSimpArgs false
set_option exponentiation.threshold 3000
def dg (c : Int) : Bool := decide (48 ≤ c) && decide (c ≤ 57)
def dvF (n : Nat) (l : List Int) : Nat := l.foldl (fun n c => 10 * n + (c - 48).toNat) n
def dv (l : List Int) : Nat := dvF 0 l
def tailP (neg : Bool) (d : List Int) (b : Nat) : List Int → Option (Bool × List Int × Nat × Int)
 | [] => some (neg, d, b, 0)
 | c :: t =>
  if c = 101 then
   if t.head? = some 45 then (if t.tail.all dg ∧ 1 ≤ t.tail.length ∧ t.tail.length ≤ 3 then some (neg, d, b, -(dv t.tail : Int)) else none)
   else (if t.all dg ∧ 1 ≤ t.length ∧ t.length ≤ 3 then some (neg, d, b, (dv t : Int)) else none)
  else none
theorem tailP_cons (neg : Bool) (d : List Int) (b : Nat) (c : Int) (t : List Int) : tailP neg d b (c :: t) = if c = 101 then
   if t.head? = some 45 then (if t.tail.all dg ∧ 1 ≤ t.tail.length ∧ t.tail.length ≤ 3 then some (neg, d, b, -(dv t.tail : Int)) else none)
   else (if t.all dg ∧ 1 ≤ t.length ∧ t.length ≤ 3 then some (neg, d, b, (dv t : Int)) else none)
  else none := rfl
def bodyP (neg : Bool) (s : List Int) : Option (Bool × List Int × Nat × Int) :=
 if s.takeWhile dg = [] then none else
 match s.dropWhile dg with
 | [] => tailP neg (s.takeWhile dg) 0 []
 | c :: t => if c = 46 then (if t.takeWhile dg = [] then none else tailP neg (s.takeWhile dg ++ t.takeWhile dg) (t.takeWhile dg).length (t.dropWhile dg)) else tailP neg (s.takeWhile dg) 0 (c :: t)
def numP : List Int → Option (Bool × List Int × Nat × Int)
 | [] => none
 | c :: t => if c = 45 then bodyP true t else bodyP false (c :: t)
theorem wdigit (c : Int) : w2_digit.f c = some (dg c) := by
 unfold w2_digit.f dg
 by_cases h : c ≥ 48
 ·rw [if_pos h, decide_eq_true (show 48 ≤ c by omega), Bool.true_and]
 ·rw [if_neg h, decide_eq_false (show ¬ 48 ≤ c by omega), Bool.false_and]
theorem dg_range {c : Int} (h : dg c = true) : 48 ≤ c ∧ c ≤ 57 := by
 unfold dg at h; rw [Bool.and_eq_true, decide_eq_true_eq, decide_eq_true_eq] at h; exact h
theorem dvF_lt (l : List Int) (h : l.all dg = true) : ∀ n m : Nat, n < 10 ^ m → dvF n l < 10 ^ (m + l.length) := by
 induction l with
 | nil => intro n m hn; exact hn
 | cons c t ih =>
  intro n m hn
  rw [List.all_cons, Bool.and_eq_true] at h
  have hc := dg_range h.1
  have := ih h.2 (10 * n + (c - 48).toNat) (m + 1) (by rw [Nat.pow_succ]; omega)
  rw [List.length_cons, show m + (t.length + 1) = m + 1 + t.length by omega]
  exact this
theorem dv_lt (l : List Int) (h : l.all dg = true) : dv l < 10 ^ l.length := by
 have := dvF_lt l h 0 0 (by decide); rwa [Nat.zero_add] at this
theorem dvF_append (n : Nat) (a b : List Int) : dvF n (a ++ b) = dvF (dvF n a) b := List.foldl_append
theorem tw_all (l : List Int) : (l.takeWhile dg).all dg = true := by
 exact List.all_takeWhile
structure At (s : ByteArray) (i : Nat) (r : List Int) : Prop where
 le : i + r.length = s.size
 eq : (bytesOf s).drop i = r
theorem At.nil {s : ByteArray} {i : Nat} (h : At s i []) : i = s.size := by have := h.le; simpa using this
theorem At.lt {s : ByteArray} {i : Nat} {c : Int} {t : List Int} (h : At s i (c :: t)) : (i : Int) < (s.size : Int) := by have := h.le; rw [List.length_cons] at this; omega
theorem At.rd {s : ByteArray} {i : Nat} {c : Int} {t : List Int} (h : At s i (c :: t)) : bt s (i : Int) = c := by
 have h1 := h.lt
 have h2 := drop_rd (bytesOf s) i (by rw [bytesOf_length]; omega)
 rw [h.eq] at h2
 rw [bt_rd]; exact (List.cons.inj h2).1.symm
theorem At.next {s : ByteArray} {i : Nat} {c : Int} {t : List Int} (h : At s i (c :: t)) : At s (i + 1) t := by
 have h1 := h.lt
 have h2 := drop_rd (bytesOf s) i (by rw [bytesOf_length]; omega)
 rw [h.eq] at h2
 exact ⟨by have := h.le; rw [List.length_cons] at this; omega, (List.cons.inj h2).2.symm⟩
theorem At.start (s : ByteArray) : At s 0 (bytesOf s) := ⟨by rw [bytesOf_length]; omega, rfl⟩
def Sz (s : ByteArray) : Prop := s.size ≤ 4611686018427387904
theorem At.bound {s : ByteArray} {i : Nat} {r : List Int} (h : At s i r) (hs : Sz s) : (i : Int) ≤ 4611686018427387904 := by have := h.le; unfold Sz at hs; omega
theorem up1 (i : Nat) (h : (i : Int) ≤ 4611686018427387904) : wrap64 ((i : Int) + 1) = ((i + 1 : Nat) : Int) := by rw [w64 (by omega) (by omega)]; omega
theorem At.wrap {s : ByteArray} {i : Nat} {r : List Int} (h : At s i r) (hs : Sz s) : wrap64 ((i : Int) + 1) = ((i + 1 : Nat) : Int) := up1 i (h.bound hs)
abbrev FA := Int × Int × Bool
theorem form_l2 (s : ByteArray) (hs : Sz s) (D : Int) (fr : Nat) (hfr : (fr : Int) ≤ 4611686018427387904) (dn : Bool) : ∀ (m j p : Nat) (v : List Int), j + m = 3 → At s (fr + j) v → p < 10 ^ j →
  ∃ q : Int, ∃ b : Bool, Ev (fun k => w2_form.l2 k s D (p : Int) ((fr + j : Nat) : Int) (fr : Int) dn) (D, q, b) ∧ (b = true ↔ v.all dg = true ∧ 1 ≤ j + v.length ∧ v.length ≤ m) ∧ (b = true → q = if dn then -(dvF p v : Int) else (dvF p v : Int)) := by
 intro m
 have fin : ∀ (j p : Nat) (v : List Int), j ≤ 3 → p < 1000 → At s (fr + j) v → Ev (fun k => w2_form.j11 k s D (p : Int) ((fr + j : Nat) : Int) (fr : Int) dn false) (D, (if dn then -(p : Int) else (p : Int)), decide (1 ≤ j ∧ v = [])) := by
  intro j p v hj hp ha
  refine Ev.step (f := fun _ => some (D, (if dn then -(p : Int) else (p : Int)), decide (1 ≤ j ∧ v = []))) (fun k => ?_) (Ev.now _)
  have hle := ha.le
  have hlen : v = [] ↔ v.length = 0 := List.length_eq_zero_iff.symm
  have hz : (((fr + j : Nat) : Int) == (s.size : Int)) = decide (v = []) := by
   rw [Bool.eq_iff_iff, beq_iff_eq, decide_eq_true_eq, hlen]; omega
  rw [w2_form.j11, if_neg (by simp)]
  by_cases hj1 : 1 ≤ j
  ·rw [if_pos (show ((fr + j : Nat) : Int) > (fr : Int) by omega), if_pos (show ((fr + j : Nat) : Int) > (fr : Int) by omega), hz, w64 (x := -(p : Int)) (by omega) (by omega)]
   have e : decide (1 ≤ j ∧ v = []) = decide (v = []) := decide_eq_decide.2 ⟨fun h => h.2, fun h => ⟨hj1, h⟩⟩
   rw [e]
   cases dn <;> rfl
  ·rw [if_neg (show ¬ ((fr + j : Nat) : Int) > (fr : Int) by omega), if_neg (show ¬ ((fr + j : Nat) : Int) > (fr : Int) by omega), w64 (x := -(p : Int)) (by omega) (by omega), decide_eq_false (fun h => hj1 h.1)]
   cases dn <;> rfl
 have p3 : ∀ j p : Nat, j ≤ 3 → p < 10 ^ j → p < 1000 := fun j p hj hp => Nat.lt_of_lt_of_le hp (Nat.le_trans (Nat.pow_le_pow_right (by omega) hj) (by decide))
 induction m with
 | zero =>
  intro j p v hj ha hp
  obtain rfl : j = 3 := by omega
  refine ⟨(if dn then -(p : Int) else (p : Int)), decide (1 ≤ 3 ∧ v = []), ?_, ?_, ?_⟩
  ·refine Ev.step (f := fun k => w2_form.j11 k s D (p : Int) ((fr + 3 : Nat) : Int) (fr : Int) dn false) (fun k => ?_) (fin 3 p v (by omega) (p3 3 p (by omega) hp) ha)
   rw [w2_form.l2]
   cases v with
   | nil => have := ha.nil; rw [if_neg (by omega)]
   | cons c t =>
    rw [if_pos ha.lt, if_pos (by omega), wdigit, Option.bind_some, ha.rd]
    by_cases hc : dg c = true
    ·rw [if_pos hc, decide_eq_false (by rw [w64 (by omega) (by omega)]; omega)]
    ·rw [if_neg hc]
  ·rw [decide_eq_true_eq]
   constructor
   ·rintro ⟨_, rfl⟩; exact ⟨rfl, by omega, by simp⟩
   ·rintro ⟨_, _, h⟩; exact ⟨by omega, List.length_eq_zero_iff.1 (by omega)⟩
  ·intro hb
   rw [decide_eq_true_eq] at hb
   rw [hb.2]; rfl
 | succ m ih =>
  intro j p v hj ha hp
  have hp3 := p3 j p (by omega) hp
  have stop : ∀ (h : v = [] ∨ ∃ c t, v = c :: t ∧ dg c = false), ∃ q : Int, ∃ b : Bool, Ev (fun k => w2_form.l2 k s D (p : Int) ((fr + j : Nat) : Int) (fr : Int) dn) (D, q, b) ∧ (b = true ↔ v.all dg = true ∧ 1 ≤ j + v.length ∧ v.length ≤ m + 1) ∧ (b = true → q = if dn then -(dvF p v : Int) else (dvF p v : Int)) := by
   intro h
   refine ⟨(if dn then -(p : Int) else (p : Int)), decide (1 ≤ j ∧ v = []), Ev.step (f := fun k => w2_form.j11 k s D (p : Int) ((fr + j : Nat) : Int) (fr : Int) dn false) (fun k => ?_) (fin j p v (by omega) hp3 ha), ?_, ?_⟩
   ·rw [w2_form.l2]
    rcases h with rfl | ⟨c, t, rfl, hc⟩
    ·have := ha.nil; rw [if_neg (by omega)]
    ·rw [if_pos ha.lt, if_pos (by omega), wdigit, Option.bind_some, ha.rd, if_neg (by rw [hc]; simp)]
   ·rw [decide_eq_true_eq]
    rcases h with rfl | ⟨c, t, rfl, hc⟩
    ·simp
    ·constructor
     ·rintro ⟨_, h⟩; exact absurd h (by simp)
     ·rintro ⟨h, _⟩; rw [List.all_cons, hc] at h; exact absurd h (by simp)
   ·intro hb
    rw [decide_eq_true_eq] at hb
    rw [hb.2]; rfl
  cases v with
  | nil => exact stop (.inl rfl)
  | cons c t =>
   by_cases hc : dg c = true
   ·have hr := dg_range hc
    have hp' : 10 * p + (c - 48).toNat < 10 ^ (j + 1) := by rw [Nat.pow_succ]; omega
    obtain ⟨q, b, h1, h2, h3⟩ := ih (j + 1) (10 * p + (c - 48).toNat) t (by omega) ha.next hp'
    refine ⟨q, b, Ev.step (f := fun k => w2_form.j11 k s D (p : Int) ((fr + j : Nat) : Int) (fr : Int) dn true) (fun k => ?_) (Ev.step (fun k => ?_) h1), ?_, h3⟩
    ·rw [w2_form.l2, if_pos ha.lt, if_pos (by omega), wdigit, Option.bind_some, ha.rd, if_pos hc, decide_eq_true (by rw [w64 (by omega) (by omega)]; omega)]
    ·have e1 : wrap64 (wrap64 (10 * (p : Int)) + (c - 48) % 256) = ((10 * p + (c - 48).toNat : Nat) : Int) := by
      rw [w64 (x := 10 * (p : Int)) (by omega) (by omega), w64 (by omega) (by omega)]; omega
     rw [w2_form.j11, if_pos rfl, if_pos (by omega), if_pos ha.lt, ha.rd, e1, ha.wrap hs]
     rfl
    ·rw [h2, List.all_cons, hc, Bool.true_and, List.length_cons]
     constructor
     ·rintro ⟨a, b, c⟩; exact ⟨a, by omega, by omega⟩
     ·rintro ⟨a, b, c⟩; exact ⟨a, by omega, by omega⟩
   ·exact stop (.inr ⟨c, t, rfl, by simpa using hc⟩)
theorem form_j7 (s : ByteArray) (hs : Sz s) (neg : Bool) (d : List Int) (b : Nat) (i : Nat) (r : List Int) (ha : At s i r) :
  ∃ D q : Int, ∃ ok : Bool, Ev (fun k => w2_form.j7 k s (d.length : Int) 0 (i : Int)) (D, q, ok) ∧ (match tailP neg d b r with | some z => ok = true ∧ D = d.length ∧ q = z.2.2.2 ∧ z.1 = neg ∧ z.2.1 = d ∧ z.2.2.1 = b | none => ok = false) := by
 cases r with
 | nil =>
  have h0 := ha.nil
  refine ⟨d.length, 0, true, Ev.step (f := fun _ => some ((d.length : Int), 0, true)) (fun k => ?_) (Ev.now _), rfl, rfl, rfl, rfl, rfl, rfl⟩
  rw [w2_form.j7, if_pos (by omega)]
 | cons c t =>
  have hlt := ha.lt
  by_cases hc : c = 101
  ·subst hc
   have hn := ha.next
   have hb1 := hn.bound hs
   by_cases h45 : t.head? = some 45
   ·obtain ⟨t', rfl⟩ : ∃ t', t = 45 :: t' := by
     cases t with
     | nil => simp at h45
     | cons a t' => rw [List.head?_cons] at h45; exact ⟨t', by rw [Option.some.inj h45]⟩
    have hn2 := hn.next
    have hb2 := hn2.bound hs
    obtain ⟨q, ok, h1, h2, h3⟩ := form_l2 s hs (d.length : Int) (i + 1 + 1) hb2 true 3 0 0 t' rfl hn2 (by decide)
    refine ⟨d.length, q, ok, ?_, ?_⟩
    ·refine Ev.step (f := fun k => w2_form.j8 k s d.length 0 ((i + 1 : Nat) : Int) true) (fun k => ?_) (Ev.step (f := fun k => w2_form.j9 k s d.length 0 ((i + 1 + 1 : Nat) : Int) true) (fun k => ?_) (Ev.step (f := fun k => w2_form.l2 k s d.length 0 ((i + 1 + 1 : Nat) : Int) ((i + 1 + 1 : Nat) : Int) true) (fun k => ?_) h1))
     ·rw [w2_form.j7, if_neg (by omega), if_pos (by omega), if_pos hlt, ha.rd, if_pos rfl, ha.wrap hs, if_pos hn.lt, if_pos (by omega), hn.rd]; rfl
     ·rw [w2_form.j8, if_pos rfl, hn.wrap hs]
     ·rw [w2_form.j9]
    ·have e : tailP neg d b (101 :: 45 :: t') = if t'.all dg ∧ 1 ≤ t'.length ∧ t'.length ≤ 3 then some (neg, d, b, -(dv t' : Int)) else none := rfl
     rw [e]
     by_cases hk : t'.all dg = true ∧ 1 ≤ t'.length ∧ t'.length ≤ 3
     ·rw [if_pos hk]
      have hok := h2.2 ⟨hk.1, by omega, hk.2.2⟩
      exact ⟨hok, rfl, h3 hok, rfl, rfl, rfl⟩
     ·rw [if_neg hk]
      show ok = false
      cases ok with
      | false => rfl
      | true => exact absurd ⟨(h2.1 rfl).1, by have := (h2.1 rfl).2.1; omega, (h2.1 rfl).2.2⟩ hk
   ·obtain ⟨q, ok, h1, h2, h3⟩ := form_l2 s hs (d.length : Int) (i + 1) hb1 false 3 0 0 t rfl hn (by decide)
    refine ⟨d.length, q, ok, ?_, ?_⟩
    ·refine Ev.step (f := fun k => w2_form.j8 k s d.length 0 ((i + 1 : Nat) : Int) false) (fun k => ?_) (Ev.step (f := fun k => w2_form.j9 k s d.length 0 ((i + 1 : Nat) : Int) false) (fun k => ?_) (Ev.step (f := fun k => w2_form.l2 k s d.length 0 ((i + 1 : Nat) : Int) ((i + 1 : Nat) : Int) false) (fun k => ?_) h1))
     ·rw [w2_form.j7, if_neg (by omega), if_pos (by omega), if_pos hlt, ha.rd, if_pos rfl, ha.wrap hs]
      cases t with
      | nil => have := hn.nil; rw [if_neg (by omega)]
      | cons a t' =>
       have ha45 : a ≠ 45 := fun h => h45 (by rw [List.head?_cons, h])
       rw [if_pos hn.lt, if_pos (by omega), hn.rd, beq_eq_false_iff_ne.2 ha45]
     ·rw [w2_form.j8, if_neg (by simp)]
     ·rw [w2_form.j9]
    ·have e : tailP neg d b (101 :: t) = if t.all dg ∧ 1 ≤ t.length ∧ t.length ≤ 3 then some (neg, d, b, (dv t : Int)) else none := by
      rw [tailP_cons, if_pos rfl, if_neg h45]
     rw [e]
     by_cases hk : t.all dg = true ∧ 1 ≤ t.length ∧ t.length ≤ 3
     ·rw [if_pos hk]
      have hok := h2.2 ⟨hk.1, by omega, hk.2.2⟩
      exact ⟨hok, rfl, h3 hok, rfl, rfl, rfl⟩
     ·rw [if_neg hk]
      show ok = false
      cases ok with
      | false => rfl
      | true => exact absurd ⟨(h2.1 rfl).1, by have := (h2.1 rfl).2.1; omega, (h2.1 rfl).2.2⟩ hk
  ·refine ⟨0, 0, false, Ev.step (f := fun _ => some (0, 0, false)) (fun k => ?_) (Ev.now _), ?_⟩
   ·rw [w2_form.j7, if_neg (by omega), if_pos (by omega), if_pos hlt, ha.rd, if_neg hc]
   ·rw [tailP_cons, if_neg hc]
def FormIs (z : Option (Bool × List Int × Nat × Int)) (D q : Int) (ok : Bool) : Prop :=
 match z with | some z => ok = true ∧ D = z.2.1.length ∧ q = z.2.2.2 | none => ok = false
theorem form_j7' (s : ByteArray) (hs : Sz s) (neg : Bool) (d : List Int) (b : Nat) (i : Nat) (r : List Int) (ha : At s i r) :
  ∃ D q : Int, ∃ ok : Bool, Ev (fun k => w2_form.j7 k s (d.length : Int) 0 (i : Int)) (D, q, ok) ∧ FormIs (tailP neg d b r) D q ok := by
 obtain ⟨D, q, ok, h1, h2⟩ := form_j7 s hs neg d b i r ha
 refine ⟨D, q, ok, h1, ?_⟩
 unfold FormIs
 cases hz : tailP neg d b r with
 | none => rw [hz] at h2; exact h2
 | some z => rw [hz] at h2; exact ⟨h2.1, by rw [h2.2.2.2.2.1]; exact h2.2.1, h2.2.2.1⟩
theorem form_l0 (s : ByteArray) (hs : Sz s) (fr : Nat) : ∀ (r : List Int) (i c : Nat), At s i r → (c : Int) ≤ i → ∀ {y : FA},
  Ev (fun k => w2_form.j3 k s ((c + (r.takeWhile dg).length : Nat) : Int) 0 ((i + (r.takeWhile dg).length : Nat) : Int) (fr : Int) false) y → Ev (fun k => w2_form.l0 k s (c : Int) 0 (i : Int) (fr : Int)) y := by
 intro r
 induction r with
 | nil =>
  intro i c ha hc y hy
  refine Ev.step (fun k => ?_) hy
  have := ha.nil
  rw [w2_form.l0, if_neg (by omega)]; rfl
 | cons a t ih =>
  intro i c ha hc y hy
  by_cases hd : dg a = true
  ·rw [List.takeWhile_cons_of_pos hd, List.length_cons] at hy
   refine Ev.step (f := fun k => w2_form.j3 k s (c : Int) 0 (i : Int) (fr : Int) true) (fun k => ?_) (Ev.step (fun k => ?_) (ih (i + 1) (c + 1) ha.next (by omega) (by rw [show c + 1 + (t.takeWhile dg).length = c + ((t.takeWhile dg).length + 1) by omega, show i + 1 + (t.takeWhile dg).length = i + ((t.takeWhile dg).length + 1) by omega]; exact hy)))
   ·rw [w2_form.l0, if_pos ha.lt, if_pos (by omega), wdigit, ha.rd, hd]; rfl
   ·have hb := ha.bound hs
    rw [w2_form.j3, if_pos rfl, ha.wrap hs, up1 c (by omega)]
  ·rw [List.takeWhile_cons_of_neg hd] at hy
   refine Ev.step (fun k => ?_) hy
   rw [w2_form.l0, if_pos ha.lt, if_pos (by omega), wdigit, ha.rd, show dg a = false by simpa using hd]; rfl
theorem form_l1 (s : ByteArray) (hs : Sz s) (fr : Nat) : ∀ (r : List Int) (i c : Nat), At s i r → (c : Int) ≤ i → ∀ {y : FA},
  Ev (fun k => w2_form.j6 k s ((c + (r.takeWhile dg).length : Nat) : Int) 0 ((i + (r.takeWhile dg).length : Nat) : Int) (fr : Int) false) y → Ev (fun k => w2_form.l1 k s (c : Int) 0 (i : Int) (fr : Int)) y := by
 intro r
 induction r with
 | nil =>
  intro i c ha hc y hy
  refine Ev.step (fun k => ?_) hy
  have := ha.nil
  rw [w2_form.l1, if_neg (by omega)]; rfl
 | cons a t ih =>
  intro i c ha hc y hy
  by_cases hd : dg a = true
  ·rw [List.takeWhile_cons_of_pos hd, List.length_cons] at hy
   refine Ev.step (f := fun k => w2_form.j6 k s (c : Int) 0 (i : Int) (fr : Int) true) (fun k => ?_) (Ev.step (fun k => ?_) (ih (i + 1) (c + 1) ha.next (by omega) (by rw [show c + 1 + (t.takeWhile dg).length = c + ((t.takeWhile dg).length + 1) by omega, show i + 1 + (t.takeWhile dg).length = i + ((t.takeWhile dg).length + 1) by omega]; exact hy)))
   ·rw [w2_form.l1, if_pos ha.lt, if_pos (by omega), wdigit, ha.rd, hd]; rfl
   ·have hb := ha.bound hs
    rw [w2_form.j6, if_pos rfl, ha.wrap hs, up1 c (by omega)]
  ·rw [List.takeWhile_cons_of_neg hd] at hy
   refine Ev.step (fun k => ?_) hy
   rw [w2_form.l1, if_pos ha.lt, if_pos (by omega), wdigit, ha.rd, show dg a = false by simpa using hd]; rfl
theorem At.skip {s : ByteArray} : ∀ {r : List Int} {i : Nat}, At s i r → At s (i + (r.takeWhile dg).length) (r.dropWhile dg)
 | [], i, h => h
 | a :: t, i, h => by
  by_cases hd : dg a = true
  ·rw [List.takeWhile_cons_of_pos hd, List.dropWhile_cons_of_pos hd, List.length_cons, show i + ((t.takeWhile dg).length + 1) = i + 1 + (t.takeWhile dg).length by omega]
   exact h.next.skip
  ·rw [List.takeWhile_cons_of_neg hd, List.dropWhile_cons_of_neg hd]; exact h
theorem form_body (s : ByteArray) (hs : Sz s) (neg : Bool) (i : Nat) (r : List Int) (ha : At s i r) :
  ∃ D q : Int, ∃ ok : Bool, Ev (fun k => w2_form.l0 k s 0 0 (i : Int) (i : Int)) (D, q, ok) ∧ FormIs (bodyP neg r) D q ok := by
 have hb := ha.bound hs
 have hk := ha.skip
 have hkb := hk.bound hs
 unfold bodyP
 obtain ⟨d1, hd1⟩ : ∃ d1, r.takeWhile dg = d1 := ⟨_, rfl⟩
 have start : ∀ {y : FA}, Ev (fun k => w2_form.j3 k s ((d1.length : Nat) : Int) 0 ((i + d1.length : Nat) : Int) (i : Int) false) y → Ev (fun k => w2_form.l0 k s 0 0 (i : Int) (i : Int)) y := fun h => form_l0 s hs i r i 0 ha (by omega) (by rw [hd1, Nat.zero_add]; exact h)
 rw [hd1] at hk hkb ⊢
 by_cases h0 : d1 = []
 ·rw [if_pos h0]
  subst h0
  refine ⟨0, 0, false, start (Ev.step (f := fun _ => some (0, 0, false)) (fun k => ?_) (Ev.now _)), rfl⟩
  rw [w2_form.j3, if_neg (by simp)]
  exact if_pos (by simp)
 ·rw [if_neg h0]
  have hl : 1 ≤ d1.length := by cases d1 with | nil => exact absurd rfl h0 | cons a t => simp
  have hne : ¬ ((i + d1.length : Nat) : Int) = (i : Int) := by omega
  obtain ⟨u, hu⟩ : ∃ u, r.dropWhile dg = u := ⟨_, rfl⟩
  rw [hu] at hk ⊢
  have plain : (u = [] ∨ ∃ c t, u = c :: t ∧ c ≠ 46) → ∃ D q : Int, ∃ ok : Bool, Ev (fun k => w2_form.l0 k s 0 0 (i : Int) (i : Int)) (D, q, ok) ∧ FormIs (tailP neg d1 0 u) D q ok := by
   intro hc
   obtain ⟨D, q, ok, h1, h2⟩ := form_j7' s hs neg d1 0 _ u hk
   refine ⟨D, q, ok, start (Ev.step (f := fun k => w2_form.j4 k s ((d1.length : Nat) : Int) 0 ((i + d1.length : Nat) : Int) true) (fun k => ?_) (Ev.step (fun k => ?_) h1)), h2⟩
   ·rw [w2_form.j3, if_neg (by simp), if_neg hne]
    rcases hc with rfl | ⟨c, t, rfl, hc⟩
    ·have := hk.nil; rw [if_pos (by omega)]
    ·have := hk.lt
     rw [if_neg (by omega), if_pos (by omega), if_pos hk.lt, hk.rd, bne_iff_ne.2 hc]
   ·rw [w2_form.j4, if_pos rfl]
  cases u with
  | nil => exact plain (.inl rfl)
  | cons c t =>
   simp only
   by_cases hc : c = 46
   ·subst hc
    rw [if_pos rfl]
    have hn := hk.next
    have hnb := hn.bound hs
    have hn2 := hn.skip
    obtain ⟨d2, hd2⟩ : ∃ d2, t.takeWhile dg = d2 := ⟨_, rfl⟩
    have go : ∀ {y : FA}, Ev (fun k => w2_form.j6 k s ((d1.length + d2.length : Nat) : Int) 0 ((i + d1.length + 1 + d2.length : Nat) : Int) ((i + d1.length + 1 : Nat) : Int) false) y → Ev (fun k => w2_form.l0 k s 0 0 (i : Int) (i : Int)) y := by
     intro y h
     have h3 := form_l1 s hs (i + d1.length + 1) t (i + d1.length + 1) d1.length hn (by omega) (y := y) (by rw [hd2]; exact h)
     refine start (Ev.step (f := fun k => w2_form.j4 k s ((d1.length : Nat) : Int) 0 ((i + d1.length : Nat) : Int) false) (fun k => ?_) (Ev.step (fun k => ?_) h3))
     ·have := hk.lt
      rw [w2_form.j3, if_neg (by simp), if_neg hne, if_neg (by omega), if_pos (by omega), if_pos hk.lt, hk.rd]; rfl
     ·rw [w2_form.j4, if_neg (by simp), hk.wrap hs]
    rw [hd2] at hn2 ⊢
    by_cases h2 : d2 = []
    ·rw [if_pos h2]
     subst h2
     refine ⟨0, 0, false, go (Ev.step (f := fun _ => some (0, 0, false)) (fun k => ?_) (Ev.now _)), rfl⟩
     rw [w2_form.j6, if_neg (by simp)]
     exact if_pos (by simp)
    ·rw [if_neg h2]
     have hl2 : 1 ≤ d2.length := by cases d2 with | nil => exact absurd rfl h2 | cons a t => simp
     obtain ⟨D, q, ok, h3, h4⟩ := form_j7' s hs neg (d1 ++ d2) d2.length _ _ hn2
     refine ⟨D, q, ok, go (Ev.step (fun k => ?_) h3), h4⟩
     rw [w2_form.j6, if_neg (by simp), if_neg (by omega), List.length_append]
   ·rw [if_neg hc]
    exact plain (.inr ⟨c, t, rfl, hc⟩)
theorem form_ok (s : ByteArray) (hs : Sz s) : ∃ D q : Int, ∃ ok : Bool, Ev (fun k => w2_form.f k s) (D, q, ok) ∧ FormIs (numP (bytesOf s)) D q ok := by
 have ha := At.start s
 obtain ⟨L, hL⟩ : ∃ L, bytesOf s = L := ⟨_, rfl⟩
 rw [hL] at ha ⊢
 cases L with
 | nil =>
  have h0 := ha.nil
  obtain ⟨D, q, ok, h1, h2⟩ := form_body s hs false 0 [] ha
  refine ⟨D, q, ok, ?_, h2⟩
  refine Ev.congr (f := fun k => w2_form.j0 k s 0 0 0 false) (fun k => ?_) (Ev.step (f := fun k => w2_form.j1 k s 0 0 0) (fun k => ?_) (Ev.step (fun k => ?_) h1))
  ·unfold w2_form.f; rw [if_neg (by omega)]
  ·rw [w2_form.j0, if_neg (by simp)]
  ·rw [w2_form.j1]; rfl
 | cons c t =>
  have hlt := ha.lt
  have hrd := ha.rd
  by_cases hc : c = 45
  ·subst hc
   obtain ⟨D, q, ok, h1, h2⟩ := form_body s hs true 1 t ha.next
   refine ⟨D, q, ok, ?_, by show FormIs (if (45 : Int) = 45 then bodyP true t else bodyP false (45 :: t)) D q ok; rw [if_pos rfl]; exact h2⟩
   refine Ev.congr (f := fun k => w2_form.j0 k s 0 0 0 true) (fun k => ?_) (Ev.step (f := fun k => w2_form.j1 k s 0 0 1) (fun k => ?_) (Ev.step (fun k => ?_) h1))
   ·unfold w2_form.f; rw [if_pos (by omega), if_pos (by omega)]
    rw [show (0 : Int) = ((0 : Nat) : Int) from rfl, hrd]; rfl
   ·rw [w2_form.j0, if_pos rfl]
   ·rw [w2_form.j1]; rfl
  ·obtain ⟨D, q, ok, h1, h2⟩ := form_body s hs false 0 (c :: t) ha
   refine ⟨D, q, ok, ?_, by show FormIs (if c = 45 then bodyP true t else bodyP false (c :: t)) D q ok; rw [if_neg hc]; exact h2⟩
   refine Ev.congr (f := fun k => w2_form.j0 k s 0 0 0 false) (fun k => ?_) (Ev.step (f := fun k => w2_form.j1 k s 0 0 0) (fun k => ?_) (Ev.step (fun k => ?_) h1))
   ·unfold w2_form.f; rw [if_pos (by omega), if_pos (by omega)]
    have e : bt s 0 = c := hrd
    rw [e, beq_eq_false_iff_ne.2 hc]
   ·rw [w2_form.j0, if_neg (by simp)]
   ·rw [w2_form.j1]; rfl
end Go.Proofs.YtfmjdoofopamkaaGreatDoor.Plain
namespace Go.Proofs.YtfmjdoofopamkaaGreatDoor.Plain
open Go.RowKit Go.Proofs.YtfmjdoofopamkaaGreatDoorW.PrintWords Go.Proofs.YtfmjdoofopamkaaGreatDoorW.PrintLast Go.Proofs.YtfmjdoofopamkaaGreatDoorW.PrintMore Go.Proofs.YtfmjdoofopamkaaGreatDoor.W
set_option linter.unusedVariables false
set_option linter.unusedSimpArgs false
set_option exponentiation.threshold 3000
theorem read_step (s : ByteArray) (hs : Sz s) (n b : Nat) (pt : Bool) (i : Nat) (c : Int) (t : List Int) (ha : At s i (c :: t)) (hn : n < 10 ^ 17) (hb : b ≤ 100) (hc : dg c = true) (hlt : 10 * n + (c - 48).toNat < 10 ^ 18) (k : Nat) :
  w2_read.l0 (k + 1) s (n : Int) (b : Int) pt (s.size : Int) (i : Int) = w2_read.l0 k s ((10 * n + (c - 48).toNat : Nat) : Int) ((if pt then b + 1 else b : Nat) : Int) pt (s.size : Int) ((i + 1 : Nat) : Int) := by
 have hr := dg_range hc
 have e1 : IntKind.u64.wrap (IntKind.u64.wrap (10 * (n : Int)) + (c - 48) % 256) = ((10 * n + (c - 48).toNat : Nat) : Int) := by
  rw [wu64 (x := 10 * (n : Int)) (by omega) (by omega), wu64 (by omega) (by omega)]; omega
 have e2 : wrap64 ((b : Int) + 1) = ((b + 1 : Nat) : Int) := up1 b (by omega)
 rw [w2_read.l0, if_pos ha.lt, if_pos (by omega), if_pos ha.lt, ha.rd, if_neg (by omega), if_neg (by omega), wdigit, Option.bind_some, if_pos hc, e1, e2, ha.wrap hs]
 cases pt <;> rfl
theorem read_digits (s : ByteArray) (hs : Sz s) (pt : Bool) : ∀ (r : List Int) (i n b m : Nat), At s i r → n < 10 ^ m → m + (r.takeWhile dg).length ≤ 17 → b + (r.takeWhile dg).length ≤ 100 → ∀ {y : Int × Int},
  Ev (fun k => w2_read.l0 k s ((dvF n (r.takeWhile dg) : Nat) : Int) ((if pt then b + (r.takeWhile dg).length else b : Nat) : Int) pt (s.size : Int) ((i + (r.takeWhile dg).length : Nat) : Int)) y →
  Ev (fun k => w2_read.l0 k s (n : Int) (b : Int) pt (s.size : Int) (i : Int)) y := by
 intro r
 induction r with
 | nil =>
  intro i n b m ha hn hm hb y hy
  have e : (if pt = true then b + 0 else b) = b := by split <;> rfl
  simp only [List.takeWhile_nil, List.length_nil, e] at hy
  exact hy
 | cons c t ih =>
  intro i n b m ha hn hm hb y hy
  by_cases hc : dg c = true
  ·rw [List.takeWhile_cons_of_pos hc] at hy hm hb
   rw [List.length_cons] at hy hm hb
   have hr := dg_range hc
   have hn2 : 10 * n + (c - 48).toNat < 10 ^ (m + 1) := by rw [Nat.pow_succ]; omega
   have h17 : n < 10 ^ 17 := Nat.lt_of_lt_of_le hn (Nat.pow_le_pow_right (by omega) (by omega))
   have h18 : 10 * n + (c - 48).toNat < 10 ^ 18 := Nat.lt_of_lt_of_le hn2 (Nat.pow_le_pow_right (by omega) (by omega))
   refine Ev.step (fun k => read_step s hs n b pt i c t ha h17 (by omega) hc h18 k) (ih (i + 1) (10 * n + (c - 48).toNat) (if pt then b + 1 else b) (m + 1) ha.next hn2 (by omega) (by split <;> omega) ?_)
   have e1 : (if pt = true then (if pt = true then b + 1 else b) + (t.takeWhile dg).length else (if pt = true then b + 1 else b)) = (if pt = true then b + ((t.takeWhile dg).length + 1) else b) := by
    cases pt
    ·rfl
    ·show b + 1 + (t.takeWhile dg).length = b + ((t.takeWhile dg).length + 1); omega
   rw [e1, show i + 1 + (t.takeWhile dg).length = i + ((t.takeWhile dg).length + 1) by omega]
   exact hy
  ·rw [List.takeWhile_cons_of_neg hc] at hy
   have e : (if pt = true then b + 0 else b) = b := by split <;> rfl
   simp only [List.length_nil, e] at hy
   exact hy
theorem read_end (s : ByteArray) (n b : Int) (pt : Bool) (i : Nat) (neg : Bool) (d : List Int) (b' : Nat) (r : List Int) (ha : At s i r) (hz : tailP neg d b' r ≠ none) : Ev (fun k => w2_read.l0 k s n b pt (s.size : Int) (i : Int)) (n, b) := by
 refine Ev.step (f := fun _ => some (n, b)) (fun k => ?_) (Ev.now _)
 cases r with
 | nil => have := ha.nil; rw [w2_read.l0, if_neg (by omega)]
 | cons c t =>
  have hc : c = 101 := by
   by_cases hc : c = 101
   ·exact hc
   ·exact absurd (by rw [tailP_cons, if_neg hc]) hz
  rw [w2_read.l0, if_pos ha.lt, if_pos (by omega), if_pos ha.lt, ha.rd, if_pos hc]
theorem tailP_some {neg : Bool} {d : List Int} {b : Nat} {r : List Int} {z : Bool × List Int × Nat × Int} (h : tailP neg d b r = some z) : z.1 = neg ∧ z.2.1 = d ∧ z.2.2.1 = b := by
 cases r with
 | nil => obtain rfl := Option.some.inj h; exact ⟨rfl, rfl, rfl⟩
 | cons c t =>
  rw [tailP_cons] at h
  split at h
  ·split at h
   ·split at h
    ·obtain rfl := Option.some.inj h; exact ⟨rfl, rfl, rfl⟩
    ·exact absurd h (by simp)
   ·split at h
    ·obtain rfl := Option.some.inj h; exact ⟨rfl, rfl, rfl⟩
    ·exact absurd h (by simp)
  ·exact absurd h (by simp)
theorem read_body (s : ByteArray) (hs : Sz s) (neg : Bool) (i : Nat) (r : List Int) (ha : At s i r) (z : Bool × List Int × Nat × Int) (hz : bodyP neg r = some z) (h17 : z.2.1.length ≤ 17) :
  Ev (fun k => w2_read.l0 k s 0 0 false (s.size : Int) (i : Int)) (((dv z.2.1 : Nat) : Int), ((z.2.2.1 : Nat) : Int)) ∧ z.1 = neg ∧ z.2.1.all dg = true ∧ z.2.2.1 ≤ z.2.1.length := by
 have hk := ha.skip
 unfold bodyP at hz
 obtain ⟨d1, hd1⟩ : ∃ d1, r.takeWhile dg = d1 := ⟨_, rfl⟩
 have hall := tw_all r
 have seg : d1.length ≤ 17 → ∀ {y : Int × Int}, Ev (fun k => w2_read.l0 k s ((dv d1 : Nat) : Int) 0 false (s.size : Int) ((i + d1.length : Nat) : Int)) y → Ev (fun k => w2_read.l0 k s 0 0 false (s.size : Int) (i : Int)) y := by
  intro hl y h
  exact read_digits s hs false r i 0 0 0 ha (by decide) (by rw [hd1]; omega) (by rw [hd1]; omega) (by rw [hd1]; exact h)
 rw [hd1] at hk hz hall
 by_cases h0 : d1 = []
 ·rw [if_pos h0] at hz; exact absurd hz (by simp)
 ·rw [if_neg h0] at hz
  obtain ⟨u, hu⟩ : ∃ u, r.dropWhile dg = u := ⟨_, rfl⟩
  rw [hu] at hk hz
  have plain : tailP neg d1 0 u = some z → Ev (fun k => w2_read.l0 k s 0 0 false (s.size : Int) (i : Int)) (((dv z.2.1 : Nat) : Int), ((z.2.2.1 : Nat) : Int)) ∧ z.1 = neg ∧ z.2.1.all dg = true ∧ z.2.2.1 ≤ z.2.1.length := by
   intro h
   obtain ⟨e1, e2, e3⟩ := tailP_some h
   rw [e2] at h17
   refine ⟨?_, e1, by rw [e2]; exact hall, by rw [e3]; exact Nat.zero_le _⟩
   rw [e2, e3]
   exact seg h17 (read_end s _ 0 false _ neg d1 0 u hk (by rw [h]; simp))
  cases u with
  | nil => exact plain hz
  | cons c t =>
   simp only at hz
   by_cases hc : c = 46
   ·subst hc
    rw [if_pos rfl] at hz
    have hn := hk.next
    have hn2 := hn.skip
    obtain ⟨d2, hd2⟩ : ∃ d2, t.takeWhile dg = d2 := ⟨_, rfl⟩
    have hall2 := tw_all t
    rw [hd2] at hn2 hz hall2
    by_cases h2 : d2 = []
    ·rw [if_pos h2] at hz; exact absurd hz (by simp)
    ·rw [if_neg h2] at hz
     obtain ⟨e1, e2, e3⟩ := tailP_some hz
     rw [e2, List.length_append] at h17
     refine ⟨?_, e1, by rw [e2, List.all_append, hall, hall2]; rfl, by rw [e2, e3, List.length_append]; omega⟩
     rw [e2, e3]
     refine seg (by omega) (Ev.step (f := fun k => w2_read.l0 k s ((dv d1 : Nat) : Int) 0 true (s.size : Int) ((i + d1.length + 1 : Nat) : Int)) (fun k => ?_) ?_)
     ·rw [w2_read.l0, if_pos hk.lt, if_pos (by omega), if_pos hk.lt, hk.rd, if_neg (by omega), if_pos rfl, hk.wrap hs]
     ·have hdv := dv_lt d1 hall
      refine read_digits s hs true t (i + d1.length + 1) (dv d1) 0 d1.length hn hdv (by rw [hd2]; omega) (by rw [hd2]; omega) ?_
      rw [hd2]
      have e : dvF (dv d1) d2 = dv (d1 ++ d2) := (dvF_append 0 d1 d2).symm
      rw [e, if_pos rfl, Nat.zero_add]
      exact read_end s _ _ true _ neg (d1 ++ d2) d2.length _ hn2 (by rw [hz]; simp)
   ·rw [if_neg hc] at hz
    exact plain hz
theorem read_ok (s : ByteArray) (hs : Sz s) (z : Bool × List Int × Nat × Int) (hz : numP (bytesOf s) = some z) (h17 : z.2.1.length ≤ 17) :
  Ev (fun k => w2_read.f k s) (((dv z.2.1 : Nat) : Int), ((z.2.2.1 : Nat) : Int)) ∧ z.2.1.all dg = true ∧ z.2.2.1 ≤ z.2.1.length ∧ (0 : Int) < s.size ∧ (bt s 0 = 45 ↔ z.1 = true) := by
 have ha := At.start s
 obtain ⟨L, hL⟩ : ∃ L, bytesOf s = L := ⟨_, rfl⟩
 rw [hL] at ha hz
 cases L with
 | nil => exact absurd hz (by simp [numP])
 | cons c t =>
  have hlt := ha.lt
  have hrd : bt s 0 = c := ha.rd
  have hnum : numP (c :: t) = if c = 45 then bodyP true t else bodyP false (c :: t) := rfl
  rw [hnum] at hz
  by_cases hc : c = 45
  ·rw [if_pos hc] at hz
   obtain ⟨h1, h2, h3, h4⟩ := read_body s hs true 1 t ha.next z hz h17
   refine ⟨?_, h3, h4, by omega, by rw [hrd, hc, h2]; simp⟩
   refine Ev.step (f := fun k => w2_read.l0 k s 0 0 false (s.size : Int) ((1 : Nat) : Int)) (fun k => ?_) h1
   show w2_read.l0 (k + 1) s 0 0 false (s.size : Int) 0 = _
   have e : dg (45 : Int) = false := by decide
   rw [w2_read.l0, if_pos (by omega), if_pos (by omega), if_pos (by omega), hrd, hc, if_neg (by omega), if_neg (by omega), wdigit, Option.bind_some, e, if_neg (by simp), w64 (x := (0 : Int) + 1) (by omega) (by omega)]
   rfl
  ·rw [if_neg hc] at hz
   obtain ⟨h1, h2, h3, h4⟩ := read_body s hs false 0 (c :: t) ha z hz h17
   refine ⟨h1, h3, h4, by omega, ?_⟩
   rw [hrd, h2]
   exact ⟨fun h => absurd h hc, fun h => absurd h (by simp)⟩
def decW (n : Nat) (x : Int) : Nat := wordQ (n * 10 ^ x.toNat * 2 ^ 1074) (10 ^ (-x).toNat)
abbrev sInf : List UInt8 := [105, 110, 102]
abbrev sNinf : List UInt8 := [45, 105, 110, 102]
def numOk (z : Bool × List Int × Nat × Int) : Prop := z.2.1.length ≤ 17 ∧ -400 ≤ z.2.2.2 ∧ z.2.2.2 ≤ 400
instance (z : Bool × List Int × Nat × Int) : Decidable (numOk z) := by unfold numOk; infer_instance
def parseN (z : Option (Bool × List Int × Nat × Int)) : Nat × Int :=
 match z with
 | none => (0, 20)
 | some z => if numOk z then (if decW (dv z.2.1) (z.2.2.2 - z.2.2.1) = INF then (0, 21) else ((if z.1 then P63 else 0) + decW (dv z.2.1) (z.2.2.2 - z.2.2.1), 0)) else (0, 20)
def parseS (s : ByteArray) : Nat × Int := if s.toList = sInf then (INF, 0) else if s.toList = sNinf then (NINF, 0) else parseN (numP (bytesOf s))
theorem copysign_neg (w : Nat) (h : w < INF) : math_Copysign.f w 13830554455654793216 = some (P63 + w) := by
 unfold math_Copysign.f
 have hw : w < P63 := by unfold P63 INF at *; omega
 have e1 : Go.bits .and .u64 ((13830554455654793216 : Nat) : Int) 9223372036854775808 = ((2 ^ 63 : Nat) : Int) := by
  have := u64_and 13830554455654793216 9223372036854775808 (by omega) (by omega)
  refine this.trans ?_
  rw [show 13830554455654793216 &&& 9223372036854775808 = 2 ^ 63 by decide]
 rw [andNot_sign' w (by unfold INF at h; omega), Nat.mod_eq_of_lt (show w < 9223372036854775808 from hw), e1, u64_or w (2 ^ 63) (by unfold INF at h; omega) (by omega), Nat.or_comm]
 have e2 : 2 ^ 63 ||| w = P63 + w := by
  have := Nat.two_pow_add_eq_or_of_lt (i := 63) (b := w) hw 1
  rw [Nat.mul_one] at this
  exact this.symm
 rw [e2]; rfl
theorem bl_pow10 (n : Nat) : bl (10 ^ n) ≤ 4 * n + 1 := by
 refine bl_le ?_
 have h1 : 10 ^ n ≤ 16 ^ n := Nat.pow_le_pow_left (by omega) n
 have h2 : 16 ^ n = 2 ^ (4 * n) := by rw [show 16 = 2 ^ 4 from rfl, ← Nat.pow_mul]
 have h3 : 2 ^ (4 * n) < 2 ^ (4 * n + 1) := Nat.pow_lt_pow_right (by omega) (by omega)
 omega
theorem bl_mul10 (a n : Nat) : bl (a * 10 ^ n) ≤ bl a + 4 * n + 1 := by
 refine bl_le ?_
 by_cases h0 : a = 0
 ·subst h0; rw [Nat.zero_mul]; exact Nat.two_pow_pos _
 have h1 := lt_two_bl a
 have h2 := lt_two_bl (10 ^ n)
 have h3 := bl_pow10 n
 have h4 : a * 10 ^ n < 2 ^ bl a * 2 ^ bl (10 ^ n) := Nat.mul_lt_mul_of_lt_of_lt h1 h2
 rw [← Nat.pow_add] at h4
 exact Nat.lt_of_lt_of_le h4 (Nat.pow_le_pow_right (by omega) (by omega))
theorem parse_num (n : Nat) (p : Int) (hn : n ≠ 0) (h17 : n < 10 ^ 18) (hp0 : -1000 ≤ p) (hp1 : p ≤ 1000) {β : Type} {g : Nat → Nat → Option β} {y : β} (h : Ev (fun k => g k (decW n p)) y) :
  Ev (fun k => (w2_natOf.f k (n : Int)).bind fun t337 => ((wn_ten.f k t337 p).bind fun t340 => ((w2_natOf.f k 1).bind fun t343 => ((wn_ten.f k t343 (wrap64 (-p))).bind fun t346 => ((w2_rounded.f k t340 t346 0).bind fun t349 => g k t349))))) y := by
 have hb : bl n ≤ 60 := bl_le (Nat.lt_of_lt_of_le h17 (by decide))
 have h1 := bl_mul10 n p.toNat
 have h2 := bl_pow10 (-p).toNat
 have hA : n * 10 ^ p.toNat ≠ 0 := Nat.mul_ne_zero hn (Nat.ne_of_gt (Nat.pow_pos (by omega)))
 have hB : 1 * 10 ^ (-p).toNat ≠ 0 := Nat.mul_ne_zero (by omega) (Nat.ne_of_gt (Nat.pow_pos (by omega)))
 obtain ⟨A, hAe⟩ : ∃ A, n * 10 ^ p.toNat = A := ⟨_, rfl⟩
 obtain ⟨B, hBe⟩ : ∃ B, 1 * 10 ^ (-p).toNat = B := ⟨_, rfl⟩
 have hsA : Small (n * 10 ^ p.toNat) := by unfold Small; omega
 have hsB : Small (1 * 10 ^ (-p).toNat) := by unfold Small; rw [Nat.one_mul]; omega
 have t1 := ten_ok n p (by omega) hsA
 have t2 := ten_ok 1 (-p) (by omega) hsB
 have hblA : bl A ≤ 100000 := by rw [← hAe]; omega
 have hblB : bl B ≤ 100000 := by rw [← hBe, Nat.one_mul]; omega
 have hd : decW n p = wordQ (A * 2 ^ 1074) B := by unfold decW; rw [hAe, ← hBe, Nat.one_mul]
 rw [hAe] at t1 hA
 rw [hBe] at t2 hB
 rw [hd] at h
 have hr := rounded_ok A B 1074 hA hB (by omega) (by omega) (by omega)
 rw [show ((1074 : Nat) : Int) - 1074 = 0 by omega] at hr
 refine Ev.bind (natOf_ok n (by omega)) (Ev.bind t1 (Ev.bind (natOf_ok 1 (by omega)) ?_))
 rw [w64 (x := -p) (by omega) (by omega)]
 exact Ev.bind t2 (Ev.bind hr h)
theorem parse_ok (s : ByteArray) (hs : Sz s) : Ev (fun k => w2_Parse.f k s) (parseS s) := by
 unfold w2_Parse.f parseS
 by_cases h1 : s.toList = sInf
 ·rw [if_pos h1]
  exact Ev.congr (f := fun _ => some (INF, 0)) (fun k => by rw [if_pos h1]; rfl) (Ev.now _)
 ·rw [if_neg h1]
  by_cases h2 : s.toList = sNinf
  ·rw [if_pos h2]
   exact Ev.congr (f := fun _ => some (NINF, 0)) (fun k => by rw [if_neg h1, if_pos h2]; rfl) (Ev.now _)
  ·rw [if_neg h2]
   refine Ev.congr (fun k => by rw [if_neg h1, if_neg h2]) ?_
   obtain ⟨D, q, ok, hf, hi⟩ := form_ok s hs
   refine Ev.bind hf ?_
   simp only
   have bad : Ev (fun k => w2_Parse.j0 k s q true) (0, 20) := Ev.step (f := fun _ => some (0, 20)) (fun k => by rw [w2_Parse.j0, if_pos rfl]) (Ev.now _)
   cases hz : numP (bytesOf s) with
   | none =>
    rw [hz] at hi
    have hok : ok = false := hi
    refine Ev.congr (fun k => by rw [if_neg (by rw [hok]; simp)]) bad
   | some z =>
    rw [hz] at hi
    obtain ⟨hok, hD, hq⟩ := hi
    unfold parseN
    simp only
    by_cases hb : numOk z
    ·rw [if_pos hb]
     obtain ⟨b1, b2, b3⟩ := hb
     refine Ev.congr (f := fun k => w2_Parse.j0 k s q false) (fun k => by rw [if_pos hok, if_neg (by omega), if_neg (by omega), decide_eq_false (by omega)]) ?_
     obtain ⟨r1, r2, r3, r4, r5⟩ := read_ok s hs z hz b1
     obtain ⟨n, hn⟩ : ∃ n, dv z.2.1 = n := ⟨_, rfl⟩
     obtain ⟨p, hp⟩ : ∃ p : Int, z.2.2.2 - z.2.2.1 = p := ⟨_, rfl⟩
     rw [hn] at r1 ⊢
     rw [hp]
     have hp0 : -1000 ≤ p ∧ p ≤ 1000 := by omega
     have hn18 : n < 10 ^ 18 := by
      rw [← hn]; exact Nat.lt_of_lt_of_le (dv_lt z.2.1 r2) (Nat.pow_le_pow_right (by omega) (by omega))
     have fin : Ev (fun k => w2_Parse.j1 k s (decW n p)) (if decW n p = INF then (0, 21) else ((if z.1 then P63 else 0) + decW n p, 0)) := by
      obtain ⟨w, hw⟩ : ∃ w, decW n p = w := ⟨_, rfl⟩
      have hwle : w ≤ INF := by rw [← hw]; exact wordQ_le _ _
      rw [hw]
      refine Ev.step (f := fun _ => some (if w = INF then ((0 : Nat), (21 : Int)) else ((if z.1 then P63 else 0) + w, 0))) (fun k => ?_) (Ev.now _)
      rw [w2_Parse.j1, isinf0_ok w (by unfold INF at hwle; omega), Option.bind_some, Nat.mod_eq_of_lt (show w < P63 by unfold INF P63 at *; omega)]
      by_cases hi2 : w = INF
      ·rw [if_pos (decide_eq_true hi2), if_pos hi2]
      ·rw [if_neg (by rw [decide_eq_false hi2]; simp), if_neg hi2, if_pos r4]
       by_cases hneg : z.1 = true
       ·rw [if_pos (r5.2 hneg), if_pos hneg, copysign_neg w (by omega)]; rfl
       ·rw [if_neg (fun h => hneg (r5.1 h)), if_neg hneg, Nat.zero_add]
     refine Ev.step (fun k => by rw [w2_Parse.j0, if_neg (by simp)]) (Ev.bind r1 ?_)
     simp only
     by_cases h0 : n = 0
     ·have e : decW n p = 0 := by
       unfold decW; rw [h0, Nat.zero_mul, Nat.zero_mul]; exact wordQ_zero _ (Nat.pow_pos (by omega))
      rw [e] at fin
      refine Ev.congr (fun k => by rw [if_neg (by omega)]) ?_
      rw [e]; exact fin
     ·refine Ev.congr (fun k => by rw [if_pos (show (n : Int) > 0 by omega), hq, w64 (x := z.2.2.2 - z.2.2.1) (by omega) (by omega), hp]) ?_
      exact parse_num n p h0 hn18 hp0.1 hp0.2 fin
    ·rw [if_neg hb]
     unfold numOk at hb
     by_cases c1 : D > 17
     ·exact Ev.congr (fun k => by rw [if_pos hok, if_pos c1]) bad
     ·by_cases c2 : q < -400
      ·exact Ev.congr (fun k => by rw [if_pos hok, if_neg c1, if_pos c2]) bad
      ·have c3 : q > 400 := by
        by_cases c3 : q > 400
        ·exact c3
        ·exact absurd ⟨by omega, by omega, by omega⟩ hb
       exact Ev.congr (fun k => by rw [if_pos hok, if_neg c1, if_neg c2, decide_eq_true c3]) bad
end Go.Proofs.YtfmjdoofopamkaaGreatDoor.Plain
