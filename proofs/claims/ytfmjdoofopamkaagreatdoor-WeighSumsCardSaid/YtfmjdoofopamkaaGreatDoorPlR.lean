import Derived.Test.YtfmjdoofopamkaaGreatDoorPlF
import Derived.Test.YtfmjdoofopamkaaGreatDoorPlA
import Derived.Test.YtfmjdoofopamkaaGreatDoorWx5
import Derived.Test.YtfmjdoofopamkaaGreatDoorWx9
import Derived.Test.YtfmjdoofopamkaaGreatDoorWx10
import Derived.Test.YtfmjdoofopamkaaGreatDoorWx11
namespace Go.Proofs.YtfmjdoofopamkaaGreatDoor.Plain
open Go.RowKit Go.Proofs.YtfmjdoofopamkaaGreatDoorW.PrintWords Go.Proofs.YtfmjdoofopamkaaGreatDoorW.PrintLast Go.Proofs.YtfmjdoofopamkaaGreatDoorW.PrintMore Go.Proofs.YtfmjdoofopamkaaGreatDoor.W
set_option linter.unusedVariables false
set_option linter.unusedSimpArgs false
set_option exponentiation.threshold 3000
def ulp (p q : Nat) : Nat := bl (p / q) - 53
theorem wordQ_ulp (p q : Nat) : wordQ p q = min (ulp p q * P52 + rne p (q * 2 ^ ulp p q)) INF := rfl
theorem rne_ge (p q : Nat) : p / q ≤ rne p q := by unfold rne; split <;> omega
theorem rne_le (p q : Nat) : rne p q ≤ p / q + 1 := by unfold rne; split <;> omega
theorem ulp_bounds (p q : Nat) : rne p (q * 2 ^ ulp p q) ≤ 2 * P52 ∧ (ulp p q = 0 ∨ P52 ≤ rne p (q * 2 ^ ulp p q)) := by
 have e : p / (q * 2 ^ ulp p q) = p / q / 2 ^ ulp p q := (Nat.div_div_eq_div_mul p q _).symm
 have h1 := rne_ge p (q * 2 ^ ulp p q)
 have h2 := rne_le p (q * 2 ^ ulp p q)
 rw [e] at h1 h2
 obtain ⟨n, hn⟩ : ∃ n, p / q = n := ⟨_, rfl⟩
 have hu : ulp p q = bl n - 53 := by unfold ulp; rw [hn]
 rw [hn] at h1 h2
 obtain ⟨u, hu2⟩ : ∃ u, ulp p q = u := ⟨_, rfl⟩
 rw [hu2] at h1 h2 hu ⊢
 have hlt : n / 2 ^ u < 2 * P52 := by
  rw [Nat.div_lt_iff_lt_mul (Nat.two_pow_pos u)]
  have h3 := lt_two_bl n
  have h4 : 2 ^ bl n ≤ 2 ^ (53 + u) := Nat.pow_le_pow_right (by omega) (by omega)
  rw [Nat.pow_add] at h4
  have h5 : 2 * P52 = 2 ^ 53 := by decide
  rw [h5]; omega
 refine ⟨by omega, ?_⟩
 by_cases h0 : u = 0
 ·exact .inl h0
 ·right
  refine Nat.le_trans ?_ h1
  rw [Nat.le_div_iff_mul_le (Nat.two_pow_pos u)]
  have hn0 : n ≠ 0 := by rintro rfl; simp [bl] at hu; omega
  have h3 := two_bl_le hn0
  have h4 : P52 * 2 ^ u = 2 ^ (bl n - 1) := by rw [show P52 = 2 ^ 52 from rfl, ← Nat.pow_add]; congr 1; omega
  omega
theorem wordQ_int (R U : Nat) (hR : R ≤ 2 * P52) (h : U = 0 ∨ P52 ≤ R) : wordQ (R * 2 ^ U) 1 = min (U * P52 + R) INF := by
 unfold wordQ
 rw [Nat.div_one, Nat.one_mul]
 by_cases h0 : R < P52
 ·have hU : U = 0 := by omega
  subst hU
  rw [Nat.pow_zero, Nat.mul_one]
  have hb : bl R ≤ 52 := bl_le h0
  rw [show bl R - 53 = 0 by omega, Nat.pow_zero, rne_one]
 ·have hR0 : R ≠ 0 := by unfold P52 at *; omega
  rw [bl_mul_pow hR0]
  by_cases h1 : R < 2 * P52
  ·have h53 : 2 * P52 = 2 ^ (52 + 1) := by decide
   have hb : bl R = 53 := bl_eq (k := 52) (by show P52 ≤ R; omega) (by rw [← h53]; exact h1)
   rw [hb, Nat.add_sub_cancel_left, rne_exact _ _ (Nat.two_pow_pos U)]
  ·have e : R = 2 * P52 := by omega
   have hb : bl R = 54 := by rw [e]; decide
   rw [hb, show 54 + U - 53 = U + 1 by omega, e]
   have e2 : 2 * P52 * 2 ^ U = P52 * 2 ^ (U + 1) := by rw [Nat.pow_succ, Nat.mul_comm 2 P52, Nat.mul_assoc, Nat.mul_comm 2]
   rw [e2, rne_exact _ _ (Nat.two_pow_pos _)]
   rw [show (U + 1) * P52 + P52 = U * P52 + 2 * P52 by rw [Nat.add_mul]; omega]
theorem wordQ_round (p q : Nat) : wordQ (rne p (q * 2 ^ ulp p q) * 2 ^ ulp p q) 1 = wordQ p q := by
 have h := ulp_bounds p q
 rw [wordQ_int _ _ h.1 h.2, wordQ_ulp p q]
theorem shift_lt (a b : Nat) (t : Int) (x y : Nat) (h : (x : Int) - y = -t) : a * 2 ^ x < b * 2 ^ y ↔ a * 2 ^ (-t).toNat < b * 2 ^ t.toNat := by
 obtain ⟨c, hc⟩ : ∃ c, min x y = c := ⟨_, rfl⟩
 have e1 : x = (-t).toNat + c := by omega
 have e2 : y = t.toNat + c := by omega
 rw [e1, e2, Nat.pow_add, Nat.pow_add, ← Nat.mul_assoc, ← Nat.mul_assoc]
 exact Nat.mul_lt_mul_right (Nat.two_pow_pos c)
theorem top_bl (a b E : Nat) (hb : b ≠ 0) (t : Int) (h0 : b * 2 ^ t.toNat ≤ a * 2 ^ (-t).toNat) (h1 : a * 2 ^ (-(t + 1)).toNat < b * 2 ^ (t + 1).toNat) :
  ((ulp (a * 2 ^ E) b : Nat) : Int) = max (t + E - 52) 0 := by
 have hb0 : 0 < b := Nat.pos_of_ne_zero hb
 unfold ulp
 by_cases h : 0 ≤ t + E
 ·obtain ⟨n, hn⟩ : ∃ n : Nat, t + E = n := ⟨(t + E).toNat, by omega⟩
  have hbl : bl (a * 2 ^ E / b) = n + 1 := by
   refine bl_eq ?_ ?_
   ·rw [Nat.le_div_iff_mul_le hb0, Nat.mul_comm]
    refine Nat.not_lt.1 fun hc => ?_
    exact absurd ((shift_lt a b t E n (by omega)).1 hc) (Nat.not_lt.2 h0)
   ·rw [Nat.div_lt_iff_lt_mul hb0, Nat.mul_comm]
    rw [Nat.mul_comm]
    have := (shift_lt a b (t + 1) E (n + 1) (by omega)).2 h1
    rwa [Nat.mul_comm b] at this
  rw [hbl]; omega
 ·have hlt : a * 2 ^ E < b := by
   have h2 := (shift_lt a b (t + 1) (E + (-(t + 1 + E)).toNat) 0 (by omega)).2 h1
   rw [Nat.pow_zero, Nat.mul_one, Nat.pow_add, ← Nat.mul_assoc] at h2
   have : a * 2 ^ E * 1 ≤ a * 2 ^ E * 2 ^ (-(t + 1 + E)).toNat := Nat.mul_le_mul_left _ (Nat.two_pow_pos _)
   omega
  rw [Nat.div_eq_of_lt hlt]
  simp [bl]; omega
theorem small_of {n : Nat} (h : bl n ≤ 33554432) : Small n := h
theorem bl_mul_le (n k : Nat) : bl (n * 2 ^ k) ≤ bl n + k := by
 by_cases h : n = 0
 ·subst h; simp [bl]
 ·rw [bl_mul_pow h]; omega
theorem mx_eq (a b : Int) : mx a b = max a b := by unfold mx; omega
theorem rounded_ok (a b E : Nat) (ha : a ≠ 0) (hb : b ≠ 0) (hla : bl a ≤ 1000000) (hlb : bl b ≤ 1000000) (hE : E ≤ 1074) :
  Ev (fun k => weigh_rounded.f k (wl a) (wl b) ((E : Int) - 1074)) (wordQ (a * 2 ^ E) b) := by
 have hsa : Small a := Nat.le_trans hla (by omega)
 have hsb : Small b := Nat.le_trans hlb (by omega)
 unfold weigh_rounded.f
 rw [length_ok a hsa, length_ok b hsb]
 simp only [Option.bind_some]
 obtain ⟨t0, ht0⟩ : ∃ t0 : Int, ((bl a : Nat) : Int) - ((bl b : Nat) : Int) = t0 := ⟨_, rfl⟩
 have hpa := bl_pos ha
 have hpb := bl_pos hb
 rw [w64 (x := ((bl a : Nat) : Int) - ((bl b : Nat) : Int)) (by omega) (by omega), ht0, w64 (x := -t0) (by omega) (by omega)]
 refine Ev.bind (up_ok a (-t0) hsa (by omega)) ?_
 refine Ev.bind (up_ok b t0 hsb (by omega)) ?_
 obtain ⟨c, hc, hc1, hc2, hc3⟩ := compare_ok (a * 2 ^ (-t0).toNat) (b * 2 ^ t0.toNat) (by have := bl_mul_le a (-t0).toNat; unfold Small; omega) (by have := bl_mul_le b t0.toNat; unfold Small; omega)
 refine Ev.bind hc ?_
 have tail : ∀ t : Int, t0 - 1 ≤ t → t ≤ t0 → b * 2 ^ t.toNat ≤ a * 2 ^ (-t).toNat → a * 2 ^ (-(t + 1)).toNat < b * 2 ^ (t + 1).toNat →
   Ev (fun k => weigh_rounded.j0 k (wl a) (wl b) ((E : Int) - 1074) t) (wordQ (a * 2 ^ E) b) := by
  intro t hta htb h0 h1
  have hu := top_bl a b E hb t h0 h1
  obtain ⟨u, hu2⟩ : ∃ u, ulp (a * 2 ^ E) b = u := ⟨_, rfl⟩
  rw [hu2] at hu
  refine Ev.step (f := fun k => (weigh_nat_up.f k (wl a) (E - u : Int)).bind fun t315 => ((weigh_nat_up.f k (wl b) (u - E : Int)).bind fun t318 => ((weigh_nat_over.f k t315 t318).bind fun bt321 => ((weigh_half.f k bt321.2 t318).bind fun t325 => (if t325 > 0 then ((math_Ldexp.f (floatOfInt .f64 (IntKind.u64.wrap (bt321.1 + 1))) ((u : Int) - 1074)).bind fun t326 => (some t326)) else (if t325 = 0 then (if (Int.tmod bt321.1 2) = 1 then ((math_Ldexp.f (floatOfInt .f64 (IntKind.u64.wrap (bt321.1 + 1))) ((u : Int) - 1074)).bind fun t327 => (some t327)) else ((math_Ldexp.f (floatOfInt .f64 bt321.1) ((u : Int) - 1074)).bind fun t328 => (some t328))) else ((math_Ldexp.f (floatOfInt .f64 bt321.1) ((u : Int) - 1074)).bind fun t329 => (some t329)))))))) (fun k => ?_) ?_
  ·have e1 : mx (wrap64 (wrap64 (t + ((E : Int) - 1074)) - 52)) (-1074) = (u : Int) - 1074 := by
    rw [w64 (x := t + ((E : Int) - 1074)) (by omega) (by omega), w64 (by omega) (by omega), mx_eq]; omega
   rw [weigh_rounded.j0, e1, w64 (x := (E : Int) - 1074 - ((u : Int) - 1074)) (by omega) (by omega), w64 (x := ((u : Int) - 1074) - ((E : Int) - 1074)) (by omega) (by omega)]
   rw [show (E : Int) - 1074 - ((u : Int) - 1074) = E - u by omega, show ((u : Int) - 1074) - ((E : Int) - 1074) = u - E by omega]
  ·refine Ev.bind (up_ok a _ hsa (by omega)) ?_
   refine Ev.bind (up_ok b _ hsb (by omega)) ?_
   obtain ⟨A, hA⟩ : ∃ A, a * 2 ^ ((E : Int) - u).toNat = A := ⟨_, rfl⟩
   obtain ⟨B, hB⟩ : ∃ B, b * 2 ^ ((u : Int) - E).toNat = B := ⟨_, rfl⟩
   rw [hA, hB]
   have hA0 : A ≠ 0 := by rw [← hA]; exact Nat.mul_ne_zero ha (Nat.ne_of_gt (Nat.two_pow_pos _))
   have hB0 : B ≠ 0 := by rw [← hB]; exact Nat.mul_ne_zero hb (Nat.ne_of_gt (Nat.two_pow_pos _))
   have hsA : bl A ≤ 4000000 := by have := bl_mul_le a ((E : Int) - u).toNat; rw [hA] at this; omega
   have hsB : bl B ≤ 4000000 := by have := bl_mul_le b ((u : Int) - E).toNat; rw [hB] at this; omega
   have hlt : A < B * 2 ^ 53 := by
    rw [← hA, ← hB, Nat.mul_assoc, ← Nat.pow_add]
    have h2 := (shift_lt a b (t + 1) ((E : Int) - u).toNat (((E : Int) - u).toNat + t + 1).toNat)
    obtain ⟨d, hd⟩ : ∃ d : Nat, ((u : Int) - E).toNat + 53 = ((E : Int) - u).toNat + (t + 1) + d := ⟨(((u : Int) - E).toNat + 53 - (((E : Int) - u).toNat + (t + 1))).toNat, by omega⟩
    by_cases hn : 0 ≤ (((E : Int) - u).toNat : Int) + (t + 1)
    ·have h3 := (shift_lt a b (t + 1) ((E : Int) - u).toNat ((((E : Int) - u).toNat : Int) + (t + 1)).toNat (by omega)).2 h1
     refine Nat.lt_of_lt_of_le h3 (Nat.mul_le_mul_left _ (Nat.pow_le_pow_right (by omega) (by omega)))
    ·have h3 := (shift_lt a b (t + 1) (-(t + 1)).toNat 0 (by omega)).2 h1
     have h4 : a * 2 ^ ((E : Int) - u).toNat ≤ a * 2 ^ (-(t + 1)).toNat := Nat.mul_le_mul_left _ (Nat.pow_le_pow_right (by omega) (by omega))
     have h5 : b * 2 ^ 0 ≤ b * 2 ^ (((u : Int) - E).toNat + 53) := Nat.mul_le_mul_left _ (Nat.pow_le_pow_right (by omega) (by omega))
     omega
   have hblA : bl A ≤ bl B + 53 := by
    have := bl_mono (Nat.le_of_lt hlt)
    rw [bl_mul_pow hB0] at this; omega
   have hq : A / B < 2 ^ 53 := by rw [Nat.div_lt_iff_lt_mul (Nat.pos_of_ne_zero hB0), Nat.mul_comm]; exact hlt
   refine Ev.bind (over_ok A B hB0 (small_of (by omega)) (small_of (by omega)) (by omega)) ?_
   simp only
   have hrlt : A % B < B := Nat.mod_lt _ (Nat.pos_of_ne_zero hB0)
   have hrs : bl (A % B) ≤ 4000000 := Nat.le_trans (bl_mono (Nat.le_of_lt hrlt)) hsB
   have hrs2 : bl (2 * (A % B)) ≤ 4000001 := by
    have := bl_mul_le (A % B) 1; rw [Nat.pow_one, Nat.mul_comm] at this; omega
   obtain ⟨hh, he, e1, e2, e3⟩ := half_ok (A % B) B (small_of (by omega)) (small_of (by omega)) (small_of (by omega))
   refine Ev.bind he ?_
   have hR : rne A B = rne (a * 2 ^ E) (b * 2 ^ u) := by
    rw [← hA, ← hB]
    rcases Nat.le_total u E with hc4 | hc4
    ·obtain ⟨d, rfl⟩ := Nat.exists_eq_add_of_le hc4
     rw [show (((u + d : Nat) : Int) - u).toNat = d by omega, show ((u : Int) - ((u + d : Nat) : Int)).toNat = 0 by omega, Nat.pow_zero, Nat.mul_one, Nat.add_comm u d, Nat.pow_add, ← Nat.mul_assoc, rne_scale _ _ _ (Nat.two_pow_pos u)]
    ·obtain ⟨d, rfl⟩ := Nat.exists_eq_add_of_le hc4
     rw [show ((E : Int) - ((E + d : Nat) : Int)).toNat = 0 by omega, show (((E + d : Nat) : Int) - E).toNat = d by omega, Nat.pow_zero, Nat.mul_one, Nat.add_comm E d, Nat.pow_add, ← Nat.mul_assoc, rne_scale _ _ _ (Nat.two_pow_pos E)]
   have hfin : wordQ (rne A B * 2 ^ u) 1 = wordQ (a * 2 ^ E) b := by
    have := wordQ_round (a * 2 ^ E) b
    rw [hu2] at this
    rw [hR, this]
   obtain ⟨Q, hQ⟩ : ∃ Q, A / B = Q := ⟨_, rfl⟩
   rw [hQ] at hq ⊢
   have hlu : ∀ z : Nat, z ≤ 9007199254740992 → rne A B = z → math_Ldexp.f (floatOfInt .f64 (z : Int)) ((u : Int) - 1074) = some (wordQ (a * 2 ^ E) b) := fun z hz hr => by
    rw [ldexp_int z hz u (by omega), ← hr, hfin]
   have hw : IntKind.u64.wrap ((Q : Int) + 1) = ((Q + 1 : Nat) : Int) := by rw [wu64 (by omega) (by omega)]; omega
   have hev : Int.tmod (Q : Int) 2 = 1 ↔ Q % 2 = 1 := by rw [Int.tmod_eq_emod_of_nonneg (by omega)]; omega
   rw [hw]
   by_cases g1 : hh > 0
   ·have hr : rne A B = Q + 1 := by unfold rne; rw [if_pos (.inl (e3.1 g1)), hQ]
    refine Ev.congr (f := fun _ => some (wordQ (a * 2 ^ E) b)) (fun k => ?_) (Ev.now _)
    rw [if_pos g1, hlu _ (by omega) hr]; rfl
   ·by_cases g2 : hh = 0
    ·have h2 := e2.1 g2
     by_cases g3 : Q % 2 = 1
     ·have hr : rne A B = Q + 1 := by unfold rne; rw [if_pos (.inr ⟨h2.symm, by rw [hQ]; exact g3⟩), hQ]
      refine Ev.congr (f := fun _ => some (wordQ (a * 2 ^ E) b)) (fun k => ?_) (Ev.now _)
      rw [if_neg g1, if_pos g2, if_pos (hev.2 g3), hlu _ (by omega) hr]; rfl
     ·have hr : rne A B = Q := by
       unfold rne; rw [hQ]
       obtain ⟨m, hm⟩ : ∃ m, A % B = m := ⟨_, rfl⟩
       rw [hm] at h2 ⊢
       exact if_neg (by omega)
      refine Ev.congr (f := fun _ => some (wordQ (a * 2 ^ E) b)) (fun k => ?_) (Ev.now _)
      rw [if_neg g1, if_pos g2, if_neg (fun h => g3 (hev.1 h)), hlu _ (by omega) hr]; rfl
    ·have g4 : hh < 0 := by omega
     have h2 := e1.1 g4
     have hr : rne A B = Q := by
      unfold rne; rw [hQ]
      obtain ⟨m, hm⟩ : ∃ m, A % B = m := ⟨_, rfl⟩
      rw [hm] at h2 ⊢
      exact if_neg (by omega)
     refine Ev.congr (f := fun _ => some (wordQ (a * 2 ^ E) b)) (fun k => ?_) (Ev.now _)
     rw [if_neg g1, if_neg g2, hlu _ (by omega) hr]; rfl
 have ha0 := two_bl_le ha
 have ha1 := lt_two_bl a
 have hb0 := two_bl_le hb
 have hb1 := lt_two_bl b
 have up1 : a * 2 ^ (-(t0 + 1)).toNat < b * 2 ^ (t0 + 1).toNat := by
  have h2 : a * 2 ^ (-(t0 + 1)).toNat < 2 ^ bl a * 2 ^ (-(t0 + 1)).toNat := Nat.mul_lt_mul_of_pos_right ha1 (Nat.two_pow_pos _)
  have h3 : 2 ^ (bl b - 1) * 2 ^ (t0 + 1).toNat ≤ b * 2 ^ (t0 + 1).toNat := Nat.mul_le_mul_right _ hb0
  rw [← Nat.pow_add] at h2 h3
  have h4 : bl a + (-(t0 + 1)).toNat = bl b - 1 + (t0 + 1).toNat := by omega
  rw [h4] at h2; omega
 have lo1 : b * 2 ^ (t0 - 1).toNat ≤ a * 2 ^ (-(t0 - 1)).toNat := by
  have h2 : b * 2 ^ (t0 - 1).toNat < 2 ^ bl b * 2 ^ (t0 - 1).toNat := Nat.mul_lt_mul_of_pos_right hb1 (Nat.two_pow_pos _)
  have h3 : 2 ^ (bl a - 1) * 2 ^ (-(t0 - 1)).toNat ≤ a * 2 ^ (-(t0 - 1)).toNat := Nat.mul_le_mul_right _ ha0
  rw [← Nat.pow_add] at h2 h3
  have h4 : bl a - 1 + (-(t0 - 1)).toNat = bl b + (t0 - 1).toNat := by omega
  rw [h4] at h3; omega
 by_cases hcn : c < 0
 ·refine Ev.congr (fun k => by rw [if_pos hcn]) ?_
  rw [w64 (x := t0 - 1) (by omega) (by omega)]
  exact tail (t0 - 1) (by omega) (by omega) lo1 (by rw [show t0 - 1 + 1 = t0 by omega]; exact hc1.1 hcn)
 ·refine Ev.congr (fun k => by rw [if_neg hcn]) ?_
  exact tail t0 (by omega) (by omega) (Nat.not_lt.1 fun h => hcn (hc1.2 h)) up1
end Go.Proofs.YtfmjdoofopamkaaGreatDoor.Plain
namespace Go.Proofs.YtfmjdoofopamkaaGreatDoor.Plain
open Go.RowKit Go.Proofs.YtfmjdoofopamkaaGreatDoorW.PrintWords Go.Proofs.YtfmjdoofopamkaaGreatDoorW.PrintLast Go.Proofs.YtfmjdoofopamkaaGreatDoorW.PrintMore Go.Proofs.YtfmjdoofopamkaaGreatDoor.W
set_option linter.unusedVariables false
set_option linter.unusedSimpArgs false
set_option exponentiation.threshold 3000
theorem set_add (x : List Int) (i d p p' : Nat) (hi : i < x.length) (h : (rd x (i : Int)).toNat + p = d + B32 * p') : nv B32 (x.set i (d : Int)) + B32 ^ (i + 1) * p' = nv B32 x + B32 ^ i * p := by
 rw [nv_set B32 x i hi, nv_at B32 x i hi, Int.toNat_natCast]
 obtain ⟨R, hR⟩ : ∃ R, (rd x (i : Int)).toNat = R := ⟨_, rfl⟩
 obtain ⟨X, hX⟩ : ∃ X, nv B32 (x.drop (i + 1)) = X := ⟨_, rfl⟩
 obtain ⟨P, hP⟩ : ∃ P, B32 ^ i = P := ⟨_, rfl⟩
 rw [hR] at h ⊢
 rw [hX, Nat.pow_succ, hP]
 have e1 : P * (R + p) = P * (d + B32 * p') := by rw [h]
 simp only [Nat.mul_add, ← Nat.mul_assoc] at e1 ⊢
 omega
theorem and_low (m : Nat) (h : m < 18446744073709551616) : Go.bits .and .u64 (m : Int) 4294967295 = ((m % 4294967296 : Nat) : Int) := by
 have h1 := u64_and m 4294967295 (by omega) (by omega)
 refine h1.trans ?_
 rw [show 4294967295 = 2 ^ 32 - 1 from rfl, Nat.and_two_pow_sub_one_eq_mod]
theorem add_num (car mid R : Nat) (hm : mid < 18446744073709551616) (hc : car < 8589934592) (hR : R < 4294967296) :
  R + (car + mid * 4294967296) = (car + R) % 4294967296 + 4294967296 * ((car + R) / 4294967296 + mid) ∧
  R + (car + mid) = (car + mid % 4294967296 + R) % 4294967296 + 4294967296 * ((car + mid % 4294967296 + R) / 4294967296 + mid / 4294967296) ∧
  (car + R) / 4294967296 < 8589934592 ∧ (car + mid % 4294967296 + R) / 4294967296 < 8589934592 ∧ mid / 4294967296 < 18446744073709551616 := by omega
theorem add_wrap (car mid R : Nat) (hc : car < 8589934592) (hR : R < 4294967296) : IntKind.u64.wrap (R : Int) = R ∧ IntKind.u64.wrap ((car : Int) + (R : Int)) = (car : Int) + (R : Int) ∧
  IntKind.u64.wrap ((car : Int) + ((mid % 4294967296 : Nat) : Int)) = (car : Int) + ((mid % 4294967296 : Nat) : Int) ∧
  IntKind.u64.wrap ((car : Int) + ((mid % 4294967296 : Nat) : Int) + (R : Int)) = (car : Int) + ((mid % 4294967296 : Nat) : Int) + (R : Int) :=
 ⟨wu64 (by omega) (by omega), wu64 (by omega) (by omega), wu64 (by omega) (by omega), wu64 (by omega) (by omega)⟩
theorem low_dig (n : Nat) : (((n % 4294967296 : Nat) : Int)) < ((B32 : Nat) : Int) := by show _ < (4294967296 : Int); omega
theorem rd_word {x : List Int} (hd : Dig B32 x) (i : Nat) (hi : i < x.length) : ∃ R : Nat, rd x (i : Int) = (R : Int) ∧ R < 4294967296 := by
 have hr : 0 ≤ rd x (i : Int) ∧ rd x (i : Int) < 4294967296 := hd.rd i hi
 exact ⟨(rd x (i : Int)).toNat, by omega, by omega⟩
theorem succ_wrap (i : Nat) (h : i ≤ 1000) : wrap64 ((i : Int) + 1) = ((i + 1 : Nat) : Int) := by rw [w64 (by omega) (by omega)]; omega
theorem add_first (k : Nat) (x : List Int) (a i mid car R : Nat) (hix : i < x.length) (hi : i ≤ 1000) (hia : i = a) (hc : car < 8589934592) (hR : rd x (i : Int) = (R : Int)) (hR2 : R < 4294967296) :
  weigh_add.j1 (k + 1) x (a : Int) (mid : Int) (car : Int) (i : Int) true = weigh_add.l0 k (x.set i (((car + R) % 4294967296 : Nat) : Int)) (a : Int) (mid : Int) (((car + R) / 4294967296 : Nat) : Int) ((i + 1 : Nat) : Int) := by
 obtain ⟨w1, w2, _, _⟩ := add_wrap car mid R hc hR2
 rw [weigh_add.j1, if_pos rfl, if_neg (by rw [hia]; exact Int.lt_irrefl _), if_pos (by omega), if_pos (by omega), succ_wrap i hi, hR, w1, w2, Int.toNat_natCast]
 rfl
theorem add_next (k : Nat) (x : List Int) (a i mid car R : Nat) (hix : i < x.length) (hi : i ≤ 1000) (hia : a < i) (hm : mid < 18446744073709551616) (hc : car < 8589934592) (hR : rd x (i : Int) = (R : Int)) (hR2 : R < 4294967296) :
  weigh_add.j1 (k + 1) x (a : Int) (mid : Int) (car : Int) (i : Int) true = weigh_add.l0 k (x.set i (((car + mid % 4294967296 + R) % 4294967296 : Nat) : Int)) (a : Int) ((mid / 4294967296 : Nat) : Int) (((car + mid % 4294967296 + R) / 4294967296 : Nat) : Int) ((i + 1 : Nat) : Int) := by
 obtain ⟨w1, _, w3, w4⟩ := add_wrap car mid R hc hR2
 rw [weigh_add.j1, if_pos rfl, if_pos (by omega), if_pos (by omega), if_pos (by omega), succ_wrap i hi, hR, and_low mid hm, w1, w3, w4, Int.toNat_natCast]
 rfl
theorem add_enter (k : Nat) (x : List Int) (a i mid car : Nat) (hix : i < x.length) : weigh_add.l0 (k + 1) x (a : Int) (mid : Int) (car : Int) (i : Int) = weigh_add.j1 k x (a : Int) (mid : Int) (car : Int) (i : Int) (decide (¬ (car = 0 ∧ mid = 0))) := by
 rw [weigh_add.l0, if_pos (by omega)]
 by_cases h : (car : Int) > 0
 ·rw [if_pos h, decide_eq_true (by omega)]
 ·rw [if_neg h]
  refine congrArg _ (decide_eq_decide.2 ?_)
  omega
def pend (car mid i a : Nat) : Nat := car + (if i = a then mid * B32 else mid)
theorem pend_at (car mid a : Nat) : pend car mid a a = car + mid * B32 := by unfold pend; rw [if_pos rfl]
theorem pend_on (car mid i a : Nat) (h : i ≠ a) : pend car mid i a = car + mid := by unfold pend; rw [if_neg h]
theorem pend_zero (i a : Nat) : pend 0 0 i a = 0 := by unfold pend; split <;> rfl
theorem add_loop (a L : Nat) (hL : L ≤ 1000) : ∀ (d i : Nat) (x : List Int) (mid car : Nat), i + d = L → a ≤ i → x.length = L → Dig B32 x → mid < 18446744073709551616 → car < 8589934592 →
  nv B32 x + B32 ^ i * pend car mid i a < B32 ^ L →
  ∃ x' : List Int, x'.length = L ∧ Dig B32 x' ∧ nv B32 x' = nv B32 x + B32 ^ i * pend car mid i a ∧ Ev (fun k => weigh_add.l0 k x (a : Int) (mid : Int) (car : Int) (i : Int)) x'
 | 0, i, x, mid, car, hi, ha, hx, hd, hm, hc, hT => by
  obtain rfl : i = L := by omega
  have hp : pend car mid i a = 0 := by
   obtain ⟨p, hp⟩ : ∃ p, pend car mid i a = p := ⟨_, rfl⟩
   rw [hp] at hT ⊢
   by_cases h0 : p = 0
   ·exact h0
   ·have h1 : B32 ^ i * 1 ≤ B32 ^ i * p := Nat.mul_le_mul_left _ (Nat.pos_of_ne_zero h0)
    rw [Nat.mul_one] at h1
    exact absurd hT (Nat.not_lt.2 (Nat.le_trans h1 (Nat.le_add_left _ _)))
  refine ⟨x, hx, hd, by rw [hp, Nat.mul_zero, Nat.add_zero], ?_⟩
  refine Ev.step (f := fun k => weigh_add.j1 k x a mid car i false) (fun k => ?_) (Ev.step (f := fun _ => some x) (fun k => ?_) (Ev.now _))
  ·rw [weigh_add.l0, if_neg (by rw [hx]; exact Int.lt_irrefl _)]
  ·rw [weigh_add.j1, if_neg (by simp)]
 | d + 1, i, x, mid, car, hi, ha, hx, hd, hm, hc, hT => by
  replace hT := Aside0.mk hT
  have hix : i < x.length := by omega
  have hi1 : i + 1 + d = L := by omega
  have ha1 : a ≤ i + 1 := by omega
  have hne : i + 1 ≠ a := by omega
  have hi0 : i ≤ 1000 := by omega
  obtain ⟨R, hR, hR2⟩ := rd_word hd i hix
  obtain ⟨n1, n2, n3, n4, n5⟩ := add_num car mid R hm hc hR2
  by_cases h0 : car = 0 ∧ mid = 0
  ·obtain ⟨rfl, rfl⟩ := h0
   refine ⟨x, hx, hd, by rw [pend_zero, Nat.mul_zero, Nat.add_zero], ?_⟩
   refine Ev.step (f := fun k => weigh_add.j1 k x a ((0 : Nat) : Int) ((0 : Nat) : Int) i false) (fun k => ?_) (Ev.step (f := fun _ => some x) (fun k => ?_) (Ev.now _))
   ·rw [add_enter k x a i 0 0 hix]; rfl
   ·rw [weigh_add.j1, if_neg (by simp)]
  ·by_cases hia : i = a
   ·have hset := set_add x i ((car + R) % 4294967296) (car + mid * B32) ((car + R) / 4294967296 + mid) hix (by rw [hR]; exact n1)
    have hp : pend car mid i a = car + mid * B32 := by rw [hia]; exact pend_at car mid a
    have hp2 := pend_on ((car + R) / 4294967296) mid (i + 1) a hne
    have ih := add_loop a L hL d (i + 1) (x.set i (((car + R) % 4294967296 : Nat) : Int)) mid ((car + R) / 4294967296) hi1 ha1 (by rw [List.length_set]; exact hx) (hd.set i (Int.natCast_nonneg _) (low_dig _)) hm n3 (by rw [hp2, hset, ← hp]; exact hT.out)
    obtain ⟨x', h1, h2, h3, h4⟩ := ih
    rw [hp2, hset, ← hp] at h3
    refine ⟨x', h1, h2, h3, Ev.step (f := fun k => weigh_add.j1 k x a mid car i true) (fun k => ?_) (Ev.step (fun k => ?_) h4)⟩
    ·rw [add_enter k x a i mid car hix, decide_eq_true h0]
    ·exact add_first k x a i mid car R hix hi0 hia hc hR hR2
   ·have hset := set_add x i ((car + mid % 4294967296 + R) % 4294967296) (car + mid) ((car + mid % 4294967296 + R) / 4294967296 + mid / 4294967296) hix (by rw [hR]; exact n2)
    have hp := pend_on car mid i a hia
    have hp2 := pend_on ((car + mid % 4294967296 + R) / 4294967296) (mid / 4294967296) (i + 1) a hne
    have hai : a < i := Nat.lt_of_le_of_ne ha (Ne.symm hia)
    have ih := add_loop a L hL d (i + 1) (x.set i (((car + mid % 4294967296 + R) % 4294967296 : Nat) : Int)) (mid / 4294967296) ((car + mid % 4294967296 + R) / 4294967296) hi1 ha1 (by rw [List.length_set]; exact hx) (hd.set i (Int.natCast_nonneg _) (low_dig _)) n5 n4 (by rw [hp2, hset, ← hp]; exact hT.out)
    obtain ⟨x', h1, h2, h3, h4⟩ := ih
    rw [hp2, hset, ← hp] at h3
    refine ⟨x', h1, h2, h3, Ev.step (f := fun k => weigh_add.j1 k x a mid car i true) (fun k => ?_) (Ev.step (fun k => ?_) h4)⟩
    ·rw [add_enter k x a i mid car hix, decide_eq_true h0]
    ·exact add_next k x a i mid car R hix hi0 hai hm hc hR hR2
theorem low_mid (m s : Nat) (hs : s < 32) : m % 4294967296 * 2 ^ s % 4294967296 + m / 2 ^ (32 - s) * 4294967296 = m * 2 ^ s := by
 have h1 : m % 4294967296 * 2 ^ s % 4294967296 = m * 2 ^ s % 4294967296 := by rw [Nat.mul_mod, Nat.mod_mod, ← Nat.mul_mod]
 have h2 : m * 2 ^ s / 4294967296 = m / 2 ^ (32 - s) := by
  rw [show 4294967296 = 2 ^ (32 - s) * 2 ^ s by rw [← Nat.pow_add, show 32 - s + s = 32 by omega], Nat.mul_div_mul_right _ _ (Nat.two_pow_pos s)]
 rw [h1, ← h2]
 omega
theorem add_ok (x : List Int) (m b L : Nat) (hL : L ≤ 1000) (hx : x.length = L) (hd : Dig B32 x) (hm : m < 18446744073709551616) (hb : b / 32 ≤ L) (hT : nv B32 x + m * 2 ^ b < B32 ^ L) :
  ∃ x' : List Int, x'.length = L ∧ Dig B32 x' ∧ nv B32 x' = nv B32 x + m * 2 ^ b ∧ Ev (fun k => weigh_add.f k x (m : Int) (b : Int)) x' := by
 obtain ⟨s, hs⟩ : ∃ s, b % 32 = s := ⟨_, rfl⟩
 obtain ⟨a, ha⟩ : ∃ a, b / 32 = a := ⟨_, rfl⟩
 have hs32 : s < 32 := by omega
 have hlm := low_mid m s hs32
 have hmid : m / 2 ^ (32 - s) < 18446744073709551616 := Nat.lt_of_le_of_lt (Nat.div_le_self _ _) hm
 have hval : B32 ^ a * (pend (m % 4294967296 * 2 ^ s % 4294967296) (m / 2 ^ (32 - s)) a a) = m * 2 ^ b := by
  rw [pend_at, show (B32 : Nat) = 4294967296 from rfl, hlm, show (4294967296 : Nat) = B32 from rfl, pow32, Nat.mul_comm, Nat.mul_assoc, ← Nat.pow_add]
  congr 2; omega
 have h := add_loop a L hL (L - a) a x (m / 2 ^ (32 - s)) (m % 4294967296 * 2 ^ s % 4294967296) (by omega) (Nat.le_refl _) hx hd hmid (by have := Nat.mod_lt (m % 4294967296 * 2 ^ s) (show 0 < 4294967296 by omega); omega) (by rw [hval]; exact hT)
 obtain ⟨x', h1, h2, h3, h4⟩ := h
 rw [hval] at h3
 refine ⟨x', h1, h2, h3, Ev.congr (fun k => ?_) h4⟩
 unfold weigh_add.f
 have e1 : Int.tmod (b : Int) 32 = (s : Int) := by rw [Int.tmod_eq_emod_of_nonneg (by omega)]; omega
 have e2 : Int.tdiv (b : Int) 32 = (a : Int) := by rw [Int.tdiv_eq_ediv_of_nonneg (by omega)]; omega
 rw [e1, e2, w64 (x := 32 - (s : Int)) (by omega) (by omega), if_pos (by omega), if_pos (by omega), w64 (x := (a : Int)) (by omega) (by omega)]
 have e3 : shr .u64 (m : Int) (32 - (s : Int)) = ((m / 2 ^ (32 - s) : Nat) : Int) := by
  unfold shr
  rw [show min (32 - (s : Int)).toNat IntKind.u64.bits = 32 - s by show min _ 64 = _; omega]
  rw [Int.natCast_ediv, Int.natCast_pow]; rfl
 have e4 : IntKind.u64.wrap (shl .u32 ((m : Int) % 4294967296) (s : Int)) = ((m % 4294967296 * 2 ^ s % 4294967296 : Nat) : Int) := by
  unfold shl
  rw [show min ((s : Int)).toNat IntKind.u32.bits = s by show min _ 32 = _; omega]
  have e5 : ∀ z : Int, IntKind.u32.wrap z = z % 4294967296 := fun z => rfl
  rw [e5, wu64 (by omega) (by omega)]
  rw [Int.natCast_emod, Int.natCast_mul, Int.natCast_emod, Int.natCast_pow]; rfl
 rw [e3, e4]
def ups : List Nat → Nat
 | [] => 0
 | x :: l => (if P63 ≤ x then 0 else fv (x % P63)) + ups l
def downs : List Nat → Nat
 | [] => 0
 | x :: l => (if P63 ≤ x then fv (x % P63) else 0) + downs l
def Fin (l : List Nat) : Prop := ∀ x ∈ l, x < 18446744073709551616 ∧ x % P63 < INF
theorem fv_bound {r : Nat} (h : r < INF) : fv r < 2 ^ 2098 := by
 have h1 := fv_lt h
 have e : fv INF = 2 ^ 2098 := by decide
 omega
theorem whole_one (v : Nat) (hv : v < 18446744073709551616) (hfin : v % P63 < INF) :
  ∃ m b : Nat, ∃ e : Int, m < 18446744073709551616 ∧ b ≤ 2045 ∧ m * 2 ^ b = fv (v % P63) ∧ Ev (fun k => weigh_parts.f k v) ((if e < 0 then (m : Int) * 2 ^ (-e).toNat else m), e - 1074) ∧ (if e < 0 then b = 0 else (b : Int) = e) ∧ -52 ≤ e ∧ e ≤ 2045 := by
 by_cases h0 : v % P63 = 0
 ·refine ⟨0, 1021, 1021, by omega, by omega, by rw [h0, Nat.zero_mul]; rfl, ?_, by rw [if_neg (by omega)]; rfl, by omega, by omega⟩
  have := parts_zero v hv h0
  rw [if_neg (by omega)]
  exact this
 ·obtain ⟨M, e, h1, h2, h3, h4, h5⟩ := parts_ok v hv (Nat.pos_of_ne_zero h0) hfin
  by_cases hc : 52 ≤ e
  ·obtain ⟨b, rfl⟩ := Nat.exists_eq_add_of_le hc
   refine ⟨M, b, (b : Int), by unfold P52 at *; omega, by omega, ?_, ?_, by rw [if_neg (by omega)], by omega, by omega⟩
   ·rw [Nat.add_comm 52 b, Nat.pow_add, ← Nat.mul_assoc] at h5
    exact Nat.eq_of_mul_eq_mul_right (Nat.two_pow_pos 52) h5
   ·rw [if_neg (by omega)]
    rw [show ((52 + b : Nat) : Int) - 1126 = (b : Int) - 1074 by omega] at h4
    exact h4
  ·obtain ⟨s, hs⟩ : ∃ s, e + s = 52 := ⟨52 - e, by omega⟩
   have h6 : M = fv (v % P63) * 2 ^ s := by
    rw [← hs, Nat.add_comm e s, Nat.pow_add, ← Nat.mul_assoc] at h5
    exact Nat.eq_of_mul_eq_mul_right (Nat.two_pow_pos e) h5
   have h7 : fv (v % P63) ≤ M := by rw [h6]; exact Nat.le_mul_of_pos_right _ (Nat.two_pow_pos s)
   refine ⟨fv (v % P63), 0, -(s : Int), by unfold P52 at *; omega, by omega, by simp, ?_, by rw [if_pos (by omega)], by omega, by omega⟩
   rw [if_pos (by omega)]
   have e1 : ((fv (v % P63) : Nat) : Int) * 2 ^ (- -(s : Int)).toNat = (M : Int) := by
    rw [show (- -(s : Int)).toNat = s by omega, h6, Int.natCast_mul, Int.natCast_pow]; rfl
   rw [e1]
   rw [show ((e : Nat) : Int) - 1126 = -(s : Int) - 1074 by omega] at h4
   exact h4
theorem rdOf_nat (l : List Nat) (i : Nat) (h : i < l.length) : rdOf 0 l (i : Int) = l[i] := by
 simp [rdOf, h]
theorem whole_loop (l : List Nat) (hl : l.length ≤ 1000) (hf : Fin l) (W : Nat) (hW : Aside0 (2 ^ 2098 = W)) : ∀ (d i : Nat) (xa xb : List Int), i + d = l.length → xa.length = 68 → xb.length = 68 → Dig B32 xa → Dig B32 xb →
  nv B32 xa ≤ i * W → nv B32 xb ≤ i * W →
  Ev (fun k => weigh_whole.l0 k xa xb l (l.length : Int) (i : Int)) (wl (nv B32 xa + ups (l.drop i)), wl (nv B32 xb + downs (l.drop i)))
 | 0, i, xa, xb, hi, la, lb, da, db, ba, bb => by
  have e : l.drop i = [] := List.drop_eq_nil_of_le (by omega)
  rw [e]
  refine Ev.step (f := fun k => (weigh_trim.f k xa).bind fun t390 => ((weigh_trim.f k xb).bind fun t393 => (some (t390, t393)))) (fun k => ?_) ?_
  ·rw [weigh_whole.l0, if_neg (by omega)]
  ·exact Ev.bind (trim_ok da (by omega)) (Ev.bind (trim_ok db (by omega)) (Ev.now _))
 | d + 1, i, xa, xb, hi, la, lb, da, db, ba, bb => by
  have hlt : i < l.length := by omega
  obtain ⟨v, hv⟩ : ∃ v, l[i] = v := ⟨_, rfl⟩
  have hmem : v ∈ l := by rw [← hv]; exact List.getElem_mem hlt
  obtain ⟨hv64, hvf⟩ := hf v hmem
  have hdrop : l.drop i = v :: l.drop (i + 1) := by rw [← hv]; exact List.drop_eq_getElem_cons hlt
  obtain ⟨m, b, e, hm, hb, hmb, hp, hbe, he0, he1⟩ := whole_one v hv64 hvf
  have hi10 : i + 1 ≤ 2 ^ 10 := by omega
  have hi1 : i + 1 + d = l.length := by omega
  have hii : (i : Int) < (l.length : Int) := by omega
  have hi0 : (0 : Int) ≤ i := by omega
  have hb68 : b / 32 ≤ 68 := by omega
  replace hmb := Aside0.mk hmb
  have hfb := fv_bound hvf
  rw [hW.out] at hfb
  have hwi : wrap64 ((i : Int) + 1) = ((i + 1 : Nat) : Int) := by rw [w64 (by omega) (by omega)]; omega
  obtain ⟨Z, hZ⟩ : ∃ Z, B32 ^ 68 = Z := ⟨_, rfl⟩
  replace hZ := Aside0.mk hZ
  have hbig : (i + 1) * W < Z := by
   rw [← hZ.out, ← hW.out]
   refine Nat.lt_of_le_of_lt (Nat.mul_le_mul_right _ hi10) ?_
   rw [← Nat.pow_add, pow32]
   exact Nat.pow_lt_pow_right (by omega) (by omega)
  have hsucc : (i + 1) * W = i * W + W := by rw [Nat.add_mul, Nat.one_mul]
  obtain ⟨iW, hiW⟩ : ∃ z, i * W = z := ⟨_, rfl⟩
  rw [hiW] at ba bb hsucc
  replace hbig : iW + W < Z := by rw [← hsucc]; exact hbig
  replace hiW := Aside0.mk hiW
  have one : ∀ {y : List Int × List Int}, Ev (fun k => weigh_whole.j1 k xa xb v (m : Int) (b : Int) l (l.length : Int) (i : Int)) y → Ev (fun k => weigh_whole.l0 k xa xb l (l.length : Int) (i : Int)) y := by
   intro y hy
   refine Ev.step (f := fun k => (weigh_parts.f k v).bind fun bt397 => (if (wrap64 (bt397.2 + 1074)) < 0 then (if 0 ≤ (wrap64 (-(wrap64 (bt397.2 + 1074)))) then (weigh_whole.j1 k xa xb v (shr .u64 bt397.1 (wrap64 (-(wrap64 (bt397.2 + 1074))))) 0 l (l.length : Int) i) else (none)) else (weigh_whole.j1 k xa xb v bt397.1 (wrap64 (bt397.2 + 1074)) l (l.length : Int) i))) (fun k => ?_) (Ev.bind hp (Ev.congr (fun k => ?_) hy))
   ·rw [weigh_whole.l0, if_pos hii, if_pos hi0, if_pos hii, rdOf_nat l i hlt, hv]
   ·simp only
    rw [show e - 1074 + 1074 = e by omega, w64 (x := e) (by omega) (by omega)]
    by_cases hn : e < 0
    ·rw [if_pos hn] at hbe
     rw [if_pos hn, if_pos hn, w64 (x := -e) (by omega) (by omega), if_pos (by omega), hbe]
     have e5 : shr .u64 ((m : Int) * 2 ^ (-e).toNat) (-e) = (m : Int) := by
      unfold shr
      rw [show min (-e).toNat IntKind.u64.bits = (-e).toNat by show min _ 64 = _; omega]
      exact Int.mul_ediv_cancel _ (Int.pow_ne_zero (by omega))
     rw [e5]; rfl
    ·rw [if_neg hn] at hbe
     rw [if_neg hn, if_neg hn, hbe]
  refine one ?_
  rw [hdrop]
  by_cases hneg : P63 ≤ v
  ·obtain ⟨x', h1, h2, h3, h4⟩ := add_ok xb m b 68 (by omega) lb db hm hb68 (by rw [hmb.out, hZ.out]; omega)
   rw [hmb.out] at h3
   have ih := whole_loop l hl hf W hW d (i + 1) xa x' hi1 la h1 da h2 (by rw [hsucc]; omega) (by rw [h3, hsucc]; omega)
   refine Ev.step (f := fun k => (weigh_add.f k xb m b).bind fun t400 => weigh_whole.l0 k xa t400 l (l.length : Int) ((i + 1 : Nat) : Int)) (fun k => ?_) ?_
   ·rw [weigh_whole.j1, signbit_ok v hv64, Option.bind_some, decide_eq_true hneg, if_pos rfl, hwi]
   ·refine Ev.bind h4 ?_
    have eu : ups (v :: l.drop (i + 1)) = ups (l.drop (i + 1)) := by rw [ups, if_pos hneg, Nat.zero_add]
    have ed : downs (v :: l.drop (i + 1)) = fv (v % P63) + downs (l.drop (i + 1)) := by rw [downs, if_pos hneg]
    rw [eu, ed, ← Nat.add_assoc, ← h3]
    exact ih
  ·obtain ⟨x', h1, h2, h3, h4⟩ := add_ok xa m b 68 (by omega) la da hm hb68 (by rw [hmb.out, hZ.out]; omega)
   rw [hmb.out] at h3
   have ih := whole_loop l hl hf W hW d (i + 1) x' xb hi1 h1 lb h2 db (by rw [h3, hsucc]; omega) (by rw [hsucc]; omega)
   refine Ev.step (f := fun k => (weigh_add.f k xa m b).bind fun t401 => weigh_whole.l0 k t401 xb l (l.length : Int) ((i + 1 : Nat) : Int)) (fun k => ?_) ?_
   ·rw [weigh_whole.j1, signbit_ok v hv64, Option.bind_some, decide_eq_false hneg, if_neg (by simp), hwi]
   ·refine Ev.bind h4 ?_
    have eu : ups (v :: l.drop (i + 1)) = fv (v % P63) + ups (l.drop (i + 1)) := by rw [ups, if_neg hneg]
    have ed : downs (v :: l.drop (i + 1)) = downs (l.drop (i + 1)) := by rw [downs, if_neg hneg, Nat.zero_add]
    rw [eu, ed, ← Nat.add_assoc, ← h3]
    exact ih
theorem whole_ok (l : List Nat) (hl : l.length ≤ 1000) (hf : Fin l) : Ev (fun k => weigh_whole.f k l) (wl (ups l), wl (downs l)) := by
 unfold weigh_whole.f
 refine Ev.congr (fun k => by rw [if_pos (by omega)]) ?_
 have h := whole_loop l hl hf _ ⟨rfl⟩ l.length 0 (List.replicate 68 0) (List.replicate 68 0) (by omega) (by simp) (by simp) (Dig.zeros _ _ (by decide)) (Dig.zeros _ _ (by decide)) (by rw [nv_zeros]; exact Nat.zero_le _) (by rw [nv_zeros]; exact Nat.zero_le _)
 rw [nv_zeros, Nat.zero_add, Nat.zero_add, List.drop_zero] at h
 exact h
theorem ups_bound (l : List Nat) (hf : Fin l) : ups l ≤ l.length * 2 ^ 2098 ∧ downs l ≤ l.length * 2 ^ 2098 := by
 obtain ⟨W, hW⟩ : ∃ W, 2 ^ 2098 = W := ⟨_, rfl⟩
 replace hW := Aside0.mk hW
 rw [hW.out]
 induction l with
 | nil => simp [ups, downs]
 | cons x l ih =>
  have h := ih fun y hy => hf y (by simp [hy])
  have hb := fv_bound (hf x (by simp)).2
  rw [hW.out] at hb
  rw [ups, downs, List.length_cons, Nat.add_mul, Nat.one_mul]
  constructor <;> split <;> omega
def shw (a b n : Nat) : Nat := if b < a then wordQ (a - b) n else if a < b then P63 + wordQ (b - a) n else 0
theorem neg_word (r : Nat) (h : r ≤ INF) : Op.negFloat .f64 r = P63 + r := by
 have e : Op.negFloat .f64 r = r ^^^ 2 ^ 63 := rfl
 have h1 : r < 2 ^ 63 := by unfold INF at h; omega
 have h2 : r ^^^ 2 ^ 63 = 2 ^ 63 * 1 ||| r := by
  refine Nat.eq_of_testBit_eq fun i => ?_
  rw [Nat.testBit_xor, Nat.testBit_or, Nat.mul_one, Nat.testBit_two_pow]
  by_cases hi : 63 = i
  ·subst hi; rw [Nat.testBit_lt_two_pow h1]; rfl
  ·rw [decide_eq_false hi]; simp
 rw [e, h2, ← Nat.two_pow_add_eq_or_of_lt h1, Nat.mul_one]
theorem shared_ok (l : List Nat) (n : Nat) (hn : n ≠ 0) (hn2 : n ≤ 1000) (hl : l.length ≤ 1000) (hf : Fin l) : Ev (fun k => weigh_shared.f k l (n : Int)) (shw (ups l) (downs l) n) := by
 have hb := ups_bound l hf
 have hbl : ∀ z : Nat, z ≤ l.length * 2 ^ 2098 → bl z ≤ 2108 := fun z hz => by
  refine bl_le (Nat.lt_of_le_of_lt hz ?_)
  have h1 : l.length * 2 ^ 2098 < 2 ^ 10 * 2 ^ 2098 := Nat.mul_lt_mul_of_pos_right (by omega) (Nat.two_pow_pos _)
  rw [← Nat.pow_add] at h1; exact h1
 obtain ⟨a, ha⟩ : ∃ a, ups l = a := ⟨_, rfl⟩
 obtain ⟨b, hb'⟩ : ∃ b, downs l = b := ⟨_, rfl⟩
 have hw := whole_ok l hl hf
 have ha1 := hbl _ hb.1
 have hb1 := hbl _ hb.2
 rw [ha] at ha1 hw ⊢
 rw [hb'] at hb1 hw ⊢
 unfold weigh_shared.f
 refine Ev.bind hw ?_
 simp only
 obtain ⟨c, hc, hc1, hc2, hc3⟩ := compare_ok a b (small_of (by omega)) (small_of (by omega))
 refine Ev.bind hc ?_
 have hno := natOf_ok n (by omega)
 have hwn : IntKind.u64.wrap (n : Int) = (n : Int) := wu64 (by omega) (by omega)
 have hbn : bl n ≤ 1000 := bl_le (Nat.lt_of_le_of_lt hn2 (Nat.lt_of_lt_of_le (show 1000 < 2 ^ 10 by omega) (Nat.pow_le_pow_right (by omega) (by omega))))
 by_cases h1 : c > 0
 ·have h2 := hc3.1 h1
  refine Ev.congr (fun k => by rw [if_pos h1]) ?_
  refine Ev.bind (less_ok a b (small_of (by omega)) (by omega)) ?_
  rw [hwn]
  refine Ev.bind hno ?_
  have h3 := rounded_ok (a - b) n 0 (by omega) hn (by have := bl_mono (show a - b ≤ a by omega); omega) (by omega) (by omega)
  rw [show ((0 : Nat) : Int) - 1074 = -1074 by omega, Nat.pow_zero, Nat.mul_one] at h3
  unfold shw
  rw [if_pos h2]
  exact Ev.bind h3 (Ev.now _)
 ·by_cases h4 : c < 0
  ·have h2 := hc1.1 h4
   refine Ev.congr (fun k => by rw [if_neg h1, if_pos h4]) ?_
   refine Ev.bind (less_ok b a (small_of (by omega)) (by omega)) ?_
   rw [hwn]
   refine Ev.bind hno ?_
   have h3 := rounded_ok (b - a) n 0 (by omega) hn (by have := bl_mono (show b - a ≤ b by omega); omega) (by omega) (by omega)
   rw [show ((0 : Nat) : Int) - 1074 = -1074 by omega, Nat.pow_zero, Nat.mul_one] at h3
   unfold shw
   rw [if_neg (by omega), if_pos h2]
   refine Ev.bind h3 ?_
   rw [neg_word _ (wordQ_le _ _)]
   exact Ev.now _
  ·have h2 := hc2.1 (by omega)
   refine Ev.congr (fun k => by rw [if_neg h1, if_neg h4]) ?_
   unfold shw
   rw [if_neg (by omega), if_neg (by omega)]
   exact Ev.now _
end Go.Proofs.YtfmjdoofopamkaaGreatDoor.Plain
namespace Go.Proofs.YtfmjdoofopamkaaGreatDoor.Plain
open Go.RowKit Go.Proofs.YtfmjdoofopamkaaGreatDoorW.PrintWords Go.Proofs.YtfmjdoofopamkaaGreatDoorW.PrintLast Go.Proofs.YtfmjdoofopamkaaGreatDoorW.PrintMore Go.Proofs.YtfmjdoofopamkaaGreatDoor.W
set_option linter.unusedVariables false
set_option linter.unusedSimpArgs false
set_option exponentiation.threshold 3000
abbrev NAN : Nat := 9221120237041090560
abbrev NINF : Nat := 18442240474082181120
def W64 (l : List Nat) : Prop := ∀ x ∈ l, x < 18446744073709551616
def nanB (x : Nat) : Bool := decide (INF < x % P63)
theorem nan_ne (x : Nat) : (FloatKind.f64.format.order x x != some .eq) = nanB x := by
 unfold nanB
 by_cases h : INF < x % P63
 ·rw [isnan_true h, decide_eq_true h]
 ·rw [isnan_false (Nat.not_lt.1 h), decide_eq_false h]
theorem isinf1_ok (x : Nat) (h : x < 18446744073709551616) (hn : nanB x = false) : math_IsInf.f x 1 = some (decide (x = INF)) := by
 unfold math_IsInf.f
 rw [if_neg (by omega), if_neg (by omega)]
 have hn' : ¬ INF < x % P63 := by unfold nanB at hn; exact of_decide_eq_false hn
 refine congrArg some ?_
 by_cases h1 : x < P63
 ·exact gt_max x h1
 ·have h2 : x % P63 = x - P63 := by unfold P63 at *; omega
  rw [decide_eq_false (by unfold INF P63 at *; omega)]
  by_cases h3 : x % P63 < INF
  ·rw [order_fin x _ h3 (by decide)]
   have hs : sv x ≤ 0 := by
    unfold sv
    rw [show (x / P63 % 2 == 1) = true by rw [show x / P63 = 1 by unfold P63 at *; omega]; rfl, if_pos rfl]; omega
   have hp : (0 : Int) < sv 9218868437227405311 := by
    rw [sv_pos (by unfold P63; omega)]; have := fv_pos (show 0 < 9218868437227405311 by omega); omega
   simp only [compare, compareOfLessAndEq]
   rw [if_pos (by omega)]; rfl
  ·have h4 : x = NINF := by unfold INF P63 at *; show x = 18442240474082181120; omega
   rw [h4]; decide
theorem neg_high (x : Nat) (h : x < 18446744073709551616) : Op.negFloat .f64 x = if x < P63 then P63 + x else x - P63 := by
 have e : Op.negFloat .f64 x = x ^^^ 2 ^ 63 := rfl
 rw [e]
 have key : ∀ r : Nat, r < 2 ^ 63 → r ^^^ 2 ^ 63 = 2 ^ 63 + r := by
  intro r h1
  have h2 : r ^^^ 2 ^ 63 = 2 ^ 63 * 1 ||| r := by
   refine Nat.eq_of_testBit_eq fun i => ?_
   rw [Nat.testBit_xor, Nat.testBit_or, Nat.mul_one, Nat.testBit_two_pow]
   by_cases hi : 63 = i
   ·subst hi; rw [Nat.testBit_lt_two_pow h1]; rfl
   ·rw [decide_eq_false hi]; simp
  rw [h2, ← Nat.two_pow_add_eq_or_of_lt h1, Nat.mul_one]
 by_cases h1 : x < P63
 ·rw [if_pos h1]; exact key x h1
 ·rw [if_neg h1]
  have h2 := key (x - P63) (by unfold P63 at *; omega)
  have h3 : 2 ^ 63 + (x - P63) = x := by unfold P63 at *; omega
  rw [h3] at h2
  conv => lhs; rw [← h2]
  rw [Nat.xor_assoc, Nat.xor_self, Nat.xor_zero]
theorem isinfm_ok (x : Nat) (h : x < 18446744073709551616) (hn : nanB x = false) : math_IsInf.f x (-1) = some (decide (x = NINF)) := by
 have hn' : ¬ INF < x % P63 := by unfold nanB at hn; exact of_decide_eq_false hn
 have h1 := isinf1_ok (Op.negFloat .f64 x) (by rw [neg_high x h]; split <;> (unfold P63 at *; omega)) (by
  unfold nanB; refine decide_eq_false ?_; rw [neg_high x h]; split <;> (unfold P63 INF at *; omega))
 unfold math_IsInf.f at h1 ⊢
 rw [if_neg (by omega), if_neg (by omega)] at h1
 rw [if_neg (by omega), if_pos (by omega), h1]
 refine congrArg some (decide_eq_decide.2 ?_)
 rw [neg_high x h]
 split <;> (unfold P63 INF NINF at *; omega)
def exactS (l : List Nat) : Nat :=
 if l.any nanB then NAN else if INF ∈ l ∧ NINF ∈ l then NAN else if INF ∈ l then INF else if NINF ∈ l then NINF else shw (ups l) (downs l) 1
theorem mem_take_succ {l : List Nat} {i : Nat} (hi : i < l.length) (z : Nat) : z ∈ l.take (i + 1) ↔ z ∈ l.take i ∨ l[i] = z := by
 rw [List.take_succ_eq_append_getElem hi, List.mem_append, List.mem_singleton]
 constructor
 ·rintro (h | h)
  ·exact .inl h
  ·exact .inr h.symm
 ·rintro (h | h)
  ·exact .inl h
  ·exact .inr h.symm
theorem exact_loop (l : List Nat) (hl : l.length ≤ 1000) (hw : W64 l) : ∀ (d i : Nat) (pre : List Nat) (up dn : Bool), i + d = l.length → (∀ x ∈ l.take i, nanB x = false) → (up = true ↔ INF ∈ l.take i) → (dn = true ↔ NINF ∈ l.take i) →
  (pre.length ≤ i) → (up = false → dn = false → pre = l.take i) →
  Ev (fun k => weigh_Exact.l0 k pre up dn l (l.length : Int) (i : Int)) (exactS l)
 | 0, i, pre, up, dn, hi, hn, hu, hd, hp, he => by
  have e : l.take i = l := List.take_of_length_le (by omega)
  rw [e] at hn hu hd he
  have hany : l.any nanB = false := by rw [List.any_eq_false]; intro x hx; rw [hn x hx]; exact Bool.false_ne_true
  have fin : Ev (fun k => weigh_Exact.j1 k pre up dn (up && dn)) (exactS l) := by
   have hs : ∀ k, weigh_Exact.j1 (k + 1) pre up dn (up && dn) = if (up && dn) = true then some NAN else if up = true then some INF else if dn = true then some NINF else (weigh_shared.f k pre 1).bind fun t433 => (some t433) := by
    intro k
    rw [weigh_Exact.j1]
    rfl
   unfold exactS
   rw [if_neg (by rw [hany]; exact Bool.false_ne_true)]
   cases up with
   | true =>
    have h1 := hu.1 rfl
    cases dn with
    | true => rw [if_pos ⟨h1, hd.1 rfl⟩]; exact Ev.step (f := fun _ => some NAN) (fun k => by rw [hs k]; rfl) (Ev.now _)
    | false =>
     have h2 : ¬ NINF ∈ l := fun h => Bool.false_ne_true (hd.2 h)
     rw [if_neg (fun h => h2 h.2), if_pos h1]; exact Ev.step (f := fun _ => some INF) (fun k => by rw [hs k]; rfl) (Ev.now _)
   | false =>
    have h1 : ¬ INF ∈ l := fun h => Bool.false_ne_true (hu.2 h)
    cases dn with
    | true => rw [if_neg (fun h => h1 h.1), if_neg h1, if_pos (hd.1 rfl)]; exact Ev.step (f := fun _ => some NINF) (fun k => by rw [hs k]; rfl) (Ev.now _)
    | false =>
     have h2 : ¬ NINF ∈ l := fun h => Bool.false_ne_true (hd.2 h)
     rw [if_neg (fun h => h2 h.2), if_neg h1, if_neg h2]
     have hpl := he rfl rfl
     have hfin : Fin l := by
      intro x hx
      refine ⟨hw x hx, ?_⟩
      have h3 := of_decide_eq_false (hn x hx)
      have h4 : x ≠ INF := fun h => h1 (h ▸ hx)
      have h5 : x ≠ NINF := fun h => h2 (h ▸ hx)
      have h6 := hw x hx
      unfold INF NINF P63 at *; omega
     have hsh := shared_ok l 1 (by omega) (by omega) hl hfin
     exact Ev.step (f := fun k => (weigh_shared.f k l 1).bind fun t433 => (some t433)) (fun k => by rw [hs k, hpl]; rfl) (Ev.bind hsh (Ev.now _))
  refine Ev.step (f := fun k => weigh_Exact.j1 k pre up dn (up && dn)) (fun k => ?_) fin
  rw [weigh_Exact.l0, if_neg (by omega)]
  cases up
  ·rw [if_neg Bool.false_ne_true]; rfl
  ·rw [if_pos rfl]; rfl
 | d + 1, i, pre, up, dn, hi, hn, hu, hd, hp, he => by
  have hlt : i < l.length := by omega
  obtain ⟨v, hv⟩ : ∃ v, l[i] = v := ⟨_, rfl⟩
  have hmem : v ∈ l := by rw [← hv]; exact List.getElem_mem hlt
  have hv64 := hw v hmem
  have hwi : wrap64 ((i : Int) + 1) = ((i + 1 : Nat) : Int) := succ_wrap i (by omega)
  have hi1 : i + 1 + d = l.length := by omega
  have hii : (i : Int) < (l.length : Int) := by omega
  have hi0 : (0 : Int) ≤ i := by omega
  have hst : ∀ k, weigh_Exact.l0 (k + 1) pre up dn l (l.length : Int) (i : Int) = if nanB v = true then some NAN else (math_IsInf.f v 1).bind fun t425 => (if t425 = true then (weigh_Exact.l0 k pre true dn l (l.length : Int) ((i + 1 : Nat) : Int)) else ((math_IsInf.f v (-1)).bind fun t426 => (if t426 = true then (weigh_Exact.l0 k pre up true l (l.length : Int) ((i + 1 : Nat) : Int)) else (if pre.length < 17592186044416 then (weigh_Exact.l0 k (pre ++ [v]) up dn l (l.length : Int) ((i + 1 : Nat) : Int)) else (none))))) := by
   intro k
   rw [weigh_Exact.l0, if_pos hii, if_pos hi0, if_pos hii, rdOf_nat l i hlt, hv, nan_ne, hwi]
   rfl
  by_cases hnan : nanB v = true
  ·have e : exactS l = NAN := by
    unfold exactS
    rw [if_pos (List.any_eq_true.2 ⟨v, hmem, hnan⟩)]
   rw [e]
   exact Ev.step (f := fun _ => some NAN) (fun k => by rw [hst k, if_pos hnan]) (Ev.now _)
  ·have hnan' : nanB v = false := by simpa using hnan
   have hn2 : ∀ x ∈ l.take (i + 1), nanB x = false := by
    intro x hx
    rcases (mem_take_succ hlt x).1 hx with h | h
    ·exact hn x h
    ·rw [← h, hv]; exact hnan'
   by_cases h1 : v = INF
   ·have ih := exact_loop l hl hw d (i + 1) pre true dn hi1 hn2 ⟨fun _ => (mem_take_succ hlt INF).2 (.inr (hv.trans h1)), fun _ => rfl⟩
     (by rw [hd, mem_take_succ hlt NINF]; exact ⟨fun h => .inl h, fun h => h.resolve_right (fun h => by rw [hv, h1] at h; exact absurd h (by decide))⟩) (by omega) (fun h => by simp at h)
    exact Ev.step (fun k => by rw [hst k, if_neg hnan, isinf1_ok v hv64 hnan', decide_eq_true h1]; rfl) ih
   ·by_cases h2 : v = NINF
    ·have ih := exact_loop l hl hw d (i + 1) pre up true hi1 hn2 (by rw [hu, mem_take_succ hlt INF]; exact ⟨fun h => .inl h, fun h => h.resolve_right (fun h => by rw [hv] at h; exact h1 h)⟩)
      ⟨fun _ => (mem_take_succ hlt NINF).2 (.inr (hv.trans h2)), fun _ => rfl⟩ (by omega) (fun _ h => by simp at h)
     exact Ev.step (fun k => by rw [hst k, if_neg hnan, isinf1_ok v hv64 hnan', decide_eq_false h1, isinfm_ok v hv64 hnan', decide_eq_true h2]; rfl) ih
    ·have ih := exact_loop l hl hw d (i + 1) (pre ++ [v]) up dn hi1 hn2 (by rw [hu, mem_take_succ hlt INF]; exact ⟨fun h => .inl h, fun h => h.resolve_right (fun h => by rw [hv] at h; exact h1 h)⟩)
      (by rw [hd, mem_take_succ hlt NINF]; exact ⟨fun h => .inl h, fun h => h.resolve_right (fun h => by rw [hv] at h; exact h2 h)⟩) (by rw [List.length_append]; simp; omega)
      (fun a b => by rw [he a b, List.take_succ_eq_append_getElem hlt, hv])
     refine Ev.step (fun k => ?_) ih
     rw [hst k, if_neg hnan, isinf1_ok v hv64 hnan', decide_eq_false h1, isinfm_ok v hv64 hnan', decide_eq_false h2]
     simp only [Option.bind_some, Bool.false_eq_true, if_false]
     rw [if_pos (by omega)]
theorem exact_ok (l : List Nat) (hl : l.length ≤ 1000) (hw : W64 l) : Ev (fun k => weigh_Exact.f k l) (exactS l) := by
 unfold weigh_Exact.f
 exact exact_loop l hl hw l.length 0 [] false false (by omega) (by simp) (by simp) (by simp) (by simp) (by simp)
def oddB (x : Nat) : Bool := decide (INF ≤ x % P63)
def meanS (l : List Nat) : Nat × Bool := if l.length = 0 ∨ l.any oddB then (0, false) else (shw (ups l) (downs l) l.length, true)
end Go.Proofs.YtfmjdoofopamkaaGreatDoor.Plain
