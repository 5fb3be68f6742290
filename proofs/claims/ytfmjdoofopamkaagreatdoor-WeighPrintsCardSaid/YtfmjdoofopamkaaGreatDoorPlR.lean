import Derived.Test.YtfmjdoofopamkaaGreatDoorPlF
import Derived.Test.YtfmjdoofopamkaaGreatDoorPlA
import Derived.Test.YtfmjdoofopamkaaGreatDoorWx5
import Derived.Test.YtfmjdoofopamkaaGreatDoorWx20
import Derived.Test.YtfmjdoofopamkaaGreatDoorWx21
namespace Go.Proofs.YtfmjdoofopamkaaGreatDoor.Plain
open Go.RowKit Go.Proofs.YtfmjdoofopamkaaGreatDoorW.PrintWords Go.Proofs.YtfmjdoofopamkaaGreatDoorW.PrintLast Go.Proofs.YtfmjdoofopamkaaGreatDoorW.PrintMore Go.Proofs.YtfmjdoofopamkaaGreatDoor.W
set_option linter.unusedVariables false
set_option linter.unusedSimpArgs false
set_option exponentiation.threshold 3000
def ulp (p q : Nat) : Nat := bl (p / q) - 53
theorem wordQ_ulp (p q : Nat) : wordQ p q = min (ulp p q * P52 + rne p (q * 2 ^ ulp p q)) INF := rfl
theorem rne_ge (p q : Nat) : p / q ≤ rne p q := by unfold rne; split <;> omega
theorem rne_le (p q : Nat) : rne p q ≤ p / q + 1 := by unfold rne; split <;> omega
theorem ulp_bounds (p q : Nat) : rne p (q * 2 ^ ulp p q) ≤ 2 * P52 ∧ (ulp p q = 0 ∨ P52 ≤ rne p (q * 2 ^ ulp p q)) := by
 have e : p / (q * 2 ^ ulp p q) = p / q / 2 ^ ulp p q := (Nat.div_div_eq_div_mul p q _).symm
 have h1 := rne_ge p (q * 2 ^ ulp p q)
 have h2 := rne_le p (q * 2 ^ ulp p q)
 rw [e] at h1 h2
 obtain ⟨n, hn⟩ : ∃ n, p / q = n := ⟨_, rfl⟩
 have hu : ulp p q = bl n - 53 := by unfold ulp; rw [hn]
 rw [hn] at h1 h2
 obtain ⟨u, hu2⟩ : ∃ u, ulp p q = u := ⟨_, rfl⟩
 rw [hu2] at h1 h2 hu ⊢
 have hlt : n / 2 ^ u < 2 * P52 := by
  rw [Nat.div_lt_iff_lt_mul (Nat.two_pow_pos u)]
  have h3 := lt_two_bl n
  have h4 : 2 ^ bl n ≤ 2 ^ (53 + u) := Nat.pow_le_pow_right (by omega) (by omega)
  rw [Nat.pow_add] at h4
  have h5 : 2 * P52 = 2 ^ 53 := by decide
  rw [h5]; omega
 refine ⟨by omega, ?_⟩
 by_cases h0 : u = 0
 ·exact .inl h0
 ·right
  refine Nat.le_trans ?_ h1
  rw [Nat.le_div_iff_mul_le (Nat.two_pow_pos u)]
  have hn0 : n ≠ 0 := by rintro rfl; simp [bl] at hu; omega
  have h3 := two_bl_le hn0
  have h4 : P52 * 2 ^ u = 2 ^ (bl n - 1) := by rw [show P52 = 2 ^ 52 from rfl, ← Nat.pow_add]; congr 1; omega
  omega
theorem wordQ_int (R U : Nat) (hR : R ≤ 2 * P52) (h : U = 0 ∨ P52 ≤ R) : wordQ (R * 2 ^ U) 1 = min (U * P52 + R) INF := by
 unfold wordQ
 rw [Nat.div_one, Nat.one_mul]
 by_cases h0 : R < P52
 ·have hU : U = 0 := by omega
  subst hU
  rw [Nat.pow_zero, Nat.mul_one]
  have hb : bl R ≤ 52 := bl_le h0
  rw [show bl R - 53 = 0 by omega, Nat.pow_zero, rne_one]
 ·have hR0 : R ≠ 0 := by unfold P52 at *; omega
  rw [bl_mul_pow hR0]
  by_cases h1 : R < 2 * P52
  ·have h53 : 2 * P52 = 2 ^ (52 + 1) := by decide
   have hb : bl R = 53 := bl_eq (k := 52) (by show P52 ≤ R; omega) (by rw [← h53]; exact h1)
   rw [hb, Nat.add_sub_cancel_left, rne_exact _ _ (Nat.two_pow_pos U)]
  ·have e : R = 2 * P52 := by omega
   have hb : bl R = 54 := by rw [e]; decide
   rw [hb, show 54 + U - 53 = U + 1 by omega, e]
   have e2 : 2 * P52 * 2 ^ U = P52 * 2 ^ (U + 1) := by rw [Nat.pow_succ, Nat.mul_comm 2 P52, Nat.mul_assoc, Nat.mul_comm 2]
   rw [e2, rne_exact _ _ (Nat.two_pow_pos _)]
   rw [show (U + 1) * P52 + P52 = U * P52 + 2 * P52 by rw [Nat.add_mul]; omega]
theorem wordQ_round (p q : Nat) : wordQ (rne p (q * 2 ^ ulp p q) * 2 ^ ulp p q) 1 = wordQ p q := by
 have h := ulp_bounds p q
 rw [wordQ_int _ _ h.1 h.2, wordQ_ulp p q]
theorem shift_lt (a b : Nat) (t : Int) (x y : Nat) (h : (x : Int) - y = -t) : a * 2 ^ x < b * 2 ^ y ↔ a * 2 ^ (-t).toNat < b * 2 ^ t.toNat := by
 obtain ⟨c, hc⟩ : ∃ c, min x y = c := ⟨_, rfl⟩
 have e1 : x = (-t).toNat + c := by omega
 have e2 : y = t.toNat + c := by omega
 rw [e1, e2, Nat.pow_add, Nat.pow_add, ← Nat.mul_assoc, ← Nat.mul_assoc]
 exact Nat.mul_lt_mul_right (Nat.two_pow_pos c)
theorem top_bl (a b E : Nat) (hb : b ≠ 0) (t : Int) (h0 : b * 2 ^ t.toNat ≤ a * 2 ^ (-t).toNat) (h1 : a * 2 ^ (-(t + 1)).toNat < b * 2 ^ (t + 1).toNat) :
  ((ulp (a * 2 ^ E) b : Nat) : Int) = max (t + E - 52) 0 := by
 have hb0 : 0 < b := Nat.pos_of_ne_zero hb
 unfold ulp
 by_cases h : 0 ≤ t + E
 ·obtain ⟨n, hn⟩ : ∃ n : Nat, t + E = n := ⟨(t + E).toNat, by omega⟩
  have hbl : bl (a * 2 ^ E / b) = n + 1 := by
   refine bl_eq ?_ ?_
   ·rw [Nat.le_div_iff_mul_le hb0, Nat.mul_comm]
    refine Nat.not_lt.1 fun hc => ?_
    exact absurd ((shift_lt a b t E n (by omega)).1 hc) (Nat.not_lt.2 h0)
   ·rw [Nat.div_lt_iff_lt_mul hb0, Nat.mul_comm]
    rw [Nat.mul_comm]
    have := (shift_lt a b (t + 1) E (n + 1) (by omega)).2 h1
    rwa [Nat.mul_comm b] at this
  rw [hbl]; omega
 ·have hlt : a * 2 ^ E < b := by
   have h2 := (shift_lt a b (t + 1) (E + (-(t + 1 + E)).toNat) 0 (by omega)).2 h1
   rw [Nat.pow_zero, Nat.mul_one, Nat.pow_add, ← Nat.mul_assoc] at h2
   have : a * 2 ^ E * 1 ≤ a * 2 ^ E * 2 ^ (-(t + 1 + E)).toNat := Nat.mul_le_mul_left _ (Nat.two_pow_pos _)
   omega
  rw [Nat.div_eq_of_lt hlt]
  simp [bl]; omega
theorem small_of {n : Nat} (h : bl n ≤ 33554432) : Small n := h
theorem bl_mul_le (n k : Nat) : bl (n * 2 ^ k) ≤ bl n + k := by
 by_cases h : n = 0
 ·subst h; simp [bl]
 ·rw [bl_mul_pow h]; omega
theorem mx_eq (a b : Int) : mx a b = max a b := by unfold mx; omega
theorem rounded_ok (a b E : Nat) (ha : a ≠ 0) (hb : b ≠ 0) (hla : bl a ≤ 1000000) (hlb : bl b ≤ 1000000) (hE : E ≤ 1074) :
  Ev (fun k => w2_rounded.f k (wl a) (wl b) ((E : Int) - 1074)) (wordQ (a * 2 ^ E) b) := by
 have hsa : Small a := Nat.le_trans hla (by omega)
 have hsb : Small b := Nat.le_trans hlb (by omega)
 unfold w2_rounded.f
 rw [length_ok a hsa, length_ok b hsb]
 simp only [Option.bind_some]
 obtain ⟨t0, ht0⟩ : ∃ t0 : Int, ((bl a : Nat) : Int) - ((bl b : Nat) : Int) = t0 := ⟨_, rfl⟩
 have hpa := bl_pos ha
 have hpb := bl_pos hb
 rw [w64 (x := ((bl a : Nat) : Int) - ((bl b : Nat) : Int)) (by omega) (by omega), ht0, w64 (x := -t0) (by omega) (by omega)]
 refine Ev.bind (up_ok a (-t0) hsa (by omega)) ?_
 refine Ev.bind (up_ok b t0 hsb (by omega)) ?_
 obtain ⟨c, hc, hc1, hc2, hc3⟩ := compare_ok (a * 2 ^ (-t0).toNat) (b * 2 ^ t0.toNat) (by have := bl_mul_le a (-t0).toNat; unfold Small; omega) (by have := bl_mul_le b t0.toNat; unfold Small; omega)
 refine Ev.bind hc ?_
 have tail : ∀ t : Int, t0 - 1 ≤ t → t ≤ t0 → b * 2 ^ t.toNat ≤ a * 2 ^ (-t).toNat → a * 2 ^ (-(t + 1)).toNat < b * 2 ^ (t + 1).toNat →
   Ev (fun k => w2_rounded.j0 k (wl a) (wl b) ((E : Int) - 1074) t) (wordQ (a * 2 ^ E) b) := by
  intro t hta htb h0 h1
  have hu := top_bl a b E hb t h0 h1
  obtain ⟨u, hu2⟩ : ∃ u, ulp (a * 2 ^ E) b = u := ⟨_, rfl⟩
  rw [hu2] at hu
  refine Ev.step (f := fun k => (wn_up.f k (wl a) (E - u : Int)).bind fun t315 => ((wn_up.f k (wl b) (u - E : Int)).bind fun t318 => ((wn_over.f k t315 t318).bind fun bt321 => ((w2_half.f k bt321.2 t318).bind fun t325 => (if t325 > 0 then ((math_Ldexp.f (floatOfInt .f64 (IntKind.u64.wrap (bt321.1 + 1))) ((u : Int) - 1074)).bind fun t326 => (some t326)) else (if t325 = 0 then (if (Int.tmod bt321.1 2) = 1 then ((math_Ldexp.f (floatOfInt .f64 (IntKind.u64.wrap (bt321.1 + 1))) ((u : Int) - 1074)).bind fun t327 => (some t327)) else ((math_Ldexp.f (floatOfInt .f64 bt321.1) ((u : Int) - 1074)).bind fun t328 => (some t328))) else ((math_Ldexp.f (floatOfInt .f64 bt321.1) ((u : Int) - 1074)).bind fun t329 => (some t329)))))))) (fun k => ?_) ?_
  ·have e1 : mx (wrap64 (wrap64 (t + ((E : Int) - 1074)) - 52)) (-1074) = (u : Int) - 1074 := by
    rw [w64 (x := t + ((E : Int) - 1074)) (by omega) (by omega), w64 (by omega) (by omega), mx_eq]; omega
   rw [w2_rounded.j0, e1, w64 (x := (E : Int) - 1074 - ((u : Int) - 1074)) (by omega) (by omega), w64 (x := ((u : Int) - 1074) - ((E : Int) - 1074)) (by omega) (by omega)]
   rw [show (E : Int) - 1074 - ((u : Int) - 1074) = E - u by omega, show ((u : Int) - 1074) - ((E : Int) - 1074) = u - E by omega]
  ·refine Ev.bind (up_ok a _ hsa (by omega)) ?_
   refine Ev.bind (up_ok b _ hsb (by omega)) ?_
   obtain ⟨A, hA⟩ : ∃ A, a * 2 ^ ((E : Int) - u).toNat = A := ⟨_, rfl⟩
   obtain ⟨B, hB⟩ : ∃ B, b * 2 ^ ((u : Int) - E).toNat = B := ⟨_, rfl⟩
   rw [hA, hB]
   have hA0 : A ≠ 0 := by rw [← hA]; exact Nat.mul_ne_zero ha (Nat.ne_of_gt (Nat.two_pow_pos _))
   have hB0 : B ≠ 0 := by rw [← hB]; exact Nat.mul_ne_zero hb (Nat.ne_of_gt (Nat.two_pow_pos _))
   have hsA : bl A ≤ 4000000 := by have := bl_mul_le a ((E : Int) - u).toNat; rw [hA] at this; omega
   have hsB : bl B ≤ 4000000 := by have := bl_mul_le b ((u : Int) - E).toNat; rw [hB] at this; omega
   have hlt : A < B * 2 ^ 53 := by
    rw [← hA, ← hB, Nat.mul_assoc, ← Nat.pow_add]
    have h2 := (shift_lt a b (t + 1) ((E : Int) - u).toNat (((E : Int) - u).toNat + t + 1).toNat)
    obtain ⟨d, hd⟩ : ∃ d : Nat, ((u : Int) - E).toNat + 53 = ((E : Int) - u).toNat + (t + 1) + d := ⟨(((u : Int) - E).toNat + 53 - (((E : Int) - u).toNat + (t + 1))).toNat, by omega⟩
    by_cases hn : 0 ≤ (((E : Int) - u).toNat : Int) + (t + 1)
    ·have h3 := (shift_lt a b (t + 1) ((E : Int) - u).toNat ((((E : Int) - u).toNat : Int) + (t + 1)).toNat (by omega)).2 h1
     refine Nat.lt_of_lt_of_le h3 (Nat.mul_le_mul_left _ (Nat.pow_le_pow_right (by omega) (by omega)))
    ·have h3 := (shift_lt a b (t + 1) (-(t + 1)).toNat 0 (by omega)).2 h1
     have h4 : a * 2 ^ ((E : Int) - u).toNat ≤ a * 2 ^ (-(t + 1)).toNat := Nat.mul_le_mul_left _ (Nat.pow_le_pow_right (by omega) (by omega))
     have h5 : b * 2 ^ 0 ≤ b * 2 ^ (((u : Int) - E).toNat + 53) := Nat.mul_le_mul_left _ (Nat.pow_le_pow_right (by omega) (by omega))
     omega
   have hblA : bl A ≤ bl B + 53 := by
    have := bl_mono (Nat.le_of_lt hlt)
    rw [bl_mul_pow hB0] at this; omega
   have hq : A / B < 2 ^ 53 := by rw [Nat.div_lt_iff_lt_mul (Nat.pos_of_ne_zero hB0), Nat.mul_comm]; exact hlt
   refine Ev.bind (over_ok A B hB0 (small_of (by omega)) (small_of (by omega)) (by omega)) ?_
   simp only
   have hrlt : A % B < B := Nat.mod_lt _ (Nat.pos_of_ne_zero hB0)
   have hrs : bl (A % B) ≤ 4000000 := Nat.le_trans (bl_mono (Nat.le_of_lt hrlt)) hsB
   have hrs2 : bl (2 * (A % B)) ≤ 4000001 := by
    have := bl_mul_le (A % B) 1; rw [Nat.pow_one, Nat.mul_comm] at this; omega
   obtain ⟨hh, he, e1, e2, e3⟩ := half_ok (A % B) B (small_of (by omega)) (small_of (by omega)) (small_of (by omega))
   refine Ev.bind he ?_
   have hR : rne A B = rne (a * 2 ^ E) (b * 2 ^ u) := by
    rw [← hA, ← hB]
    rcases Nat.le_total u E with hc4 | hc4
    ·obtain ⟨d, rfl⟩ := Nat.exists_eq_add_of_le hc4
     rw [show (((u + d : Nat) : Int) - u).toNat = d by omega, show ((u : Int) - ((u + d : Nat) : Int)).toNat = 0 by omega, Nat.pow_zero, Nat.mul_one, Nat.add_comm u d, Nat.pow_add, ← Nat.mul_assoc, rne_scale _ _ _ (Nat.two_pow_pos u)]
    ·obtain ⟨d, rfl⟩ := Nat.exists_eq_add_of_le hc4
     rw [show ((E : Int) - ((E + d : Nat) : Int)).toNat = 0 by omega, show (((E + d : Nat) : Int) - E).toNat = d by omega, Nat.pow_zero, Nat.mul_one, Nat.add_comm E d, Nat.pow_add, ← Nat.mul_assoc, rne_scale _ _ _ (Nat.two_pow_pos E)]
   have hfin : wordQ (rne A B * 2 ^ u) 1 = wordQ (a * 2 ^ E) b := by
    have := wordQ_round (a * 2 ^ E) b
    rw [hu2] at this
    rw [hR, this]
   obtain ⟨Q, hQ⟩ : ∃ Q, A / B = Q := ⟨_, rfl⟩
   rw [hQ] at hq ⊢
   have hlu : ∀ z : Nat, z ≤ 9007199254740992 → rne A B = z → math_Ldexp.f (floatOfInt .f64 (z : Int)) ((u : Int) - 1074) = some (wordQ (a * 2 ^ E) b) := fun z hz hr => by
    rw [ldexp_int z hz u (by omega), ← hr, hfin]
   have hw : IntKind.u64.wrap ((Q : Int) + 1) = ((Q + 1 : Nat) : Int) := by rw [wu64 (by omega) (by omega)]; omega
   have hev : Int.tmod (Q : Int) 2 = 1 ↔ Q % 2 = 1 := by rw [Int.tmod_eq_emod_of_nonneg (by omega)]; omega
   rw [hw]
   by_cases g1 : hh > 0
   ·have hr : rne A B = Q + 1 := by unfold rne; rw [if_pos (.inl (e3.1 g1)), hQ]
    refine Ev.congr (f := fun _ => some (wordQ (a * 2 ^ E) b)) (fun k => ?_) (Ev.now _)
    rw [if_pos g1, hlu _ (by omega) hr]; rfl
   ·by_cases g2 : hh = 0
    ·have h2 := e2.1 g2
     by_cases g3 : Q % 2 = 1
     ·have hr : rne A B = Q + 1 := by unfold rne; rw [if_pos (.inr ⟨h2.symm, by rw [hQ]; exact g3⟩), hQ]
      refine Ev.congr (f := fun _ => some (wordQ (a * 2 ^ E) b)) (fun k => ?_) (Ev.now _)
      rw [if_neg g1, if_pos g2, if_pos (hev.2 g3), hlu _ (by omega) hr]; rfl
     ·have hr : rne A B = Q := by
       unfold rne; rw [hQ]
       obtain ⟨m, hm⟩ : ∃ m, A % B = m := ⟨_, rfl⟩
       rw [hm] at h2 ⊢
       exact if_neg (by omega)
      refine Ev.congr (f := fun _ => some (wordQ (a * 2 ^ E) b)) (fun k => ?_) (Ev.now _)
      rw [if_neg g1, if_pos g2, if_neg (fun h => g3 (hev.1 h)), hlu _ (by omega) hr]; rfl
    ·have g4 : hh < 0 := by omega
     have h2 := e1.1 g4
     have hr : rne A B = Q := by
      unfold rne; rw [hQ]
      obtain ⟨m, hm⟩ : ∃ m, A % B = m := ⟨_, rfl⟩
      rw [hm] at h2 ⊢
      exact if_neg (by omega)
     refine Ev.congr (f := fun _ => some (wordQ (a * 2 ^ E) b)) (fun k => ?_) (Ev.now _)
     rw [if_neg g1, if_neg g2, hlu _ (by omega) hr]; rfl
 have ha0 := two_bl_le ha
 have ha1 := lt_two_bl a
 have hb0 := two_bl_le hb
 have hb1 := lt_two_bl b
 have up1 : a * 2 ^ (-(t0 + 1)).toNat < b * 2 ^ (t0 + 1).toNat := by
  have h2 : a * 2 ^ (-(t0 + 1)).toNat < 2 ^ bl a * 2 ^ (-(t0 + 1)).toNat := Nat.mul_lt_mul_of_pos_right ha1 (Nat.two_pow_pos _)
  have h3 : 2 ^ (bl b - 1) * 2 ^ (t0 + 1).toNat ≤ b * 2 ^ (t0 + 1).toNat := Nat.mul_le_mul_right _ hb0
  rw [← Nat.pow_add] at h2 h3
  have h4 : bl a + (-(t0 + 1)).toNat = bl b - 1 + (t0 + 1).toNat := by omega
  rw [h4] at h2; omega
 have lo1 : b * 2 ^ (t0 - 1).toNat ≤ a * 2 ^ (-(t0 - 1)).toNat := by
  have h2 : b * 2 ^ (t0 - 1).toNat < 2 ^ bl b * 2 ^ (t0 - 1).toNat := Nat.mul_lt_mul_of_pos_right hb1 (Nat.two_pow_pos _)
  have h3 : 2 ^ (bl a - 1) * 2 ^ (-(t0 - 1)).toNat ≤ a * 2 ^ (-(t0 - 1)).toNat := Nat.mul_le_mul_right _ ha0
  rw [← Nat.pow_add] at h2 h3
  have h4 : bl a - 1 + (-(t0 - 1)).toNat = bl b + (t0 - 1).toNat := by omega
  rw [h4] at h3; omega
 by_cases hcn : c < 0
 ·refine Ev.congr (fun k => by rw [if_pos hcn]) ?_
  rw [w64 (x := t0 - 1) (by omega) (by omega)]
  exact tail (t0 - 1) (by omega) (by omega) lo1 (by rw [show t0 - 1 + 1 = t0 by omega]; exact hc1.1 hcn)
 ·refine Ev.congr (fun k => by rw [if_neg hcn]) ?_
  exact tail t0 (by omega) (by omega) (Nat.not_lt.1 fun h => hcn (hc1.2 h)) up1
end Go.Proofs.YtfmjdoofopamkaaGreatDoor.Plain
namespace Go.Proofs.YtfmjdoofopamkaaGreatDoor.Plain
open Go.RowKit Go.Proofs.YtfmjdoofopamkaaGreatDoorW.PrintWords Go.Proofs.YtfmjdoofopamkaaGreatDoorW.PrintLast Go.Proofs.YtfmjdoofopamkaaGreatDoorW.PrintMore Go.Proofs.YtfmjdoofopamkaaGreatDoor.W
set_option linter.unusedVariables false
set_option linter.unusedSimpArgs false
set_option exponentiation.threshold 3000
def pend (car mid i a : Nat) : Nat := car + (if i = a then mid * B32 else mid)
def ups : List Nat → Nat
 | [] => 0
 | x :: l => (if P63 ≤ x then 0 else fv (x % P63)) + ups l
def downs : List Nat → Nat
 | [] => 0
 | x :: l => (if P63 ≤ x then fv (x % P63) else 0) + downs l
def Fin (l : List Nat) : Prop := ∀ x ∈ l, x < 18446744073709551616 ∧ x % P63 < INF
theorem fv_bound {r : Nat} (h : r < INF) : fv r < 2 ^ 2098 := by
 have h1 := fv_lt h
 have e : fv INF = 2 ^ 2098 := by decide
 omega
def shw (a b n : Nat) : Nat := if b < a then wordQ (a - b) n else if a < b then P63 + wordQ (b - a) n else 0
end Go.Proofs.YtfmjdoofopamkaaGreatDoor.Plain
namespace Go.Proofs.YtfmjdoofopamkaaGreatDoor.Plain
open Go.RowKit Go.Proofs.YtfmjdoofopamkaaGreatDoorW.PrintWords Go.Proofs.YtfmjdoofopamkaaGreatDoorW.PrintLast Go.Proofs.YtfmjdoofopamkaaGreatDoorW.PrintMore Go.Proofs.YtfmjdoofopamkaaGreatDoor.W
set_option linter.unusedVariables false
set_option linter.unusedSimpArgs false
set_option exponentiation.threshold 3000
abbrev NAN : Nat := 9221120237041090560
abbrev NINF : Nat := 18442240474082181120
def W64 (l : List Nat) : Prop := ∀ x ∈ l, x < 18446744073709551616
def nanB (x : Nat) : Bool := decide (INF < x % P63)
theorem isinf1_ok (x : Nat) (h : x < 18446744073709551616) (hn : nanB x = false) : math_IsInf.f x 1 = some (decide (x = INF)) := by
 unfold math_IsInf.f
 rw [if_neg (by omega), if_neg (by omega)]
 have hn' : ¬ INF < x % P63 := by unfold nanB at hn; exact of_decide_eq_false hn
 refine congrArg some ?_
 by_cases h1 : x < P63
 ·exact gt_max x h1
 ·have h2 : x % P63 = x - P63 := by unfold P63 at *; omega
  rw [decide_eq_false (by unfold INF P63 at *; omega)]
  by_cases h3 : x % P63 < INF
  ·rw [order_fin x _ h3 (by decide)]
   have hs : sv x ≤ 0 := by
    unfold sv
    rw [show (x / P63 % 2 == 1) = true by rw [show x / P63 = 1 by unfold P63 at *; omega]; rfl, if_pos rfl]; omega
   have hp : (0 : Int) < sv 9218868437227405311 := by
    rw [sv_pos (by unfold P63; omega)]; have := fv_pos (show 0 < 9218868437227405311 by omega); omega
   simp only [compare, compareOfLessAndEq]
   rw [if_pos (by omega)]; rfl
  ·have h4 : x = NINF := by unfold INF P63 at *; show x = 18442240474082181120; omega
   rw [h4]; decide
theorem neg_high (x : Nat) (h : x < 18446744073709551616) : Op.negFloat .f64 x = if x < P63 then P63 + x else x - P63 := by
 have e : Op.negFloat .f64 x = x ^^^ 2 ^ 63 := rfl
 rw [e]
 have key : ∀ r : Nat, r < 2 ^ 63 → r ^^^ 2 ^ 63 = 2 ^ 63 + r := by
  intro r h1
  have h2 : r ^^^ 2 ^ 63 = 2 ^ 63 * 1 ||| r := by
   refine Nat.eq_of_testBit_eq fun i => ?_
   rw [Nat.testBit_xor, Nat.testBit_or, Nat.mul_one, Nat.testBit_two_pow]
   by_cases hi : 63 = i
   ·subst hi; rw [Nat.testBit_lt_two_pow h1]; rfl
   ·rw [decide_eq_false hi]; simp
  rw [h2, ← Nat.two_pow_add_eq_or_of_lt h1, Nat.mul_one]
 by_cases h1 : x < P63
 ·rw [if_pos h1]; exact key x h1
 ·rw [if_neg h1]
  have h2 := key (x - P63) (by unfold P63 at *; omega)
  have h3 : 2 ^ 63 + (x - P63) = x := by unfold P63 at *; omega
  rw [h3] at h2
  conv => lhs; rw [← h2]
  rw [Nat.xor_assoc, Nat.xor_self, Nat.xor_zero]
def exactS (l : List Nat) : Nat :=
 if l.any nanB then NAN else if INF ∈ l ∧ NINF ∈ l then NAN else if INF ∈ l then INF else if NINF ∈ l then NINF else shw (ups l) (downs l) 1
def oddB (x : Nat) : Bool := decide (INF ≤ x % P63)
def meanS (l : List Nat) : Nat × Bool := if l.length = 0 ∨ l.any oddB then (0, false) else (shw (ups l) (downs l) l.length, true)
end Go.Proofs.YtfmjdoofopamkaaGreatDoor.Plain
