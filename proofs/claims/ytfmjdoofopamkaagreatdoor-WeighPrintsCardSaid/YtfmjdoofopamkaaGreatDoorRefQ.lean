import Derived.Test.YtfmjdoofopamkaaGreatDoorPlP
import Derived.Test.YtfmjdoofopamkaaGreatDoorRefO
import Derived.Test.YtfmjdoofopamkaaGreatDoorWeighTold
import Derived.Test.YtfmjdoofopamkaaGreatDoorWx28
import Derived.Test.YtfmjdoofopamkaaGreatDoorWx32
import Derived.Test.YtfmjdoofopamkaaGreatDoorWx33
import Derived.Test.YtfmjdoofopamkaaGreatDoorWx31
import Derived.Test.YtfmjdoofopamkaaGreatDoorWx34
import Derived.Test.YtfmjdoofopamkaaGreatDoorWx19
namespace Go.Proofs.YtfmjdoofopamkaaGreatDoor.Plain
open Go.RowKit Go.Proofs.YtfmjdoofopamkaaGreatDoorW.PrintWords Go.Proofs.YtfmjdoofopamkaaGreatDoorW.PrintLast Go.Proofs.YtfmjdoofopamkaaGreatDoorW.PrintMore Go.Proofs.YtfmjdoofopamkaaGreatDoor.W
set_option linter.unusedVariables false
set_option linter.unusedSimpArgs false
set_option exponentiation.threshold 3000
def dxs (n : Nat) : List Int := if n = 0 then [] else dx n
theorem dxs_step {n : Nat} (h : n ≠ 0) : dxs n = dxs (n / 10) ++ [((48 + n % 10 : Nat) : Int)] := by
 unfold dxs
 rw [if_neg h]
 by_cases hs : n < 10
 ·rw [if_pos (by omega), dx_small hs, Nat.mod_eq_of_lt hs]; rfl
 ·rw [if_neg (by omega), dx_big hs]
theorem decimal_loop : ∀ (m n : Nat) (acc : ByteArray), n < 10 ^ m → m ≤ 19 → acc.size + m ≤ 100 → ∃ t : ByteArray, Ev (fun k => r2_decimal.l0 k (n : Int) acc) t ∧ bytesOf t = dxs n ++ bytesOf acc ∧ t.size ≤ 100
 | 0, n, acc, h, hm, ha => by
  have h0 : n = 0 := by rw [Nat.pow_zero] at h; omega
  subst h0
  exact ⟨acc, Ev.step (f := fun _ => some acc) (fun k => by rw [r2_decimal.l0, if_neg (by omega)]) (Ev.now _), rfl, by omega⟩
 | m + 1, n, acc, h, hm, ha => by
  by_cases h0 : n = 0
  ·subst h0
   exact ⟨acc, Ev.step (f := fun _ => some acc) (fun k => by rw [r2_decimal.l0, if_neg (by omega)]) (Ev.now _), rfl, by omega⟩
  ·have h64 : n < 10 ^ 19 := Nat.lt_of_lt_of_le h (Nat.pow_le_pow_right (by omega) hm)
   have e1 : Int.tmod (n : Int) 10 = ((n % 10 : Nat) : Int) := by rw [Int.tmod_eq_emod_of_nonneg (by omega)]; omega
   have e2 : (IntKind.u64.wrap (48 + (Int.tmod (n : Int) 10))) % 256 = ((48 + n % 10 : Nat) : Int) := by rw [e1, wu64 (by omega) (by omega)]; omega
   have hb : bytesOf (strOfNums [((48 + n % 10 : Nat) : Int)]) = [((48 + n % 10 : Nat) : Int)] := bytesOf_strOfNums _ (by
    intro x hx
    rw [List.mem_singleton] at hx
    omega)
   have hsz : (strOfNums [((48 + n % 10 : Nat) : Int)]).size = 1 := by rw [sz, hb]; rfl
   obtain ⟨t, t1, t2, t3⟩ := decimal_loop m (n / 10) (strOfNums [((48 + n % 10 : Nat) : Int)] ++ acc) (by rw [Nat.pow_succ] at h; omega) (by omega) (by rw [ByteArray.size_append, hsz]; omega)
   refine ⟨t, ?_, ?_, t3⟩
   ·refine Ev.step (fun k => ?_) t1
    have e3 : IntKind.u64.wrap (Int.tdiv (n : Int) 10) = ((n / 10 : Nat) : Int) := by rw [Int.tdiv_eq_ediv_of_nonneg (by omega), wu64 (by omega) (by omega)]; omega
    rw [r2_decimal.l0, if_pos (by omega), Option.bind_some, e2, hsz, if_pos (by omega), e3]
   ·rw [t2, bytesOf_append, hb, dxs_step h0, List.append_assoc]
theorem decimal_ok (n : Nat) (h : n < 10 ^ 19) : ∃ t : ByteArray, Ev (fun k => r2_decimal.f k (n : Int)) t ∧ bytesOf t = dx n ∧ t.size ≤ 100 := by
 unfold r2_decimal.f
 by_cases h0 : n = 0
 ·subst h0
  exact ⟨⟨#[48]⟩, Ev.congr (f := fun _ => some ⟨#[48]⟩) (fun k => by rw [if_pos (by simp)]) (Ev.now _), by rw [dx_small (by omega)]; rfl, by decide⟩
 ·obtain ⟨t, t1, t2, t3⟩ := decimal_loop 19 n ⟨#[]⟩ h (by omega) (by decide)
  refine ⟨t, Ev.congr (fun k => by rw [if_neg (by omega)]) t1, ?_, t3⟩
  rw [t2]
  unfold dxs
  rw [if_neg h0]
  exact List.append_nil _
theorem reads_ok (u : Nat) (hu : u < INF) (d : Nat) (hd : d < 10 ^ 18) (y : Int) (hy0 : -1000 ≤ y) (hy1 : y ≤ 1000) : Ev (fun k => r2_reads.f k (d : Int) y (u : Int)) (decide (Ok u y d)) := by
 obtain ⟨t, t1, t2, t3⟩ := decimal_ok d (by omega)
 obtain ⟨i1, i2, i3, i4⟩ := dx_facts 17 d hd
 have hn := nearest_ok t y (by omega) (by omega) (by rw [t2]; exact i1) (by rw [t2]; omega)
 rw [t2, i2] at hn
 unfold r2_reads.f
 refine Ev.bind t1 (Ev.bind hn ?_)
 obtain ⟨w, hw⟩ : ∃ w, decW d y = w := ⟨_, rfl⟩
 have hok : Ok u y d ↔ d ≠ 0 ∧ w = u := by unfold Ok; rw [hw]
 rw [hw]
 unfold nearS
 by_cases hi : w = INF
 ·rw [if_pos hi]
  have e : decide (Ok u y d) = false := decide_eq_false (fun h => by have := (hok.1 h).2; omega)
  rw [e]
  exact Ev.congr (f := fun _ => some false) (fun k => by rw [if_neg (by simp)]) (Ev.now _)
 ·rw [if_neg hi]
  by_cases he : w = u
  ·have e : decide (Ok u y d) = decide ((d : Int) > 0) := decide_eq_decide.2 ⟨fun h => by have := (hok.1 h).1; omega, fun h => hok.2 ⟨by omega, he⟩⟩
   rw [e]
   exact Ev.congr (f := fun _ => some (decide ((d : Int) > 0))) (fun k => by rw [if_pos rfl, if_pos (by omega)]) (Ev.now _)
  ·have e : decide (Ok u y d) = false := decide_eq_false (fun h => he (hok.1 h).2)
   rw [e]
   exact Ev.congr (f := fun _ => some false) (fun k => by rw [if_pos rfl, if_neg (by omega)]) (Ev.now _)
theorem bare_ok : ∀ (m d : Nat) (y : Int), d ≤ m → d ≠ 0 → d < 10 ^ 18 → -1000 ≤ y → y + m ≤ 10 ^ 18 + 1000 → ∃ (D j : Nat), D % 10 ≠ 0 ∧ d = D * 10 ^ j ∧ Ev (fun k => r2_bare.f k (d : Int) y) ((D : Int), y + j)
 | 0, d, y, hm, h0, _, _, _ => by omega
 | m + 1, d, y, hm, h0, h18, hy0, hy1 => by
  have et : Int.tmod (d : Int) 10 = ((d % 10 : Nat) : Int) := by rw [Int.tmod_eq_emod_of_nonneg (by omega)]; omega
  by_cases h : d % 10 = 0
  ·obtain ⟨D, j, i1, i2, i3⟩ := bare_ok m (d / 10) (y + 1) (by omega) (by omega) (by omega) (by omega) (by omega)
   refine ⟨D, j + 1, i1, ?_, ?_⟩
   ·rw [Nat.pow_succ, ← Nat.mul_assoc, ← i2]; omega
   ·rw [show y + ((j + 1 : Nat) : Int) = y + 1 + (j : Int) by omega]
    refine Ev.step (fun k => ?_) i3
    have e1 : IntKind.u64.wrap (Int.tdiv (d : Int) 10) = ((d / 10 : Nat) : Int) := by rw [Int.tdiv_eq_ediv_of_nonneg (by omega), wu64 (by omega) (by omega)]; omega
    show r2_bare.l0 (k + 1) (d : Int) y = _
    rw [r2_bare.l0, if_pos (by rw [et]; omega), if_pos (by omega), e1, w64 (x := y + 1) (by omega) (by omega)]
    rfl
  ·refine ⟨d, 0, h, by rw [Nat.pow_zero, Nat.mul_one], ?_⟩
   rw [show y + ((0 : Nat) : Int) = y by omega]
   refine Ev.step (f := fun _ => some ((d : Int), y)) (fun k => ?_) (Ev.now _)
   show r2_bare.l0 (k + 1) (d : Int) y = _
   rw [r2_bare.l0, if_neg (by rw [et]; omega)]
theorem strip_eq {D E : Nat} (hD : D % 10 ≠ 0) (hE : E % 10 ≠ 0) : ∀ {i j : Nat}, D * 10 ^ i = E * 10 ^ j → D = E ∧ i = j
 | 0, 0, h => by simpa using h
 | 0, j + 1, h => by rw [Nat.pow_zero, Nat.mul_one, Nat.pow_succ, ← Nat.mul_assoc] at h; omega
 | i + 1, 0, h => by rw [Nat.pow_zero, Nat.mul_one, Nat.pow_succ, ← Nat.mul_assoc] at h; omega
 | i + 1, j + 1, h => by
  rw [Nat.pow_succ, Nat.pow_succ, ← Nat.mul_assoc, ← Nat.mul_assoc] at h
  obtain ⟨h1, h2⟩ := strip_eq hD hE (Nat.eq_of_mul_eq_mul_right (by omega) h)
  exact ⟨h1, by omega⟩
theorem ref_pick (u l : Nat) (y : Int) : (if Ok u y (fv u * 10 ^ l / un y l) ∧ (¬ Ok u y (fv u * 10 ^ l / un y l + 1) ∨ 2 * (fv u * 10 ^ l % un y l) < un y l ∨ (2 * (fv u * 10 ^ l % un y l) = un y l ∧ fv u * 10 ^ l / un y l % 2 = 0)) then some (fv u * 10 ^ l / un y l) else if Ok u y (fv u * 10 ^ l / un y l + 1) then some (fv u * 10 ^ l / un y l + 1) else none) = pick u l y := by
 have hfs := fst_snd (fv u * 10 ^ l) (un y l)
 have hrn : fst (fv u * 10 ^ l) (un y l) = if un y l < 2 * (fv u * 10 ^ l % un y l) ∨ (un y l = 2 * (fv u * 10 ^ l % un y l) ∧ fv u * 10 ^ l / un y l % 2 = 1) then fv u * 10 ^ l / un y l + 1 else fv u * 10 ^ l / un y l := rfl
 unfold pick
 obtain ⟨F, hF⟩ : ∃ F, fv u * 10 ^ l = F := ⟨_, rfl⟩
 obtain ⟨T, hT⟩ : ∃ T, un y l = T := ⟨_, rfl⟩
 rw [hF, hT] at hfs hrn ⊢
 obtain ⟨q, hq⟩ : ∃ q, F / T = q := ⟨_, rfl⟩
 obtain ⟨r, hr⟩ : ∃ r, F % T = r := ⟨_, rfl⟩
 rw [hq, hr] at hrn
 rw [hq] at hfs
 rw [hq, hr]
 by_cases hc : T < 2 * r ∨ (T = 2 * r ∧ q % 2 = 1)
 ·rw [if_pos hc] at hrn
  have hs : snd F T = q := by omega
  rw [hrn, hs]
  by_cases h1 : Ok u y (q + 1)
  ·rw [if_pos h1, if_neg (by rintro ⟨_, h | h | h⟩; exact h h1; omega; omega), if_pos h1]
  ·rw [if_neg h1, if_neg h1]
   by_cases h2 : Ok u y q
   ·rw [if_pos ⟨h2, .inl h1⟩, if_pos h2]
   ·rw [if_neg (fun h => h2 h.1), if_neg h2]
 ·rw [if_neg hc] at hrn
  have hs : snd F T = q + 1 := by omega
  rw [hrn, hs]
  have hor : 2 * r < T ∨ (2 * r = T ∧ q % 2 = 0) := by omega
  by_cases h2 : Ok u y q
  ·rw [if_pos ⟨h2, .inr hor⟩, if_pos h2]
  ·rw [if_neg (fun h => h2 h.1), if_neg h2]
structure Frac (u p q : Nat) : Prop where
 eq : p * 2 ^ 1074 = fv u * q
 q0 : q ≠ 0
 p0 : p ≠ 0
 bp : bl p ≤ 3000
 bq : bl q ≤ 3000
theorem frac_cross {u p q : Nat} (h : Frac u p q) (y : Int) (l : Nat) (hl : -(l : Int) ≤ y) : (p * 10 ^ (-y).toNat) * un y l = fv u * 10 ^ l * (q * 10 ^ y.toNat) := by
 have hp : 10 ^ (-y).toNat * 10 ^ (y + l).toNat = 10 ^ l * 10 ^ y.toNat := by rw [← Nat.pow_add, ← Nat.pow_add]; congr 1; omega
 have he := h.eq
 unfold un
 generalize (2 : Nat) ^ 1074 = W at he ⊢
 generalize (10 : Nat) ^ (-y).toNat = a at hp ⊢
 generalize (10 : Nat) ^ (y + l).toNat = b at hp ⊢
 generalize (10 : Nat) ^ y.toNat = c at hp ⊢
 generalize (10 : Nat) ^ l = g at hp ⊢
 have e1 : p * a * (b * W) = p * W * (a * b) := by simp only [Nat.mul_assoc, Nat.mul_comm, Nat.mul_left_comm]
 have e2 : fv u * g * (q * c) = fv u * q * (g * c) := by simp only [Nat.mul_assoc, Nat.mul_comm, Nat.mul_left_comm]
 rw [e1, e2, hp, he]
theorem cross_lt {A B F T : Nat} (hB : 0 < B) (hT : 0 < T) (h : A * T = F * B) : (A < B ↔ F < T) ∧ (B < A ↔ T < F) := by
 constructor
 ·rw [← Nat.mul_lt_mul_right hT, h, Nat.mul_comm B T]; exact Nat.mul_lt_mul_right hB
 ·rw [← Nat.mul_lt_mul_right hT, h, Nat.mul_comm B T]; exact Nat.mul_lt_mul_right hB
theorem cmpS_cross {A B F T : Nat} (hB : 0 < B) (hT : 0 < T) (h : A * T = F * B) : cmpS A B = cmpS F T := by
 obtain ⟨h1, h2⟩ := cross_lt hB hT h
 unfold cmpS
 by_cases c1 : A < B
 ·rw [if_pos c1, if_pos (h1.1 c1)]
 ·rw [if_neg c1, if_neg (fun hc => c1 (h1.2 hc))]
  by_cases c2 : B < A
  ·rw [if_pos c2, if_pos (h2.1 c2)]
  ·rw [if_neg c2, if_neg (fun hc => c2 (h2.2 hc))]
theorem frac_sizes {u p q : Nat} (h : Frac u p q) (y : Int) (hy0 : -1000 ≤ y) (hy1 : y ≤ 1000) : bl (p * 10 ^ (-y).toNat) ≤ 10000 ∧ bl (q * 10 ^ y.toNat) ≤ 10000 ∧ 0 < q * 10 ^ y.toNat := by
 have h1 := bl_mul10 p (-y).toNat
 have h2 := bl_mul10 q y.toNat
 have h3 := h.bp
 have h4 := h.bq
 exact ⟨by omega, by omega, Nat.mul_pos (Nat.pos_of_ne_zero h.q0) (Nat.pow_pos (by omega))⟩
theorem rscaled_ok {u p q : Nat} (h : Frac u p q) (y : Int) (hy0 : -1000 ≤ y) (hy1 : y ≤ 1000) (l : Nat) (hl : 1000 ≤ l) : Ev (fun k => r2_scaled.f k (rl p) (rl q) y) (cmpS (fv u * 10 ^ l) (un y l)) := by
 obtain ⟨s1, s2, s3⟩ := frac_sizes h y hy0 hy1
 have hc := cmpS_cross s3 (un_pos y l) (frac_cross h y l (by omega))
 have h3 := h.bp
 have h4 := h.bq
 unfold r2_scaled.f
 by_cases hy : y ≥ 0
 ·have ep : p * 10 ^ (-y).toNat = p := by rw [show (-y).toNat = 0 by omega, Nat.pow_zero, Nat.mul_one]
  rw [ep] at hc
  have hb := bl_pow10 y.toNat
  rw [← hc]
  exact Ev.congr (fun k => by rw [if_pos hy]) (Ev.bind (rten_ok y (by omega)) (Ev.bind (prod_ok q (10 ^ y.toNat) (rl_bl _ (by omega)) (rl_bl _ (by omega))) (Ev.bind (rcmp_ok p (q * 10 ^ y.toNat) (by have := rl_bl p (by omega); omega) (by have := rl_bl (q * 10 ^ y.toNat) (by omega); omega)) (Ev.now _))))
 ·have eq : q * 10 ^ y.toNat = q := by rw [show y.toNat = 0 by omega, Nat.pow_zero, Nat.mul_one]
  rw [eq] at hc
  have hb := bl_pow10 (-y).toNat
  rw [← hc]
  exact Ev.congr (fun k => by rw [if_neg hy, w64 (x := -y) (by omega) (by omega)]) (Ev.bind (rten_ok (-y) (by omega)) (Ev.bind (prod_ok p (10 ^ (-y).toNat) (rl_bl _ (by omega)) (rl_bl _ (by omega))) (Ev.bind (rcmp_ok (p * 10 ^ (-y).toNat) q (by have := rl_bl (p * 10 ^ (-y).toNat) (by omega); omega) (by have := rl_bl q (by omega); omega)) (Ev.now _))))
def topChk (i : Nat) : Bool :=
 decide (10 ^ (Int.tdiv (((i : Int) - 1100) * 30103) 100000 - 4).toNat * 2 ^ (1 - ((i : Int) - 1100)).toNat ≤ 2 ^ (((i : Int) - 1100) - 1).toNat * 10 ^ (4 - Int.tdiv (((i : Int) - 1100) * 30103) 100000).toNat) &&
 decide (2 ^ (((i : Int) - 1100) + 1).toNat * 10 ^ (-(Int.tdiv (((i : Int) - 1100) * 30103) 100000 + 5)).toNat ≤ 10 ^ (Int.tdiv (((i : Int) - 1100) * 30103) 100000 + 5).toNat * 2 ^ (-(((i : Int) - 1100) + 1)).toNat)
set_option maxRecDepth 100000 in
theorem topChk_all : (List.range 2200).all topChk = true := by decide +kernel
theorem top_near {u p q : Nat} (h : Frac u p q) (hL0 : -1100 ≤ ((bl p : Nat) : Int) - (bl q : Nat)) (hL1 : ((bl p : Nat) : Int) - (bl q : Nat) < 1100) (l : Nat) (hl : 1000 ≤ l) :
  un (Int.tdiv ((((bl p : Nat) : Int) - (bl q : Nat)) * 30103) 100000 - 4) l ≤ fv u * 10 ^ l ∧ fv u * 10 ^ l < un (Int.tdiv ((((bl p : Nat) : Int) - (bl q : Nat)) * 30103) 100000 + 5) l := by
 obtain ⟨i, hi⟩ : ∃ i : Nat, ((bl p : Nat) : Int) - (bl q : Nat) = (i : Int) - 1100 := ⟨(((bl p : Nat) : Int) - (bl q : Nat) + 1100).toNat, by omega⟩
 have hc := List.all_eq_true.1 topChk_all i (List.mem_range.2 (by omega))
 unfold topChk at hc
 rw [← hi, Bool.and_eq_true, decide_eq_true_eq, decide_eq_true_eq] at hc
 obtain ⟨c1, c2⟩ := hc
 obtain ⟨L, hL⟩ : ∃ L : Int, ((bl p : Nat) : Int) - (bl q : Nat) = L := ⟨_, rfl⟩
 rw [hL] at c1 c2 hL0 hL1 ⊢
 obtain ⟨t, ht⟩ : ∃ t : Int, Int.tdiv (L * 30103) 100000 = t := ⟨_, rfl⟩
 rw [ht] at c1 c2 ⊢
 have htb : -400 ≤ t ∧ t ≤ 400 := by
  rw [← ht]
  rcases Int.le_total 0 L with hp | hp
  ·rw [Int.tdiv_eq_ediv_of_nonneg (by omega)]; omega
  ·have : Int.tdiv (L * 30103) 100000 = -(Int.tdiv (-L * 30103) 100000) := by rw [← Int.neg_tdiv]; congr 1; omega
   rw [this, Int.tdiv_eq_ediv_of_nonneg (by omega)]; omega
 have hp0 := two_bl_le h.p0
 have hp1 := lt_two_bl p
 have hq0 := two_bl_le h.q0
 have hq1 := lt_two_bl q
 have bp := bl_pos h.p0
 have bq := bl_pos h.q0
 have hqp := Nat.pos_of_ne_zero h.q0
 have e := h.eq
 constructor
 ·refine (un_iff (fv u) (t - 4) l (by omega)).1.2 ?_
  rw [show -(t - 4) = 4 - t by omega]
  obtain ⟨c, hcc⟩ : ∃ c, min (bl q) (bl p - 1) = c := ⟨_, rfl⟩
  have k1 : 10 ^ (t - 4).toNat * 2 ^ bl q ≤ 2 ^ (bl p - 1) * 10 ^ (4 - t).toNat := by
   have := Nat.mul_le_mul_right (2 ^ c) c1
   rw [Nat.mul_assoc, ← Nat.pow_add, Nat.mul_right_comm, ← Nat.pow_add, show (1 - L).toNat + c = bl q by omega, show (L - 1).toNat + c = bl p - 1 by omega] at this
   exact this
  have k2 : 10 ^ (t - 4).toNat * q ≤ p * 10 ^ (4 - t).toNat :=
   Nat.le_trans (Nat.mul_le_mul_left _ (Nat.le_of_lt hq1)) (Nat.le_trans k1 (Nat.mul_le_mul_right _ hp0))
  have k3 := Nat.mul_le_mul_right (2 ^ 1074) k2
  rw [Nat.mul_right_comm p, e, Nat.mul_right_comm (10 ^ (t - 4).toNat), Nat.mul_right_comm (fv u)] at k3
  exact Nat.le_of_mul_le_mul_right k3 hqp
 ·refine (un_iff (fv u) (t + 5) l (by omega)).2.2 ?_
  obtain ⟨c, hcc⟩ : ∃ c, min (bl p) (bl q - 1) = c := ⟨_, rfl⟩
  have k1 : 2 ^ bl p * 10 ^ (-(t + 5)).toNat ≤ 10 ^ (t + 5).toNat * 2 ^ (bl q - 1) := by
   have := Nat.mul_le_mul_right (2 ^ c) c2
   rw [Nat.mul_right_comm, ← Nat.pow_add, Nat.mul_assoc, ← Nat.pow_add, show (L + 1).toNat + c = bl p by omega, show (-(L + 1)).toNat + c = bl q - 1 by omega] at this
   exact this
  have k2 : p * 10 ^ (-(t + 5)).toNat < 10 ^ (t + 5).toNat * q :=
   Nat.lt_of_lt_of_le (Nat.mul_lt_mul_of_pos_right hp1 (Nat.pow_pos (by omega))) (Nat.le_trans k1 (Nat.mul_le_mul_left _ hq0))
  have k3 := Nat.mul_lt_mul_of_pos_right k2 (Nat.two_pow_pos 1074)
  rw [Nat.mul_right_comm p, e, Nat.mul_right_comm (10 ^ (t + 5).toNat), Nat.mul_right_comm (fv u)] at k3
  exact Nat.lt_of_mul_lt_mul_right k3
theorem cmp_neg (F T : Nat) : (cmpS F T < 0 ↔ F < T) ∧ (cmpS F T ≥ 0 ↔ T ≤ F) := by
 unfold cmpS
 constructor
 ·constructor
  ·intro h; split at h
   ·assumption
   ·split at h <;> omega
  ·intro h; rw [if_pos h]; omega
 ·constructor
  ·intro h; split at h <;> omega
  ·intro h; rw [if_neg (by omega)]; split <;> omega
theorem down_loop {u p q : Nat} (h : Frac u p q) (l : Nat) (hl : 1000 ≤ l) (x0 : Int) : ∀ (m : Nat) (i t : Int), i + m = 4 → 0 ≤ i → -500 ≤ t - m → t ≤ 500 → un (t - m) l ≤ fv u * 10 ^ l →
  ∃ t1 : Int, t - m ≤ t1 ∧ t1 ≤ t ∧ un t1 l ≤ fv u * 10 ^ l ∧ (t1 = t ∨ fv u * 10 ^ l < un (t1 + 1) l) ∧ ∀ {z : Int × Int}, Ev (fun k => r2_Shortest.j2 k x0 (rl p) (rl q) t1) z → Ev (fun k => r2_Shortest.l0 k x0 (rl p) (rl q) t i) z := by
 intro m
 induction m with
 | zero =>
  intro i t hi hi0 ht0 ht1 hF
  refine ⟨t, by omega, Int.le_refl _, by rw [show t - ((0 : Nat) : Int) = t by omega] at hF; exact hF, .inl rfl, fun hz => Ev.step (fun k => ?_) hz⟩
  rw [r2_Shortest.l0, if_neg (by omega)]
 | succ m ih =>
  intro i t hi hi0 ht0 ht1 hF
  have hs := rscaled_ok h t (by omega) (by omega) l hl
  have hst : ∀ k, r2_Shortest.l0 (k + 1) x0 (rl p) (rl q) t i = (r2_scaled.f k (rl p) (rl q) t).bind fun t796 => (if t796 < 0 then (r2_Shortest.l0 k x0 (rl p) (rl q) (t - 1) (i + 1)) else (r2_Shortest.j2 k x0 (rl p) (rl q) t)) := by
   intro k
   rw [r2_Shortest.l0, if_pos (by omega), w64 (x := t - 1) (by omega) (by omega), w64 (x := i + 1) (by omega) (by omega)]
  by_cases hc : fv u * 10 ^ l < un t l
  ·obtain ⟨t1, a1, a2, a3, a4, a5⟩ := ih (i + 1) (t - 1) (by omega) (by omega) (by omega) (by omega) (by rw [show t - 1 - (m : Int) = t - ((m + 1 : Nat) : Int) by omega]; exact hF)
   refine ⟨t1, by omega, by omega, a3, .inr ?_, fun hz => Ev.step hst (Ev.bind hs ?_)⟩
   ·rcases a4 with e | e
    ·rw [e, show t - 1 + 1 = t by omega]; exact hc
    ·exact e
   ·exact Ev.congr (fun k => by rw [if_pos ((cmp_neg _ _).1.2 hc)]) (a5 hz)
  ·refine ⟨t, by omega, Int.le_refl _, Nat.not_lt.1 hc, .inl rfl, fun hz => Ev.step hst (Ev.bind hs ?_)⟩
   exact Ev.congr (fun k => by rw [if_neg (fun hh => hc ((cmp_neg _ _).1.1 hh))]) hz
theorem up_loop' {u p q : Nat} (h : Frac u p q) (l : Nat) (hl : 1000 ≤ l) (x0 : Int) : ∀ (m : Nat) (i t : Int), i + m = 4 → 0 ≤ i → -600 ≤ t → t + m ≤ 600 → un t l ≤ fv u * 10 ^ l → fv u * 10 ^ l < un (t + m + 1) l →
  ∃ t1 : Int, un t1 l ≤ fv u * 10 ^ l ∧ fv u * 10 ^ l < un (t1 + 1) l ∧ -600 ≤ t1 ∧ t1 ≤ 600 ∧ ∀ {z : Int × Int}, Ev (fun k => r2_Shortest.j4 k x0 (rl p) (rl q) t1) z → Ev (fun k => r2_Shortest.l1 k x0 (rl p) (rl q) t i) z := by
 intro m
 induction m with
 | zero =>
  intro i t hi hi0 ht0 ht1 hF hG
  refine ⟨t, hF, by rw [show t + ((0 : Nat) : Int) + 1 = t + 1 by omega] at hG; exact hG, by omega, by omega, fun hz => Ev.step (fun k => ?_) hz⟩
  rw [r2_Shortest.l1, if_neg (by omega)]
 | succ m ih =>
  intro i t hi hi0 ht0 ht1 hF hG
  have hs := rscaled_ok h (t + 1) (by omega) (by omega) l hl
  have hst : ∀ k, r2_Shortest.l1 (k + 1) x0 (rl p) (rl q) t i = (r2_scaled.f k (rl p) (rl q) (t + 1)).bind fun t797 => (if t797 ≥ 0 then (r2_Shortest.l1 k x0 (rl p) (rl q) (t + 1) (i + 1)) else (r2_Shortest.j4 k x0 (rl p) (rl q) t)) := by
   intro k
   rw [r2_Shortest.l1, if_pos (by omega), w64 (x := t + 1) (by omega) (by omega), w64 (x := i + 1) (by omega) (by omega)]
  by_cases hc : un (t + 1) l ≤ fv u * 10 ^ l
  ·obtain ⟨t1, a1, a2, a3, a4, a5⟩ := ih (i + 1) (t + 1) (by omega) (by omega) (by omega) (by omega) hc (by rw [show t + 1 + (m : Int) + 1 = t + ((m + 1 : Nat) : Int) + 1 by omega]; exact hG)
   refine ⟨t1, a1, a2, a3, a4, fun hz => Ev.step hst (Ev.bind hs ?_)⟩
   exact Ev.congr (fun k => by rw [if_pos ((cmp_neg _ _).2.2 hc)]) (a5 hz)
  ·refine ⟨t, hF, Nat.not_le.1 hc, by omega, by omega, fun hz => Ev.step hst (Ev.bind hs ?_)⟩
   exact Ev.congr (fun k => by rw [if_neg (fun hh => hc ((cmp_neg _ _).2.1 hh))]) hz
theorem place_step {u p q : Nat} (hu : u < INF) (h : Frac u p q) (l : Nat) (hl : 1000 ≤ l) (P n y : Int) (hy : y = P - n + 1) (hn0 : 1 ≤ n) (hn1 : n ≤ 17) (hP0 : -600 ≤ P) (hP1 : P ≤ 600) (hF : fv u * 10 ^ l < un (P + 1) l) :
  (∀ d, pick u l y = some d → ∃ (D j : Nat), D % 10 ≠ 0 ∧ d = D * 10 ^ j ∧ Ev (fun k => r2_Shortest.l2 k (u : Int) (rl p) (rl q) P n) ((D : Int), y + j)) ∧
  (pick u l y = none → ∀ {z : Int × Int}, Ev (fun k => r2_Shortest.l2 k (u : Int) (rl p) (rl q) P (n + 1)) z → Ev (fun k => r2_Shortest.l2 k (u : Int) (rl p) (rl q) P n) z) := by
 have hw : wrap64 (wrap64 (P - n) + 1) = y := by rw [w64 (x := P - n) (by omega) (by omega), w64 (by omega) (by omega)]; omega
 obtain ⟨s1, s2, s3⟩ := frac_sizes h y (by omega) (by omega)
 have hT := un_pos y l
 have hcr := frac_cross h y l (by omega)
 obtain ⟨c1, c2⟩ := cross_div s3 hT hcr
 obtain ⟨c3, c4, c5⟩ := cross_half s3 hT c2
 have hup : fv u * 10 ^ l / un y l < 10 ^ 17 := by
  rw [Nat.div_lt_iff_lt_mul hT]
  have e := un_add y l (by omega) 17
  have h1 := un_mono l (show P + 1 ≤ y + ((17 : Nat) : Int) by omega)
  rw [e] at h1
  omega
 have hpk := ref_pick u l y
 obtain ⟨F, hFe⟩ : ∃ F, fv u * 10 ^ l = F := ⟨_, rfl⟩
 obtain ⟨T, hTe⟩ : ∃ T, un y l = T := ⟨_, rfl⟩
 rw [hFe, hTe] at hpk c1 c3 c4 c5 hup
 obtain ⟨A, hA⟩ : ∃ A, p * 10 ^ (-y).toNat = A := ⟨_, rfl⟩
 obtain ⟨B, hB⟩ : ∃ B, q * 10 ^ y.toNat = B := ⟨_, rfl⟩
 rw [hA] at c1 c3 c4 c5 s1
 rw [hB] at c1 c3 c4 c5 s2 s3
 obtain ⟨low, hlow⟩ : ∃ low, F / T = low := ⟨_, rfl⟩
 rw [hlow] at hpk c1 hup
 have h3 := h.bp
 have h4 := h.bq
 have hj : ∀ {z : Int × Int}, (Ev (fun k => r2_Shortest.j7 k (u : Int) (rl p) (rl q) P n y (low : Int) ((low + 1 : Nat) : Int) (decide (Ok u y (low + 1))) (decide (Ok u y low ∧ (¬ Ok u y (low + 1) ∨ 2 * (F % T) < T ∨ (2 * (F % T) = T ∧ low % 2 = 0))))) z) → Ev (fun k => r2_Shortest.j6 k (u : Int) (rl p) (rl q) P n y (rl A) (rl B)) z := by
  intro z hz
  have hv := value_ok low (by omega)
  have hm : A % B < B := Nat.mod_lt _ s3
  have hbm := bl_mono (Nat.le_of_lt hm)
  have t2 := rtimes_ok (A % B) 2 0 (rl_bl _ (by omega)) (by omega) (by omega)
  rw [Nat.add_zero] at t2
  have hb2 := bl_mul_le (A % B) 1
  rw [Nat.pow_one] at hb2
  have t3 := rcmp_ok (A % B * 2) B (by have := rl_bl (A % B * 2) (by omega); omega) (by have := rl_bl B (by omega); omega)
  have hov := rover_ok A B (by omega) (by omega) (by omega)
  rw [c1] at hov
  have hwl : IntKind.u64.wrap ((low : Int) + 1) = ((low + 1 : Nat) : Int) := by rw [wu64 (by omega) (by omega)]; omega
  have r1 := reads_ok u hu low (by omega) y (by omega) (by omega)
  have r2 := reads_ok u hu (low + 1) (by omega) y (by omega) (by omega)
  refine Ev.step (f := fun k => (r2_Over.f k (rl A) (rl B)).bind fun bt810 => ((r2_value.f k bt810.1).bind fun t816 => ((r2_reads.f k t816 y (u : Int)).bind fun t817 => ((r2_reads.f k (IntKind.u64.wrap (t816 + 1)) y (u : Int)).bind fun t818 => ((r2_Times.f k bt810.2 ((2 : Nat) : Int) ((0 : Nat) : Int)).bind fun t819 => ((r2_Cmp.f k t819 (rl B)).bind fun t822 => (if t817 = true then (if t818 = true then (if t822 < 0 then (r2_Shortest.j7 k (u : Int) (rl p) (rl q) P n y t816 (IntKind.u64.wrap (t816 + 1)) t818 true) else (if t822 = 0 then (r2_Shortest.j7 k (u : Int) (rl p) (rl q) P n y t816 (IntKind.u64.wrap (t816 + 1)) t818 ((Int.tmod t816 2) == 0)) else (r2_Shortest.j7 k (u : Int) (rl p) (rl q) P n y t816 (IntKind.u64.wrap (t816 + 1)) t818 false))) else (r2_Shortest.j7 k (u : Int) (rl p) (rl q) P n y t816 (IntKind.u64.wrap (t816 + 1)) t818 true)) else (r2_Shortest.j7 k (u : Int) (rl p) (rl q) P n y t816 (IntKind.u64.wrap (t816 + 1)) t818 false)))))))) (fun k => by rw [r2_Shortest.j6]; rfl) ?_
  refine Ev.bind hov (Ev.bind hv (Ev.bind r1 ?_))
  refine Ev.congr (fun k => by rw [hwl]) (Ev.bind r2 (Ev.bind t2 (Ev.bind t3 ?_)))
  have cm1 : cmpS (A % B * 2) B < 0 ↔ 2 * (F % T) < T := by rw [(cmp_neg _ _).1, Nat.mul_comm]; exact c3
  have cm2 : cmpS (A % B * 2) B = 0 ↔ 2 * (F % T) = T := by rw [(cmp_zero _ _).2, Nat.mul_comm]; exact c4
  have hev : ((Int.tmod (low : Int) 2) == 0) = decide (low % 2 = 0) := by
   rw [Bool.eq_iff_iff, beq_iff_eq, decide_eq_true_iff, Int.tmod_eq_emod_of_nonneg (by omega)]; omega
  by_cases o1 : Ok u y low
  ·by_cases o2 : Ok u y (low + 1)
   ·by_cases g1 : 2 * (F % T) < T
    ·rw [decide_eq_true (show Ok u y low ∧ _ from ⟨o1, .inr (.inl g1)⟩)] at hz
     exact Ev.congr (fun k => by rw [if_pos (decide_eq_true o1), if_pos (decide_eq_true o2), if_pos (cm1.2 g1)]) hz
    ·by_cases g2 : 2 * (F % T) = T
     ·by_cases g3 : low % 2 = 0
      ·rw [decide_eq_true (show Ok u y low ∧ _ from ⟨o1, .inr (.inr ⟨g2, g3⟩)⟩)] at hz
       exact Ev.congr (fun k => by rw [if_pos (decide_eq_true o1), if_pos (decide_eq_true o2), if_neg (fun hh => g1 (cm1.1 hh)), if_pos (cm2.2 g2), hev, decide_eq_true g3]) hz
      ·rw [decide_eq_false (show ¬ (Ok u y low ∧ _) from fun hh => hh.2.elim (fun a => a o2) (fun a => a.elim g1 (fun b => g3 b.2)))] at hz
       exact Ev.congr (fun k => by rw [if_pos (decide_eq_true o1), if_pos (decide_eq_true o2), if_neg (fun hh => g1 (cm1.1 hh)), if_pos (cm2.2 g2), hev, decide_eq_false g3]) hz
     ·rw [decide_eq_false (show ¬ (Ok u y low ∧ _) from fun hh => hh.2.elim (fun a => a o2) (fun a => a.elim g1 (fun b => g2 b.1)))] at hz
      exact Ev.congr (fun k => by rw [if_pos (decide_eq_true o1), if_pos (decide_eq_true o2), if_neg (fun hh => g1 (cm1.1 hh)), if_neg (fun hh => g2 (cm2.1 hh))]) hz
   ·rw [decide_eq_true (show Ok u y low ∧ _ from ⟨o1, .inl o2⟩)] at hz
    exact Ev.congr (fun k => by rw [if_pos (decide_eq_true o1), if_neg (by rw [decide_eq_false o2]; simp)]) hz
  ·rw [decide_eq_false (show ¬ (Ok u y low ∧ _) from fun hh => o1 hh.1)] at hz
   exact Ev.congr (fun k => by rw [if_neg (by rw [decide_eq_false o1]; simp)]) hz
 have start : ∀ {z : Int × Int}, Ev (fun k => r2_Shortest.j6 k (u : Int) (rl p) (rl q) P n y (rl A) (rl B)) z → Ev (fun k => r2_Shortest.l2 k (u : Int) (rl p) (rl q) P n) z := by
  intro z hz
  by_cases hy0 : y ≥ 0
  ·have ep : A = p := by rw [← hA, show (-y).toNat = 0 by omega, Nat.pow_zero, Nat.mul_one]
   rw [ep] at hz
   have hb := bl_pow10 y.toNat
   have hpr := prod_ok q (10 ^ y.toNat) (rl_bl _ (by omega)) (rl_bl _ (by omega))
   rw [hB] at hpr
   refine Ev.step (f := fun k => (r2_Ten.f k y).bind fun t798 => ((r2_Product.f k (rl q) t798).bind fun t801 => (r2_Shortest.j6 k (u : Int) (rl p) (rl q) P n y (rl p) t801))) (fun k => ?_) (Ev.bind (rten_ok y (by omega)) (Ev.bind hpr hz))
   rw [r2_Shortest.l2, if_pos hn1, hw, if_pos hy0]
  ·have eq : B = q := by rw [← hB, show y.toNat = 0 by omega, Nat.pow_zero, Nat.mul_one]
   rw [eq] at hz
   have hb := bl_pow10 (-y).toNat
   have hpr := prod_ok p (10 ^ (-y).toNat) (rl_bl _ (by omega)) (rl_bl _ (by omega))
   rw [hA] at hpr
   refine Ev.step (f := fun k => (r2_Ten.f k (-y)).bind fun t804 => ((r2_Product.f k (rl p) t804).bind fun t807 => (r2_Shortest.j6 k (u : Int) (rl p) (rl q) P n y t807 (rl q)))) (fun k => ?_) (Ev.bind (rten_ok (-y) (by omega)) (Ev.bind hpr hz))
   rw [r2_Shortest.l2, if_pos hn1, hw, if_neg hy0, w64 (x := -y) (by omega) (by omega)]
 rw [← hpk]
 by_cases g : Ok u y low ∧ (¬ Ok u y (low + 1) ∨ 2 * (F % T) < T ∨ (2 * (F % T) = T ∧ low % 2 = 0))
 ·rw [if_pos g]
  refine ⟨fun d hd => ?_, fun hd => absurd hd (by simp)⟩
  obtain rfl := Option.some.inj hd
  obtain ⟨D, j, b1, b2, b3⟩ := bare_ok (low + 1) low y (by omega) g.1.1 (by omega) (by omega) (by omega)
  refine ⟨D, j, b1, b2, start (hj ?_)⟩
  rw [decide_eq_true g]
  exact Ev.step (f := fun k => (r2_bare.f k (low : Int) y).bind fun bt823 => (some (bt823.1, bt823.2))) (fun k => by rw [r2_Shortest.j7, if_pos rfl]) (Ev.bind b3 (Ev.now _))
 ·rw [if_neg g]
  by_cases g2 : Ok u y (low + 1)
  ·rw [if_pos g2]
   refine ⟨fun d hd => ?_, fun hd => absurd hd (by simp)⟩
   obtain rfl := Option.some.inj hd
   obtain ⟨D, j, b1, b2, b3⟩ := bare_ok (low + 2) (low + 1) y (by omega) (by omega) (by omega) (by omega) (by omega)
   refine ⟨D, j, b1, b2, start (hj ?_)⟩
   rw [decide_eq_false g]
   exact Ev.step (f := fun k => (r2_bare.f k ((low + 1 : Nat) : Int) y).bind fun bt825 => (some (bt825.1, bt825.2))) (fun k => by rw [r2_Shortest.j7, if_neg (by simp), if_pos (decide_eq_true g2)]) (Ev.bind b3 (Ev.now _))
  ·rw [if_neg g2]
   refine ⟨fun d hd => absurd hd (by simp), fun _ z hz => start (hj ?_)⟩
   rw [decide_eq_false g]
   refine Ev.step (fun k => ?_) hz
   rw [r2_Shortest.j7, if_neg (by simp), if_neg (by rw [decide_eq_false g2]; simp), w64 (x := n + 1) (by omega) (by omega)]
theorem place_loop {u p q : Nat} (hu : u < INF) (h : Frac u p q) (l : Nat) (hl : 1000 ≤ l) (P : Int) (hP0 : -600 ≤ P) (hP1 : P ≤ 600) (hF : fv u * 10 ^ l < un (P + 1) l) (Y : Int) (d : Nat) (hY : pick u l Y = some d) (hnone : ∀ z, Y < z → z ≤ P → pick u l z = none) (hY17 : P - 16 ≤ Y) : ∀ (m : Nat) (y n : Int), y = P - n + 1 → y = Y + m → 1 ≤ n →
  ∃ (D j : Nat), D % 10 ≠ 0 ∧ d = D * 10 ^ j ∧ Ev (fun k => r2_Shortest.l2 k (u : Int) (rl p) (rl q) P n) ((D : Int), Y + j) := by
 intro m
 induction m with
 | zero =>
  intro y n hy hm hn
  have e : y = Y := by omega
  subst e
  exact (place_step hu h l hl P n y hy hn (by omega) hP0 hP1 hF).1 d hY
 | succ m ih =>
  intro y n hy hm hn
  obtain ⟨D, j, b1, b2, b3⟩ := ih (y - 1) (n + 1) (by omega) (by omega) (by omega)
  exact ⟨D, j, b1, b2, (place_step hu h l hl P n y hy hn (by omega) hP0 hP1 hF).2 (hnone y (by omega) (by omega)) b3⟩
theorem parts_frac (u : Nat) (h0 : 0 < u) (hu : u < INF) : ∃ p q : Nat, Frac u p q ∧ -1100 ≤ ((bl p : Nat) : Int) - (bl q : Nat) ∧ ((bl p : Nat) : Int) - (bl q : Nat) < 1100 ∧ ∀ {z : Int × Int}, Ev (fun k => r2_Shortest.j0 k (u : Int) (rl p) (rl q)) z → Ev (fun k => r2_Shortest.f k (u : Int)) z := by
 have hr63 : u < P63 := by unfold INF P63 at *; omega
 obtain ⟨e, he⟩ : ∃ e, u / P52 = e := ⟨_, rfl⟩
 have hq : e < 2047 := by unfold P52 at he; unfold INF at hu; omega
 have ee : wrap64 (Go.bits .and .u64 ((u : Int) / 4503599627370496) 2047) = (e : Int) := by rw [exp_and_u u hr63, he, w64 (by omega) (by omega)]
 have em : Go.bits .and .u64 (u : Int) 4503599627370495 = ((u % P52 : Nat) : Int) := and_mant u (by unfold P63 at hr63; omega)
 have key : ∃ m e : Nat, r2_Parts.f (u : Int) = some ((m : Int), (e : Int) - 1074) ∧ fv u = m * 2 ^ e ∧ m < 2 * P52 ∧ m ≠ 0 ∧ e ≤ 2046 := by
  by_cases hz : e = 0
  ·have hlt : u < P52 := by unfold P52 at he ⊢; omega
   refine ⟨u, 0, ?_, by rw [fv_sub hlt, Nat.pow_zero, Nat.mul_one], by omega, by omega, by omega⟩
   unfold r2_Parts.f
   rw [ee, if_pos (by omega), em, Nat.mod_eq_of_lt hlt]; rfl
  ·have hge : P52 ≤ u := by unfold P52 at he ⊢; omega
   obtain ⟨m, hm⟩ : ∃ m, u % P52 = m := ⟨_, rfl⟩
   have hml : m < P52 := by rw [← hm]; exact Nat.mod_lt u (by decide)
   rw [hm] at em
   have eo : Go.bits .or .u64 (m : Int) 4503599627370496 = ((P52 + m : Nat) : Int) := by
    have := or_exp m 1 hml (by omega)
    rw [Nat.one_mul] at this
    exact this
   refine ⟨P52 + m, e - 1, ?_, by rw [fv_norm hge, he, hm], by omega, by unfold P52; omega, by omega⟩
   unfold r2_Parts.f
   rw [ee, if_neg (by omega), em, eo, w64 (by omega) (by omega)]
   congr 2; omega
 obtain ⟨m, e, k1, k2, k3, k4, k5⟩ := key
 have hbm : bl m ≤ 53 := (bl_le_iff m).2 k3
 have hbp := bl_pos k4
 have t1 := of_ok m (by unfold P52 at k3; omega)
 have t2 := of_ok 1 (by omega)
 have hb1 : bl 1 = 1 := by decide
 by_cases he : 1074 ≤ e
 ·have hbl := bl_mul_pow k4 (e - 1074)
  refine ⟨m * 2 ^ (e - 1074), 1, ⟨?_, by omega, Nat.mul_ne_zero k4 (Nat.ne_of_gt (Nat.two_pow_pos _)), by omega, by omega⟩, by omega, by omega, fun {z} hz => ?_⟩
  ·rw [Nat.mul_assoc, ← Nat.pow_add, show e - 1074 + 1074 = e by omega, k2, Nat.mul_one]
  ·have hl := rleft_ok m (e - 1074) (by omega) (by omega)
   rw [show ((e - 1074 : Nat) : Int) = (e : Int) - 1074 by omega] at hl
   unfold r2_Shortest.f
   rw [k1]
   simp only [Option.bind_some]
   refine Ev.bind t1 (Ev.bind t2 ?_)
   have hge : (e : Int) - 1074 ≥ 0 := by omega
   exact Ev.congr (f := fun k => (r2_Left.f k (rl m) ((e : Int) - 1074)).bind fun t788 => r2_Shortest.j0 k (u : Int) t788 (rl 1)) (fun k => by rw [if_pos hge]) (Ev.bind hl hz)
 ·have hbl := bl_mul_pow (show (1 : Nat) ≠ 0 by omega) (1074 - e)
  refine ⟨m, 1 * 2 ^ (1074 - e), ⟨?_, Nat.mul_ne_zero (by omega) (Nat.ne_of_gt (Nat.two_pow_pos _)), k4, by omega, by omega⟩, by omega, by omega, fun {z} hz => ?_⟩
  ·rw [k2, Nat.one_mul, Nat.mul_assoc, ← Nat.pow_add, show e + (1074 - e) = 1074 by omega]
  ·have hl := rleft_ok 1 (1074 - e) (by omega) (by omega)
   rw [show ((1074 - e : Nat) : Int) = -((e : Int) - 1074) by omega] at hl
   unfold r2_Shortest.f
   rw [k1]
   simp only [Option.bind_some]
   refine Ev.bind t1 (Ev.bind t2 ?_)
   have hlt : ¬ (e : Int) - 1074 ≥ 0 := by omega
   have hw : wrap64 (-((e : Int) - 1074)) = -((e : Int) - 1074) := w64 (by omega) (by omega)
   exact Ev.congr (f := fun k => (r2_Left.f k (rl 1) (-((e : Int) - 1074))).bind fun t791 => r2_Shortest.j0 k (u : Int) (rl m) t791) (fun k => by rw [if_neg hlt, hw]) (Ev.bind hl hz)
end Go.Proofs.YtfmjdoofopamkaaGreatDoor.Plain
