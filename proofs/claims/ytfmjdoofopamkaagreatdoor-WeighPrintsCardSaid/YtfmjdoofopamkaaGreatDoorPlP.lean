import Derived.Test.YtfmjdoofopamkaaGreatDoorPlL
import Derived.Test.YtfmjdoofopamkaaGreatDoorWx19
import Derived.Test.YtfmjdoofopamkaaGreatDoorWx18
import Derived.Test.YtfmjdoofopamkaaGreatDoorWx17
namespace Go.Proofs.YtfmjdoofopamkaaGreatDoor.Plain
open Go.RowKit Go.Proofs.YtfmjdoofopamkaaGreatDoorW.PrintWords Go.Proofs.YtfmjdoofopamkaaGreatDoorW.PrintLast Go.Proofs.YtfmjdoofopamkaaGreatDoorW.PrintMore Go.Proofs.YtfmjdoofopamkaaGreatDoor.W
set_option linter.unusedVariables false
set_option linter.unusedSimpArgs false
set_option exponentiation.threshold 3000
theorem cross_div {n d F T : Nat} (hd : 0 < d) (hT : 0 < T) (h : n * T = F * d) : n / d = F / T ∧ (n % d) * T = (F % T) * d := by
 constructor
 ·have h1 := Nat.mul_div_mul_right n d hT
  have h2 := Nat.mul_div_mul_right F T hd
  rw [h, Nat.mul_comm d T, h2] at h1
  exact h1.symm
 ·have h1 := Nat.mul_mod_mul_right T n d
  have h2 := Nat.mul_mod_mul_right d F T
  rw [h, Nat.mul_comm d T, h2] at h1
  exact h1.symm
theorem cross_half {n d F T : Nat} (hd : 0 < d) (hT : 0 < T) (h : (n % d) * T = (F % T) * d) : (2 * (n % d) < d ↔ 2 * (F % T) < T) ∧ (2 * (n % d) = d ↔ 2 * (F % T) = T) ∧ (d < 2 * (n % d) ↔ T < 2 * (F % T)) := by
 obtain ⟨a, ha⟩ : ∃ a, n % d = a := ⟨_, rfl⟩
 obtain ⟨b, hb⟩ : ∃ b, F % T = b := ⟨_, rfl⟩
 rw [ha, hb] at h ⊢
 have e : 2 * a * T = 2 * b * d := by rw [Nat.mul_assoc, h, Nat.mul_assoc]
 have h1 : 2 * a < d ↔ 2 * b < T := by
  rw [← Nat.mul_lt_mul_right hT, e, Nat.mul_comm d T]; exact Nat.mul_lt_mul_right hd
 have h3 : d < 2 * a ↔ T < 2 * b := by
  rw [← Nat.mul_lt_mul_right hT, e, Nat.mul_comm d T]; exact Nat.mul_lt_mul_right hd
 refine ⟨h1, ?_, h3⟩
 omega
theorem fraction_ok (r : Nat) (h0 : 0 < r) (h : r < INF) (y : Int) (hy0 : -1000 ≤ y) (hy1 : y ≤ 1000) : ∃ n d : Nat, Ev (fun k => w2_fraction.f k r y) (wl n, wl d) ∧ 0 < d ∧ bl n ≤ 100000 ∧ bl d ≤ 100000 ∧ ∀ l : Nat, -(l : Int) ≤ y → n * un y l = fv r * 10 ^ l * d := by
 have hr63 : r < P63 := by unfold INF P63 at *; omega
 have hm : r % P63 = r := Nat.mod_eq_of_lt hr63
 obtain ⟨M, e, m1, m2, m3, m4, m5⟩ := parts_ok r (by unfold P63 at hr63; omega) (by rw [hm]; exact h0) (by rw [hm]; exact h)
 rw [hm] at m5
 have hblM : bl M ≤ 54 := Nat.le_trans (bl_le (k := 53) (by rw [show (2 : Nat) ^ 53 = 2 * P52 by decide]; exact m2)) (by omega)
 obtain ⟨A, hA⟩ : ∃ A, M * 10 ^ (-y).toNat = A := ⟨_, rfl⟩
 obtain ⟨B, hB⟩ : ∃ B, 1 * 10 ^ y.toNat = B := ⟨_, rfl⟩
 have hbA : bl A ≤ 10000 := by rw [← hA]; have := bl_mul10 M (-y).toNat; omega
 have hbB : bl B ≤ 10000 := by rw [← hB, Nat.one_mul]; have := bl_pow10 y.toNat; omega
 have t1 := ten_ok M (-y) (by omega) (by unfold Small; rw [hA]; omega)
 have t2 := ten_ok 1 y (by omega) (by unfold Small; rw [hB]; omega)
 rw [hA] at t1
 rw [hB] at t2
 have u1 := up_ok A ((e : Int) - 1126) (small_of (by omega)) (by omega)
 have u2 := up_ok B (1126 - (e : Int)) (small_of (by omega)) (by omega)
 refine ⟨A * 2 ^ ((e : Int) - 1126).toNat, B * 2 ^ (1126 - (e : Int)).toNat, ?_, ?_, ?_, ?_, ?_⟩
 ·unfold w2_fraction.f
  refine Ev.bind m4 ?_
  simp only
  refine Ev.bind (natOf_ok M (by unfold P52 at m2; omega)) ?_
  rw [w64 (x := -y) (by omega) (by omega), w64 (x := -((e : Int) - 1126)) (by omega) (by omega), show -((e : Int) - 1126) = 1126 - (e : Int) by omega]
  exact Ev.bind t1 (Ev.bind u1 (Ev.bind (natOf_ok 1 (by omega)) (Ev.bind t2 (Ev.bind u2 (Ev.now _)))))
 ·refine Nat.mul_pos ?_ (Nat.two_pow_pos _)
  rw [← hB, Nat.one_mul]; exact Nat.pow_pos (by omega)
 ·have := bl_mul_le A ((e : Int) - 1126).toNat; omega
 ·have := bl_mul_le B (1126 - (e : Int)).toNat; omega
 ·intro l hl
  have hp : 10 ^ (-y).toNat * 10 ^ (y + l).toNat = 10 ^ l * 10 ^ y.toNat := by rw [← Nat.pow_add, ← Nat.pow_add]; congr 1; omega
  have hq : M * 2 ^ ((e : Int) - 1126).toNat * 2 ^ 1074 = fv r * 2 ^ (1126 - (e : Int)).toNat := by
   refine Nat.eq_of_mul_eq_mul_right (Nat.two_pow_pos 52) ?_
   rw [Nat.mul_right_comm (fv r), ← m5, Nat.mul_assoc, Nat.mul_assoc, Nat.mul_assoc, ← Nat.pow_add, ← Nat.pow_add, ← Nat.pow_add]
   congr 2; omega
  rw [← hA, ← hB, Nat.one_mul]
  unfold un
  generalize (2 : Nat) ^ 1074 = W at hq ⊢
  generalize (2 : Nat) ^ ((e : Int) - 1126).toNat = U at hq ⊢
  generalize (2 : Nat) ^ (1126 - (e : Int)).toNat = V at hq ⊢
  generalize (10 : Nat) ^ (-y).toNat = a at hp ⊢
  generalize (10 : Nat) ^ (y + l).toNat = b at hp ⊢
  generalize (10 : Nat) ^ y.toNat = c at hp ⊢
  generalize (10 : Nat) ^ l = g at hp ⊢
  have e1 : M * a * U * (b * W) = M * U * W * (a * b) := by simp only [Nat.mul_assoc, Nat.mul_comm, Nat.mul_left_comm]
  have e2 : fv r * g * (c * V) = fv r * V * (g * c) := by simp only [Nat.mul_assoc, Nat.mul_comm, Nat.mul_left_comm]
  rw [e1, e2, hp, hq]
theorem quotient_ok (r l : Nat) (h0 : 0 < r) (h : r < INF) (y : Int) (hy0 : -1000 ≤ y) (hy1 : y ≤ 1000) (hl : -(l : Int) ≤ y) (hq : fv r * 10 ^ l < un y l * 2 ^ 61) : ∃ z : Int, Ev (fun k => w2_quotient.f k r y) (((fv r * 10 ^ l / un y l : Nat) : Int), z) ∧
  (z < 0 ↔ 2 * (fv r * 10 ^ l % un y l) < un y l) ∧ (z = 0 ↔ 2 * (fv r * 10 ^ l % un y l) = un y l) ∧ (z > 0 ↔ un y l < 2 * (fv r * 10 ^ l % un y l)) := by
 obtain ⟨n, d, f1, f2, f3, f4, f5⟩ := fraction_ok r h0 h y hy0 hy1
 have hc := f5 l hl
 have hT := un_pos y l
 obtain ⟨F, hF⟩ : ∃ F, fv r * 10 ^ l = F := ⟨_, rfl⟩
 obtain ⟨T, hTe⟩ : ∃ T, un y l = T := ⟨_, rfl⟩
 rw [hF] at hc hq ⊢
 rw [hTe] at hc hq hT ⊢
 obtain ⟨c1, c2⟩ := cross_div f2 hT hc
 obtain ⟨c3, c4, c5⟩ := cross_half f2 hT c2
 have hnd : n < d * 2 ^ 61 := by
  have h1 : F * d < T * 2 ^ 61 * d := Nat.mul_lt_mul_of_pos_right hq f2
  rw [← hc] at h1
  have h2 : T * 2 ^ 61 * d = d * 2 ^ 61 * T := by rw [Nat.mul_right_comm, Nat.mul_comm T d, Nat.mul_right_comm]
  rw [h2] at h1
  exact Nat.lt_of_mul_lt_mul_right h1
 have hbl : bl n ≤ bl d + 62 := by
  have := bl_mono (Nat.le_of_lt hnd)
  rw [bl_mul_pow (by omega)] at this
  omega
 have hmod := Nat.mod_lt n f2
 have hbm := bl_mono (Nat.le_of_lt hmod)
 have hb2 := bl_mul_le (n % d) 1
 rw [Nat.pow_one, Nat.mul_comm] at hb2
 obtain ⟨z, z1, z2, z3, z4⟩ := half_ok (n % d) d (small_of (by omega)) (small_of (by omega)) (small_of (by omega))
 refine ⟨z, ?_, by rw [z2, c3], by rw [z3, c4], by rw [z4, c5]⟩
 unfold w2_quotient.f
 rw [← c1]
 exact Ev.bind f1 (Ev.bind (over_ok n d (by omega) (small_of (by omega)) (small_of (by omega)) hbl) (Ev.bind z1 (Ev.now _)))
def dx (n : Nat) : List Int := (Lib.decDigits n).map fun b => (b.toNat : Int)
theorem dx_small {n : Nat} (h : n < 10) : dx n = [((48 + n : Nat) : Int)] := by
 unfold dx
 rw [Lib.decDigits, dif_pos h]
 simp only [List.map_cons, List.map_nil, UInt8.toNat_ofNat']
 rw [Nat.mod_eq_of_lt (by omega)]
theorem dx_big {n : Nat} (h : ¬ n < 10) : dx n = dx (n / 10) ++ [((48 + n % 10 : Nat) : Int)] := by
 unfold dx
 rw [Lib.decDigits, dif_neg h, List.map_append]
 simp only [List.map_cons, List.map_nil, UInt8.toNat_ofNat']
 rw [Nat.mod_eq_of_lt (show 48 + n % 10 < 2 ^ 8 by omega)]
theorem dg_dig (n : Nat) (h : n < 10) : dg ((48 + n : Nat) : Int) = true := by
 unfold dg; rw [Bool.and_eq_true, decide_eq_true_eq, decide_eq_true_eq]; omega
theorem dx_facts : ∀ (m n : Nat), n < 10 ^ (m + 1) → (dx n).all dg = true ∧ dv (dx n) = n ∧ (dx n).length ≤ m + 1 ∧ dx n ≠ []
 | 0, n, h => by
  rw [dx_small (by omega)]
  refine ⟨by rw [List.all_cons, dg_dig n (by omega)]; rfl, ?_, by simp, by simp⟩
  show 10 * 0 + (((48 + n : Nat) : Int) - 48).toNat = n
  omega
 | m + 1, n, h => by
  by_cases hs : n < 10
  ·rw [dx_small hs]
   refine ⟨by rw [List.all_cons, dg_dig n hs]; rfl, ?_, by simp, by simp⟩
   show 10 * 0 + (((48 + n : Nat) : Int) - 48).toNat = n
   omega
  ·obtain ⟨i1, i2, i3, i4⟩ := dx_facts m (n / 10) (by rw [Nat.pow_succ] at h; omega)
   rw [dx_big hs]
   refine ⟨by rw [List.all_append, i1, List.all_cons, dg_dig _ (Nat.mod_lt n (by omega))]; rfl, ?_, by rw [List.length_append, List.length_singleton]; omega, by simp⟩
   unfold dv at i2 ⊢
   rw [dvF_append, i2]
   show 10 * (n / 10) + (((48 + n % 10 : Nat) : Int) - 48).toNat = n
   omega
theorem dx_head (n : Nat) (h : n < 10 ^ 20) : (dx n).head? ≠ some 45 := by
 obtain ⟨i1, _, _, i4⟩ := dx_facts 19 n h
 cases hd : dx n with
 | nil => exact absurd hd i4
 | cons c t =>
  rw [hd, List.all_cons, Bool.and_eq_true] at i1
  have := dg_range i1.1
  simp; omega
def ix (n : Int) : List Int := if n < 0 then 45 :: dx n.natAbs else dx n.toNat
theorem ix_itoa (n : Int) : bytesOf (⟨(Lib.itoa n).toArray⟩ : ByteArray) = ix n := by
 show (Lib.itoa n).toArray.toList.map _ = _
 unfold Lib.itoa ix dx
 split <;> simp
def wtext (D : Nat) (X : Int) : ByteArray := if X = 0 then ⟨(Lib.itoa (D : Int)).toArray⟩ else (⟨(Lib.itoa (D : Int)).toArray⟩ ++ (⟨#[101]⟩ : ByteArray)) ++ ⟨(Lib.itoa X).toArray⟩
theorem wtext_bytes (D : Nat) (X : Int) : bytesOf (wtext D X) = dx D ++ (if X = 0 then [] else 101 :: ix X) := by
 have hD : ix (D : Int) = dx D := by unfold ix; rw [if_neg (by omega), Int.toNat_natCast]
 unfold wtext
 split
 ·rw [ix_itoa, hD, List.append_nil]
 ·rw [bytesOf_append, bytesOf_append, ix_itoa, ix_itoa, hD, List.append_assoc]; rfl
theorem itoa_size (n : Int) (h0 : -9223372036854775808 ≤ n) (h1 : n ≤ 9223372036854775807) : (⟨(Lib.itoa n).toArray⟩ : ByteArray).size ≤ 21 := by
 rw [sz, ix_itoa]
 unfold ix
 split
 ·have := (dx_facts 19 n.natAbs (by omega)).2.2.1
  rw [List.length_cons]; omega
 ·have := (dx_facts 19 n.toNat (by omega)).2.2.1
  omega
theorem wtext_size (D : Nat) (X : Int) (hD : D < 10 ^ 18) (h0 : -2000 ≤ X) (h1 : X ≤ 2000) : (wtext D X).size ≤ 50 := by
 have h2 := itoa_size (D : Int) (by omega) (by omega)
 have h3 := itoa_size X (by omega) (by omega)
 unfold wtext
 split
 ·omega
 ·rw [ByteArray.size_append, ByteArray.size_append]
  have : (⟨#[101]⟩ : ByteArray).size = 1 := rfl
  omega
theorem written_ok : ∀ (m D : Nat) (X : Int), D ≤ m → D ≠ 0 → D < 10 ^ 18 → -1000 ≤ X → X + m ≤ 10 ^ 18 + 1000 → ∃ (D' j : Nat), D' % 10 ≠ 0 ∧ D = D' * 10 ^ j ∧ j ≤ 18 ∧ Ev (fun k => w2_written.f k (D : Int) X) (wtext D' (X + j))
 | 0, D, X, hm, h0, _, _, _ => by omega
 | m + 1, D, X, hm, h0, h18, hx0, hx1 => by
  have et : Int.tmod (D : Int) 10 = ((D % 10 : Nat) : Int) := by rw [Int.tmod_eq_emod_of_nonneg (by omega)]; omega
  by_cases h : D % 10 = 0
  ·obtain ⟨D', j, i1, i2, i3, i4⟩ := written_ok m (D / 10) (X + 1) (by omega) (by omega) (by omega) (by omega) (by omega)
   have hj : j + 1 ≤ 18 := by
    refine Nat.not_lt.1 fun hc => ?_
    have e18 : j = 18 := by omega
    have h1 : D' ≠ 0 := by rintro rfl; simp at i1
    rw [e18] at i2
    have : 1 * 10 ^ 18 ≤ D' * 10 ^ 18 := Nat.mul_le_mul_right _ (by omega)
    omega
   refine ⟨D', j + 1, i1, ?_, hj, ?_⟩
   ·rw [Nat.pow_succ, ← Nat.mul_assoc, ← i2]; omega
   ·rw [show X + ((j + 1 : Nat) : Int) = X + 1 + (j : Int) by omega]
    refine Ev.step (fun k => ?_) i4
    have e1 : IntKind.u64.wrap (Int.tdiv (D : Int) 10) = ((D / 10 : Nat) : Int) := by rw [Int.tdiv_eq_ediv_of_nonneg (by omega), wu64 (by omega) (by omega)]; omega
    show w2_written.l0 (k + 1) (D : Int) X = _
    rw [w2_written.l0, if_pos (by rw [et]; omega), e1, w64 (x := X + 1) (by omega) (by omega)]
    rfl
  ·refine ⟨D, 0, h, by rw [Nat.pow_zero, Nat.mul_one], by omega, ?_⟩
   rw [show X + ((0 : Nat) : Int) = X by omega]
   refine Ev.step (f := fun _ => some (wtext D X)) (fun k => ?_) (Ev.now _)
   have eu : strconv_FormatUint_96.f (D : Int) 10 = some ⟨(Lib.itoa (D : Int)).toArray⟩ := by unfold strconv_FormatUint_96.f; rw [if_pos ⟨⟨by omega, by omega⟩, rfl⟩]
   have ei : strconv_Itoa_97.f X = some ⟨(Lib.itoa X).toArray⟩ := by unfold strconv_Itoa_97.f; rw [if_pos ⟨by omega, by omega⟩]
   have s1 := itoa_size (D : Int) (by omega) (by omega)
   have s2 := itoa_size X (by omega) (by omega)
   show w2_written.l0 (k + 1) (D : Int) X = _
   rw [w2_written.l0, if_neg (by rw [et]; omega), eu, Option.bind_some]
   unfold wtext
   by_cases hX : X = 0
   ·rw [if_pos hX, if_pos hX]
   ·rw [if_neg hX, if_neg hX, if_pos (by omega), ei, Option.bind_some, if_pos ?_]
    rw [ByteArray.size_append]
    have : (⟨#[101]⟩ : ByteArray).size = 1 := rfl
    omega
def sgB (neg : Bool) : ByteArray := if neg then ⟨#[45]⟩ else ⟨#[]⟩
theorem sgB_bytes (neg : Bool) : bytesOf (sgB neg) = if neg then [45] else [] := by cases neg <;> rfl
theorem tw_app (a b : List Int) (ha : a.all dg = true) (hb : ∀ c t, b = c :: t → dg c = false) : (a ++ b).takeWhile dg = a ∧ (a ++ b).dropWhile dg = b := by
 have h1 : ∀ x ∈ a, dg x = true := fun x hx => List.all_eq_true.1 ha x hx
 rw [List.takeWhile_append_of_pos h1, List.dropWhile_append_of_pos h1]
 cases b with
 | nil => simp
 | cons c t =>
  have := hb c t rfl
  rw [List.takeWhile_cons_of_neg (by rw [this]; simp), List.dropWhile_cons_of_neg (by rw [this]; simp)]; simp
theorem numP_wtext (neg : Bool) (D : Nat) (X : Int) (hD : D < 10 ^ 18) (h0 : -999 ≤ X) (h1 : X ≤ 999) : numP (bytesOf (sgB neg ++ wtext D X)) = some (neg, dx D, 0, X) := by
 obtain ⟨i1, i2, i3, i4⟩ := dx_facts 17 D hD
 have hb : bodyP neg (bytesOf (wtext D X)) = some (neg, dx D, 0, X) := by
  rw [wtext_bytes]
  unfold bodyP
  by_cases hX : X = 0
  ·rw [if_pos hX, List.append_nil]
   have e := tw_app (dx D) [] i1 (by simp)
   rw [List.append_nil] at e
   rw [e.1, e.2, if_neg i4, hX]
   rfl
  ·rw [if_neg hX]
   have e := tw_app (dx D) (101 :: ix X) i1 (fun c t h => by cases h; decide)
   rw [e.1, e.2, if_neg i4]
   simp only
   rw [if_neg (by decide), tailP_cons, if_pos rfl]
   unfold ix
   by_cases hn : X < 0
   ·obtain ⟨j1, j2, j3, j4⟩ := dx_facts 2 X.natAbs (by omega)
    have hl := List.length_pos_iff.2 j4
    rw [if_pos hn, if_pos (by rfl), List.tail_cons, if_pos ⟨j1, hl, j3⟩, j2]
    congr 4; omega
   ·obtain ⟨j1, j2, j3, j4⟩ := dx_facts 2 X.toNat (by omega)
    have hl := List.length_pos_iff.2 j4
    rw [if_neg hn, if_neg (dx_head _ (by omega)), if_pos ⟨j1, hl, j3⟩, j2]
    congr 4; omega
 rw [bytesOf_append, sgB_bytes]
 cases neg with
 | true =>
  show numP (45 :: bytesOf (wtext D X)) = _
  have hnum : numP (45 :: bytesOf (wtext D X)) = if (45 : Int) = 45 then bodyP true (bytesOf (wtext D X)) else bodyP false (45 :: bytesOf (wtext D X)) := rfl
  rw [hnum, if_pos rfl, hb]
 | false =>
  show numP (bytesOf (wtext D X)) = _
  have hne : ∃ c t, bytesOf (wtext D X) = c :: t ∧ c ≠ 45 := by
   rw [wtext_bytes]
   cases hd : dx D with
   | nil => exact absurd hd i4
   | cons c t =>
    rw [hd, List.all_cons, Bool.and_eq_true] at i1
    have := dg_range i1.1
    exact ⟨c, _, rfl, by omega⟩
  obtain ⟨c, t, e, hc⟩ := hne
  rw [e] at hb ⊢
  have hnum : numP (c :: t) = if c = 45 then bodyP true t else bodyP false (c :: t) := rfl
  rw [hnum, if_neg hc, hb]
theorem not_inf (s : ByteArray) (h : numP (bytesOf s) ≠ none) : ¬ s.toList = sInf ∧ ¬ s.toList = sNinf := by
 constructor
 ·intro e
  have h2 := (bytesOf_toList (s := s) (t := ⟨#[105, 110, 102]⟩)).1 (by rw [e, ByteArray.toList_eq])
  rw [h2] at h
  exact h (by decide)
 ·intro e
  have h2 := (bytesOf_toList (s := s) (t := ⟨#[45, 105, 110, 102]⟩)).1 (by rw [e, ByteArray.toList_eq])
  rw [h2] at h
  exact h (by decide)
theorem parse_wtext (neg : Bool) (D : Nat) (X : Int) (hD : D < 10 ^ 17) (h0 : -400 ≤ X) (h1 : X ≤ 400) : parseS (sgB neg ++ wtext D X) = if decW D X = INF then (0, 21) else ((if neg then P63 else 0) + decW D X, 0) := by
 have hn := numP_wtext neg D X (by omega) (by omega) (by omega)
 obtain ⟨i1, i2, i3, i4⟩ := dx_facts 16 D hD
 obtain ⟨n1, n2⟩ := not_inf (sgB neg ++ wtext D X) (by rw [hn]; simp)
 unfold parseS
 rw [if_neg n1, if_neg n2, hn]
 unfold parseN
 simp only
 rw [if_pos ⟨by omega, h0, h1⟩, i2, show X - ((0 : Nat) : Int) = X by omega]
theorem decW_strip (D j : Nat) (X : Int) : decW (D * 10 ^ j) X = decW D (X + j) := by
 obtain ⟨l, hl⟩ : ∃ l : Nat, -(l : Int) ≤ X := ⟨X.natAbs, by omega⟩
 rw [decW_un _ X l hl, decW_un _ (X + j) l (by omega), un_add X l hl j, Nat.mul_assoc]
theorem near_step (r : Nat) (h : r < INF) (y : Int) (hy0 : -360 ≤ y) (hy1 : y ≤ 380) (L : List Int) (d i : Nat) (hi : i < L.length) (hL : L.length ≤ 10) (hd : rd L (i : Int) = (d : Int)) (hd17 : d ≤ 10 ^ 17) :
  (Ok r y d → ∃ (D j : Nat), D % 10 ≠ 0 ∧ d = D * 10 ^ j ∧ j ≤ 18 ∧ D < 10 ^ 17 ∧ Ev (fun k => w2_nearest.l0 k r y L (L.length : Int) (i : Int)) (wtext D (y + j), true)) ∧
  (¬ Ok r y d → ∀ {z : ByteArray × Bool}, Ev (fun k => w2_nearest.l0 k r y L (L.length : Int) ((i + 1 : Nat) : Int)) z → Ev (fun k => w2_nearest.l0 k r y L (L.length : Int) (i : Int)) z) := by
 have hw : wrap64 ((i : Int) + 1) = ((i + 1 : Nat) : Int) := by rw [w64 (by omega) (by omega)]; omega
 by_cases hz : d = 0
 ·refine ⟨fun ho => absurd hz ho.1, fun _ z hzz => Ev.step (fun k => ?_) hzz⟩
  rw [w2_nearest.l0, if_pos (by omega), if_pos (by omega), if_pos (by omega), hd, if_pos (by omega), hw]
 ·obtain ⟨D, j, w1, w2, w3, w4⟩ := written_ok (d + 1) d y (by omega) hz (by omega) (by omega) (by omega)
  have hD17 : D < 10 ^ 17 := by
   by_cases hj : j = 0
   ·subst hj
    rw [Nat.pow_zero, Nat.mul_one] at w2
    have : D ≠ 10 ^ 17 := by rintro rfl; exact w1 (by decide)
    omega
   ·have : D * 10 ≤ D * 10 ^ j := Nat.mul_le_mul_left _ (by
     obtain ⟨q, rfl⟩ : ∃ q, j = q + 1 := ⟨j - 1, by omega⟩
     rw [Nat.pow_succ]; have := Nat.pow_pos (n := q) (show 0 < 10 by omega); omega)
    omega
  have hp := parse_wtext false D (y + j) hD17 (by omega) (by omega)
  have hsg : sgB false ++ wtext D (y + j) = wtext D (y + j) := by show (⟨#[]⟩ : ByteArray) ++ _ = _; exact ByteArray.empty_append
  rw [hsg, ← decW_strip, ← w2] at hp
  have hsz : Sz (wtext D (y + j)) := by have := wtext_size D (y + j) (by omega) (by omega) (by omega); unfold Sz; omega
  have hpe := parse_ok _ hsz
  rw [hp] at hpe
  have hwle : decW d y ≤ INF := wordQ_le _ _
  have hstep : ∀ k, w2_nearest.l0 (k + 1) r y L (L.length : Int) (i : Int) = (w2_written.f k (d : Int) y).bind fun t369 => ((w2_Parse.f k t369).bind fun bt370 => (if bt370.2 = 0 then (if (FloatKind.f64.format.order bt370.1 r == some .eq) = true then (some (t369, true)) else (w2_nearest.l0 k r y L (L.length : Int) ((i + 1 : Nat) : Int))) else (w2_nearest.l0 k r y L (L.length : Int) ((i + 1 : Nat) : Int)))) := by
   intro k
   rw [w2_nearest.l0, if_pos (by omega), if_pos (by omega), if_pos (by omega), hd, if_neg (by omega), hw]
  constructor
  ·intro ho
   refine ⟨D, j, w1, w2, w3, hD17, Ev.step hstep (Ev.bind w4 (Ev.bind hpe ?_))⟩
   rw [ho.2, if_neg (by omega)]
   have e : (FloatKind.f64.format.order ((if false = true then P63 else 0) + r) r == some .eq) = true := by
    rw [show (if false = true then P63 else 0) + r = r by simp, order_pos r r (by omega) (by omega), show compare r r = .eq from Nat.compare_eq_eq.2 rfl]; rfl
   exact Ev.congr (f := fun _ => some (wtext D (y + j), true)) (fun k => by rw [if_pos rfl, if_pos e]) (Ev.now _)
  ·intro ho z hzz
   refine Ev.step hstep (Ev.bind w4 (Ev.bind hpe ?_))
   by_cases hinf : decW d y = INF
   ·rw [if_pos hinf]
    exact Ev.congr (fun k => by rw [if_neg (by simp)]) hzz
   ·rw [if_neg hinf]
    have hne : decW d y ≠ r := fun e => ho ⟨hz, e⟩
    have e : (FloatKind.f64.format.order ((if false = true then P63 else 0) + decW d y) r == some .eq) = false := by
     rw [show (if false = true then P63 else 0) + decW d y = decW d y by simp, order_pos _ r hwle (by omega)]
     cases hc : compare (decW d y) r with
     | eq => exact absurd (Nat.compare_eq_eq.1 hc) hne
     | lt => rfl
     | gt => rfl
    exact Ev.congr (fun k => by rw [if_pos rfl, if_neg (by rw [e]; simp)]) hzz
theorem nearest_w (r l : Nat) (h0 : 0 < r) (h : r < INF) (y : Int) (hy0 : -360 ≤ y) (hy1 : y ≤ 380) (hl : 1000 ≤ l) (hq : fv r * 10 ^ l < un (y + 17) l) :
  (∀ d, pick r l y = some d → ∃ (D j : Nat), D % 10 ≠ 0 ∧ d = D * 10 ^ j ∧ j ≤ 18 ∧ D < 10 ^ 17 ∧ Ev (fun k => w2_nearest.f k r y) (wtext D (y + j), true)) ∧
  (pick r l y = none → Ev (fun k => w2_nearest.f k r y) (⟨#[]⟩, false)) := by
 have hT := un_pos y l
 have hu := un_add y l (by omega) 17
 rw [show y + ((17 : Nat) : Int) = y + 17 by omega] at hu
 rw [hu] at hq
 obtain ⟨z, q1, q2, q3, q4⟩ := quotient_ok r l h0 h y (by omega) (by omega) (by omega) (by
  refine Nat.lt_of_lt_of_le hq ?_
  rw [Nat.mul_comm]
  exact Nat.mul_le_mul_left _ (by decide))
 unfold pick
 have hlow : fv r * 10 ^ l / un y l < 10 ^ 17 := by rw [Nat.div_lt_iff_lt_mul hT]; exact hq
 have hfs := fst_snd (fv r * 10 ^ l) (un y l)
 have hrn : fst (fv r * 10 ^ l) (un y l) = if un y l < 2 * (fv r * 10 ^ l % un y l) ∨ (un y l = 2 * (fv r * 10 ^ l % un y l) ∧ fv r * 10 ^ l / un y l % 2 = 1) then fv r * 10 ^ l / un y l + 1 else fv r * 10 ^ l / un y l := rfl
 obtain ⟨F, hF⟩ : ∃ F, fv r * 10 ^ l = F := ⟨_, rfl⟩
 obtain ⟨T, hTe⟩ : ∃ T, un y l = T := ⟨_, rfl⟩
 rw [hF, hTe] at hlow hfs q1 q2 q3 q4 hrn ⊢
 obtain ⟨low, hlo⟩ : ∃ low, F / T = low := ⟨_, rfl⟩
 rw [hlo] at hlow hfs q1 hrn
 have hwl : IntKind.u64.wrap ((low : Int) + 1) = ((low + 1 : Nat) : Int) := by rw [wu64 (by omega) (by omega)]; omega
 have two : ∀ a b : Nat, a ≤ 10 ^ 17 → b ≤ 10 ^ 17 → fst F T = a → snd F T = b →
   ((∀ d, (if Ok r y a then some a else if Ok r y b then some b else none) = some d → ∃ (D j : Nat), D % 10 ≠ 0 ∧ d = D * 10 ^ j ∧ j ≤ 18 ∧ D < 10 ^ 17 ∧ Ev (fun k => w2_nearest.j1 k r y [(a : Int), (b : Int)]) (wtext D (y + j), true)) ∧
   ((if Ok r y a then some a else if Ok r y b then some b else none) = none → Ev (fun k => w2_nearest.j1 k r y [(a : Int), (b : Int)]) (⟨#[]⟩, false))) := by
  intro a b ha hb _ _
  obtain ⟨a1, a2⟩ := near_step r h y hy0 hy1 [(a : Int), (b : Int)] a 0 (by simp) (by simp) rfl ha
  obtain ⟨b1, b2⟩ := near_step r h y hy0 hy1 [(a : Int), (b : Int)] b 1 (by simp) (by simp) rfl hb
  have hj : ∀ {z : ByteArray × Bool}, Ev (fun k => w2_nearest.l0 k r y [(a : Int), (b : Int)] (([(a : Int), (b : Int)] : List Int).length : Int) ((0 : Nat) : Int)) z → Ev (fun k => w2_nearest.j1 k r y [(a : Int), (b : Int)]) z :=
   fun hz => Ev.step (fun k => by rw [w2_nearest.j1]; rfl) hz
  constructor
  ·intro d hd
   by_cases ho : Ok r y a
   ·rw [if_pos ho] at hd
    obtain rfl := Option.some.inj hd
    obtain ⟨D, j, c1, c2, c3, c4, c5⟩ := a1 ho
    exact ⟨D, j, c1, c2, c3, c4, hj c5⟩
   ·rw [if_neg ho] at hd
    by_cases hp : Ok r y b
    ·rw [if_pos hp] at hd
     obtain rfl := Option.some.inj hd
     obtain ⟨D, j, c1, c2, c3, c4, c5⟩ := b1 hp
     exact ⟨D, j, c1, c2, c3, c4, hj (a2 ho c5)⟩
    ·rw [if_neg hp] at hd; exact absurd hd (by simp)
  ·intro hd
   by_cases ho : Ok r y a
   ·rw [if_pos ho] at hd; exact absurd hd (by simp)
   ·rw [if_neg ho] at hd
    by_cases hp : Ok r y b
    ·rw [if_pos hp] at hd; exact absurd hd (by simp)
    ·refine hj (a2 ho (b2 hp ?_))
     exact Ev.step (f := fun _ => some (⟨#[]⟩, false)) (fun k => by rw [w2_nearest.l0, if_neg (by simp)]) (Ev.now _)
 have go : ∀ a b : Nat, a ≤ 10 ^ 17 → b ≤ 10 ^ 17 → fst F T = a → snd F T = b → (∀ {w : ByteArray × Bool}, Ev (fun k => w2_nearest.j1 k r y [(a : Int), (b : Int)]) w → Ev (fun k => w2_nearest.f k r y) w) →
   (∀ d, (if Ok r y (fst F T) then some (fst F T) else if Ok r y (snd F T) then some (snd F T) else none) = some d → ∃ (D j : Nat), D % 10 ≠ 0 ∧ d = D * 10 ^ j ∧ j ≤ 18 ∧ D < 10 ^ 17 ∧ Ev (fun k => w2_nearest.f k r y) (wtext D (y + j), true)) ∧
   ((if Ok r y (fst F T) then some (fst F T) else if Ok r y (snd F T) then some (snd F T) else none) = none → Ev (fun k => w2_nearest.f k r y) (⟨#[]⟩, false)) := by
  intro a b ha hb e1 e2 hw
  obtain ⟨t1, t2⟩ := two a b ha hb e1 e2
  rw [e1, e2]
  exact ⟨fun d hd => by obtain ⟨D, j, c1, c2, c3, c4, c5⟩ := t1 d hd; exact ⟨D, j, c1, c2, c3, c4, hw c5⟩, fun hd => hw (t2 hd)⟩
 have up : fst F T = low + 1 → snd F T = low → ∀ {w : ByteArray × Bool}, Ev (fun k => w2_nearest.j1 k r y [((low + 1 : Nat) : Int), (low : Int)]) w → Ev (fun k => w2_nearest.j0 k r y (low : Int) [(low : Int), ((low + 1 : Nat) : Int)] true) w := by
  intro _ _ w hw
  exact Ev.step (fun k => by rw [w2_nearest.j0, if_pos rfl, hwl]) hw
 have dn : ∀ {w : ByteArray × Bool}, Ev (fun k => w2_nearest.j1 k r y [(low : Int), ((low + 1 : Nat) : Int)]) w → Ev (fun k => w2_nearest.j0 k r y (low : Int) [(low : Int), ((low + 1 : Nat) : Int)] false) w := by
  intro w hw
  exact Ev.step (fun k => by rw [w2_nearest.j0, if_neg (by simp)]) hw
 have fin : ∀ bb : Bool, (∀ k, (if z > 0 then (w2_nearest.j0 k r y (low : Int) [(low : Int), ((low + 1 : Nat) : Int)] true) else (if z = 0 then (w2_nearest.j0 k r y (low : Int) [(low : Int), ((low + 1 : Nat) : Int)] ((Int.tmod (low : Int) 2) == 1)) else (w2_nearest.j0 k r y (low : Int) [(low : Int), ((low + 1 : Nat) : Int)] false))) = w2_nearest.j0 k r y (low : Int) [(low : Int), ((low + 1 : Nat) : Int)] bb) →
   ∀ {w : ByteArray × Bool}, Ev (fun k => w2_nearest.j0 k r y (low : Int) [(low : Int), ((low + 1 : Nat) : Int)] bb) w → Ev (fun k => w2_nearest.f k r y) w := by
  intro bb hbb w hw
  unfold w2_nearest.f
  refine Ev.bind q1 ?_
  refine Ev.congr (fun k => ?_) hw
  rw [Option.bind_some]
  simp only [hwl]
  exact hbb k
 have hev : Int.tmod (low : Int) 2 = 1 ↔ low % 2 = 1 := by rw [Int.tmod_eq_emod_of_nonneg (by omega)]; omega
 by_cases g1 : z > 0
 ·have h1 := q4.1 g1
  rw [if_pos (.inl h1)] at hrn
  have hs : snd F T = low := by omega
  exact go (low + 1) low (by omega) (by omega) hrn hs (fun hw => fin true (fun k => by rw [if_pos g1]) (up hrn hs hw))
 ·have h1 : ¬ T < 2 * (F % T) := fun hc => g1 (q4.2 hc)
  by_cases g2 : z = 0
  ·have h2 := q3.1 g2
   by_cases g3 : low % 2 = 1
   ·rw [if_pos (.inr ⟨h2.symm, g3⟩)] at hrn
    have hs : snd F T = low := by omega
    have hb : ((Int.tmod (low : Int) 2) == 1) = true := by rw [beq_iff_eq]; exact hev.2 g3
    exact go (low + 1) low (by omega) (by omega) hrn hs (fun hw => fin true (fun k => by rw [if_neg g1, if_pos g2, hb]) (up hrn hs hw))
   ·rw [if_neg (fun hc => hc.elim h1 (fun hd => g3 hd.2))] at hrn
    have hs : snd F T = low + 1 := by omega
    have hb : ((Int.tmod (low : Int) 2) == 1) = false := by rw [Bool.eq_false_iff]; intro hc; exact g3 (hev.1 (beq_iff_eq.1 hc))
    exact go low (low + 1) (by omega) (by omega) hrn hs (fun hw => fin false (fun k => by rw [if_neg g1, if_pos g2, hb]) (dn hw))
  ·rw [if_neg (fun hc => hc.elim h1 (fun hd => g2 (q3.2 hd.1.symm)))] at hrn
   have hs : snd F T = low + 1 := by omega
   exact go low (low + 1) (by omega) (by omega) hrn hs (fun hw => fin false (fun k => by rw [if_neg g1, if_neg g2]) (dn hw))
end Go.Proofs.YtfmjdoofopamkaaGreatDoor.Plain
namespace Go.Proofs.YtfmjdoofopamkaaGreatDoor.Plain
open Go.RowKit Go.Proofs.YtfmjdoofopamkaaGreatDoorW.PrintWords Go.Proofs.YtfmjdoofopamkaaGreatDoorW.PrintLast Go.Proofs.YtfmjdoofopamkaaGreatDoorW.PrintMore Go.Proofs.YtfmjdoofopamkaaGreatDoor.W
set_option linter.unusedVariables false
set_option linter.unusedSimpArgs false
set_option exponentiation.threshold 3000
theorem sgB_size (neg : Bool) : (sgB neg).size ≤ 1 := by cases neg <;> decide
structure Told (r l : Nat) (pw Y : Int) (d D j : Nat) : Prop where
 le : Y ≤ pw
 low : -340 ≤ Y
 high : pw ≤ 420
 pick : pick r l Y = some d
 none : ∀ z, Y < z → z ≤ pw → Plain.pick r l z = none
 over : fv r * 10 ^ l < un (Y + 17) l
 bare : D % 10 ≠ 0
 strip : d = D * 10 ^ j
 few : j ≤ 18
 small : D < 10 ^ 17
theorem un_low (l : Nat) (hl : 1000 ≤ l) (r : Nat) (h0 : 0 < r) : un (-340 + 16) l ≤ fv r * 10 ^ l := by
 refine (un_iff (fv r) (-340 + 16) l (by omega)).1.2 ?_
 rw [show (-340 + 16 : Int).toNat = 0 by decide, show (-(-340 + 16 : Int)).toNat = 324 by decide, Nat.pow_zero, Nat.one_mul]
 have h1 := fv_pos h0
 have h2 : 2 ^ 1074 ≤ 10 ^ 324 := by decide +kernel
 exact Nat.le_trans h2 (Nat.le_mul_of_pos_left _ h1)
theorem l1_step (r l : Nat) (h0 : 0 < r) (h : r < INF) (hl : 1000 ≤ l) (neg : Bool) (pw : Int) (hpw1 : pw ≤ 420) (y n : Int) (hy : y = pw - n + 1) (hlo : -340 ≤ y) (hn : 1 ≤ n) (hy3 : y ≤ 380) (ho : fv r * 10 ^ l < un (y + 17) l) (hno : ∀ z, y < z → z ≤ pw → pick r l z = none) :
  (∃ (d D j : Nat), Told r l pw y d D j ∧ Ev (fun k => w2_Print.l1 k r (sgB neg) pw n) (sgB neg ++ wtext D (y + j))) ∨
  (pick r l y = none ∧ ∀ {t : ByteArray}, Ev (fun k => w2_Print.l1 k r (sgB neg) pw (n + 1)) t → Ev (fun k => w2_Print.l1 k r (sgB neg) pw n) t) := by
 have hw : wrap64 (wrap64 (pw - n) + 1) = y := by rw [w64 (x := pw - n) (by omega) (by omega), w64 (by omega) (by omega)]; omega
 have hs : ∀ k, w2_Print.l1 (k + 1) r (sgB neg) pw n = (w2_nearest.f k r y).bind fun bt378 => (if bt378.2 = true then (if (sgB neg).size + bt378.1.size ≤ 9223372036854775807 then (some (sgB neg ++ bt378.1)) else (none)) else (w2_Print.l1 k r (sgB neg) pw (n + 1))) := by
  intro k
  rw [w2_Print.l1, hw, w64 (x := n + 1) (by omega) (by omega)]
 obtain ⟨n1, n2⟩ := nearest_w r l h0 h y (by omega) hy3 hl ho
 cases hp : pick r l y with
 | some d =>
  left
  obtain ⟨D, j, c1, c2, c3, c4, c5⟩ := n1 d hp
  refine ⟨d, D, j, ⟨by omega, by omega, hpw1, hp, hno, ho, c1, c2, c3, c4⟩, ?_⟩
  have s1 := sgB_size neg
  have s2 := wtext_size D (y + j) (by omega) (by omega) (by omega)
  obtain ⟨K, hK⟩ := c5
  refine ⟨K + 1, fun k hk => ?_⟩
  obtain ⟨i, rfl⟩ : ∃ i, k = i + 1 := ⟨k - 1, by omega⟩
  show w2_Print.l1 (i + 1) r (sgB neg) pw n = _
  have hKi : w2_nearest.f i r y = _ := hK i (by omega)
  have s3 : (sgB neg).size + (wtext D (y + j), true).1.size ≤ 9223372036854775807 := by
   show (sgB neg).size + (wtext D (y + j)).size ≤ 9223372036854775807
   omega
  rw [hs, hKi, Option.bind_some, if_pos rfl, if_pos s3]
 | none =>
  right
  refine ⟨rfl, fun {t} ht => ?_⟩
  obtain ⟨K, hK⟩ := n2 hp
  obtain ⟨M, hM⟩ := ht
  refine ⟨max K M + 1, fun k hk => ?_⟩
  obtain ⟨i, rfl⟩ : ∃ i, k = i + 1 := ⟨k - 1, by omega⟩
  show w2_Print.l1 (i + 1) r (sgB neg) pw n = _
  have hKi : w2_nearest.f i r y = _ := hK i (by omega)
  rw [hs, hKi, Option.bind_some, if_neg (by simp)]
  exact hM i (by omega)
theorem l1_loop (r l : Nat) (h0 : 0 < r) (h : r < INF) (hl : 1000 ≤ l) (neg : Bool) (pw : Int) (hpw1 : pw ≤ 420) : ∀ (m : Nat) (y : Int) (n : Int), y = pw - n + 1 → y = -340 + m → 1 ≤ n → y ≤ 380 → fv r * 10 ^ l < un (y + 17) l → (∀ z, y < z → z ≤ pw → pick r l z = none) →
  ∃ (Y : Int) (d D j : Nat), Told r l pw Y d D j ∧ Ev (fun k => w2_Print.l1 k r (sgB neg) pw n) (sgB neg ++ wtext D (Y + j)) := by
 intro m
 induction m with
 | zero =>
  intro y n hy hm hn hy3 ho hno
  rcases l1_step r l h0 h hl neg pw hpw1 y n hy (by omega) hn hy3 ho hno with ⟨d, D, j, t⟩ | ⟨hp, _⟩
  ·exact ⟨y, d, D, j, t⟩
  ·exfalso
   have h16 : un (y + 16) l ≤ fv r * 10 ^ l := by
    have := un_low l hl r h0
    rw [show y = -340 by omega]; exact this
   obtain ⟨d, hd⟩ := pick_17 h0 h (by omega) h16
   rw [hd] at hp; exact absurd hp (by simp)
 | succ m ih =>
  intro y n hy hm hn hy3 ho hno
  rcases l1_step r l h0 h hl neg pw hpw1 y n hy (by omega) hn hy3 ho hno with ⟨d, D, j, t⟩ | ⟨hp, hstep⟩
  ·exact ⟨y, d, D, j, t⟩
  ·have ho2 : fv r * 10 ^ l < un (y - 1 + 17) l := by
    refine Nat.not_le.1 fun hc => ?_
    obtain ⟨d, hd⟩ := pick_17 h0 h (l := l) (y := y) (by omega) (by rw [show y + 16 = y - 1 + 17 by omega]; exact hc)
    rw [hd] at hp; exact absurd hp (by simp)
   obtain ⟨Y, d, D, j, t1, t2⟩ := ih (y - 1) (n + 1) (by omega) (by omega) (by omega) (by omega) ho2 (by
    intro z hz1 hz2
    by_cases hzy : z = y
    ·rw [hzy]; exact hp
    ·exact hno z (by omega) hz2)
   exact ⟨Y, d, D, j, t1, hstep t2⟩
theorem l0_step (r l : Nat) (h0 : 0 < r) (h : r < INF) (hl : 1000 ≤ l) (sg : ByteArray) (L : Int) (hL0 : -400 ≤ L) (hL1 : L ≤ 400) (hF : fv r * 10 ^ l < un (L + 8) l) (p : Int) (hp0 : L - 2 ≤ p) (hp1 : p ≤ L + 7) :
  (un (p + 1) l ≤ fv r * 10 ^ l ∧ ∀ {t : ByteArray}, Ev (fun k => w2_Print.l0 k r sg (p + 1)) t → Ev (fun k => w2_Print.l0 k r sg p) t) ∨
  (fv r * 10 ^ l < un (p + 1) l ∧ ∀ {t : ByteArray}, Ev (fun k => w2_Print.l1 k r sg p 1) t → Ev (fun k => w2_Print.l0 k r sg p) t) := by
 obtain ⟨i, hi⟩ : ∃ i : Nat, p + 1 + i = L + 8 := ⟨(L + 8 - (p + 1)).toNat, by omega⟩
 have hu := un_add (p + 1) l (by omega) i
 rw [hi] at hu
 have hpw : (10 : Nat) ^ i ≤ 10 ^ 9 := Nat.pow_le_pow_right (by omega) (by omega)
 have hlt : fv r * 10 ^ l < un (p + 1) l * 2 ^ 61 := by
  refine Nat.lt_of_lt_of_le hF ?_
  rw [hu, Nat.mul_comm]
  exact Nat.mul_le_mul_left _ (Nat.le_trans hpw (by decide))
 obtain ⟨z, q1, _⟩ := quotient_ok r l h0 h (p + 1) (by omega) (by omega) (by omega) hlt
 have hs : Ev (fun k => w2_scaled.f k r (p + 1)) ((fv r * 10 ^ l / un (p + 1) l : Nat) : Int) := by
  unfold w2_scaled.f
  exact Ev.bind q1 (Ev.now _)
 have hw : wrap64 (p + 1) = p + 1 := w64 (by omega) (by omega)
 have hst : ∀ k, w2_Print.l0 (k + 1) r sg p = (w2_scaled.f k r (p + 1)).bind fun t377 => (if t377 > 0 then (w2_Print.l0 k r sg (p + 1)) else (w2_Print.l1 k r sg p 1)) := by
  intro k
  rw [w2_Print.l0, hw]
 have hT := un_pos (p + 1) l
 by_cases hc : un (p + 1) l ≤ fv r * 10 ^ l
 ·have hpos : 1 ≤ fv r * 10 ^ l / un (p + 1) l := (Nat.le_div_iff_mul_le hT).2 (by omega)
  refine .inl ⟨hc, fun ht => Ev.step hst (Ev.bind hs ?_)⟩
  exact Ev.congr (fun k => by rw [if_pos (by omega)]) ht
 ·have hz : fv r * 10 ^ l / un (p + 1) l = 0 := Nat.div_eq_of_lt (Nat.not_le.1 hc)
  refine .inr ⟨Nat.not_le.1 hc, fun ht => Ev.step hst (Ev.bind hs ?_)⟩
  exact Ev.congr (fun k => by rw [hz, if_neg (by omega)]) ht
theorem l0_loop (r l : Nat) (h0 : 0 < r) (h : r < INF) (hl : 1000 ≤ l) (sg : ByteArray) (L : Int) (hL0 : -400 ≤ L) (hL1 : L ≤ 400) (hF : fv r * 10 ^ l < un (L + 8) l) : ∀ (m : Nat) (p : Int), p + m = L + 7 → L - 2 ≤ p →
  ∃ pw : Int, L - 2 ≤ pw ∧ pw ≤ L + 7 ∧ p ≤ pw ∧ fv r * 10 ^ l < un (pw + 1) l ∧ (pw = p ∨ un pw l ≤ fv r * 10 ^ l) ∧ ∀ {t : ByteArray}, Ev (fun k => w2_Print.l1 k r sg pw 1) t → Ev (fun k => w2_Print.l0 k r sg p) t := by
 intro m
 induction m with
 | zero =>
  intro p hm hp
  rcases l0_step r l h0 h hl sg L hL0 hL1 hF p hp (by omega) with ⟨hc, _⟩ | ⟨hc, hst⟩
  ·exfalso
   rw [show p + 1 = L + 8 by omega] at hc
   omega
  ·exact ⟨p, hp, by omega, Int.le_refl _, hc, .inl rfl, fun ht => hst ht⟩
 | succ m ih =>
  intro p hm hp
  rcases l0_step r l h0 h hl sg L hL0 hL1 hF p hp (by omega) with ⟨hc, hst⟩ | ⟨hc, hst⟩
  ·obtain ⟨pw, a1, a2, a3, a4, a5, a6⟩ := ih (p + 1) (by omega) (by omega)
   refine ⟨pw, a1, a2, by omega, a4, ?_, fun ht => hst (a6 ht)⟩
   rcases a5 with e | e
   ·right; rw [e]; exact hc
   ·exact .inr e
  ·exact ⟨p, hp, by omega, Int.le_refl _, hc, .inl rfl, fun ht => hst ht⟩
theorem j0_ok (r l : Nat) (h0 : 0 < r) (h : r < INF) (hl : 1000 ≤ l) (neg : Bool) : ∃ (pw Y : Int) (d D j : Nat), Told r l pw Y d D j ∧ fv r * 10 ^ l < un (pw + 1) l ∧ (P52 ≤ r → un pw l ≤ fv r * 10 ^ l) ∧ Ev (fun k => w2_Print.j0 k r (sgB neg)) (sgB neg ++ wtext D (Y + j)) := by
 obtain ⟨L, a1, a2, a3, a4, a5, a6⟩ := log10_ok r l h0 h hl
 obtain ⟨pw, b1, b2, b3, b4, b5, b6⟩ := l0_loop r l h0 h hl (sgB neg) L a1 a2 a5 9 (L - 2) (by omega) (by omega)
 have hr63 : r < P63 := by unfold INF P63 at *; omega
 have hm : r % P63 = r := Nat.mod_eq_of_lt hr63
 have hpl : P52 ≤ r → un pw l ≤ fv r * 10 ^ l := by
  intro hx
  rcases b5 with e | e
  ·rw [e]; exact a4 hx
  ·exact e
 have hhigh : pw ≤ 380 := by
  refine Int.not_lt.1 fun hc => ?_
  by_cases hx : P52 ≤ r
  ·have h1 := un_mono l (show (380 : Int) ≤ pw by omega)
   have h2 : fv r * 10 ^ l < un 380 l := by
    refine (un_iff (fv r) 380 l (by omega)).2.2 ?_
    rw [show (-(380 : Int)).toNat = 0 by decide, show (380 : Int).toNat = 380 by decide, Nat.pow_zero, Nat.mul_one]
    have h3 := fv_bound h
    have h4 : (2 : Nat) ^ 2098 ≤ 10 ^ 380 * 2 ^ 1074 := by decide +kernel
    exact Nat.lt_of_lt_of_le h3 h4
   have h3 := hpl hx
   omega
  ·have := a6 (by omega)
   omega
 have ho : fv r * 10 ^ l < un (pw + 17) l := Nat.lt_of_lt_of_le b4 (un_mono l (by omega))
 have hlow : -340 ≤ pw := by
  refine Int.not_lt.1 fun hc => ?_
  have h1 := un_low l hl r h0
  have h2 := un_mono l (show pw + 1 ≤ -340 + 16 by omega)
  omega
 obtain ⟨Y, d, D, j, t1, t2⟩ := l1_loop r l h0 h hl neg pw (by omega) (pw + 340).toNat pw 1 (by omega) (by omega) (by omega) hhigh ho (by intro z hz1 hz2; omega)
 refine ⟨pw, Y, d, D, j, t1, b4, hpl, ?_⟩
 ·refine Ev.step (f := fun k => w2_Print.l0 k r (sgB neg) (L - 2)) (fun k => ?_) (b6 t2)
  rw [w2_Print.j0, isnan_false (by rw [show r % 9223372036854775808 = r from hm]; exact Nat.le_of_lt h), if_neg (by simp), isinf1_ok r (by unfold P63 at hr63; omega) (by unfold nanB; rw [hm]; exact decide_eq_false (by omega)), Option.bind_some, decide_eq_false (by omega), if_neg (by simp), order_zero r h0 (Nat.le_of_lt h), if_neg (by simp), a3, w64 (x := L - 2) (by omega) (by omega)]
theorem print_fin (x l : Nat) (hx : x < 18446744073709551616) (h0 : 0 < x % P63) (h : x % P63 < INF) (hl : 1000 ≤ l) : ∃ (pw Y : Int) (d D j : Nat), Told (x % P63) l pw Y d D j ∧ fv (x % P63) * 10 ^ l < un (pw + 1) l ∧ (P52 ≤ x % P63 → un pw l ≤ fv (x % P63) * 10 ^ l) ∧
  Ev (fun k => w2_Print.f k x) (sgB (decide (P63 ≤ x)) ++ wtext D (Y + j)) := by
 obtain ⟨pw, Y, d, D, j, t1, t2, t3, t4⟩ := j0_ok (x % P63) l h0 h hl (decide (P63 ≤ x))
 refine ⟨pw, Y, d, D, j, t1, t2, t3, ?_⟩
 unfold w2_Print.f
 refine Ev.congr (fun k => ?_) t4
 rw [signbit_ok x hx, Option.bind_some]
 by_cases hc : P63 ≤ x
 ·rw [decide_eq_true hc, if_pos rfl, neg_high x hx, if_neg (by omega)]
  have e : x - P63 = x % P63 := by unfold P63 at *; omega
  rw [e]; rfl
 ·rw [decide_eq_false hc, if_neg (by simp), Nat.mod_eq_of_lt (by omega)]; rfl
theorem print_nan (x : Nat) (hx : x < 18446744073709551616) (h : INF < x % P63) : Ev (fun k => w2_Print.f k x) ⟨#[110, 97, 110]⟩ := by
 unfold w2_Print.f
 rw [signbit_ok x hx]
 simp only [Option.bind_some]
 have hn : ∀ y sg, INF < y % P63 → Ev (fun k => w2_Print.j0 k y sg) ⟨#[110, 97, 110]⟩ := fun y sg hy =>
  Ev.step (f := fun _ => some ⟨#[110, 97, 110]⟩) (fun k => by rw [w2_Print.j0, if_pos (isnan_true hy)]) (Ev.now _)
 by_cases hc : P63 ≤ x
 ·refine Ev.congr (fun k => by rw [decide_eq_true hc, if_pos rfl, neg_high x hx, if_neg (by omega)]) (hn _ _ ?_)
  have e : (x - P63) % P63 = x % P63 := by unfold P63 at *; omega
  rw [e]; exact h
 ·exact Ev.congr (fun k => by rw [decide_eq_false hc, if_neg (by simp)]) (hn _ _ h)
theorem print_inf (x : Nat) (hx : x < 18446744073709551616) (h : x % P63 = INF) : Ev (fun k => w2_Print.f k x) (sgB (decide (P63 ≤ x)) ++ ⟨#[105, 110, 102]⟩) := by
 unfold w2_Print.f
 rw [signbit_ok x hx]
 simp only [Option.bind_some]
 have hn : ∀ neg, Ev (fun k => w2_Print.j0 k INF (sgB neg)) (sgB neg ++ ⟨#[105, 110, 102]⟩) := fun neg => by
  refine Ev.step (f := fun _ => some (sgB neg ++ ⟨#[105, 110, 102]⟩)) (fun k => ?_) (Ev.now _)
  have s1 := sgB_size neg
  rw [w2_Print.j0, isnan_false (by decide), if_neg (by simp), isinf1_ok INF (by decide) (by decide), Option.bind_some, decide_eq_true rfl, if_pos rfl, if_pos (by omega)]
 by_cases hc : P63 ≤ x
 ·refine Ev.congr (fun k => ?_) (hn (decide (P63 ≤ x)))
  have e : x - P63 = INF := by unfold P63 INF at *; omega
  rw [decide_eq_true hc, if_pos rfl, neg_high x hx, if_neg (by omega), e]; rfl
 ·refine Ev.congr (fun k => ?_) (hn (decide (P63 ≤ x)))
  have e : x = INF := by unfold P63 INF at *; omega
  rw [decide_eq_false hc, if_neg (by simp), e]; rfl
theorem print_zero (x : Nat) (hx : x < 18446744073709551616) (h : x % P63 = 0) : Ev (fun k => w2_Print.f k x) (sgB (decide (P63 ≤ x)) ++ ⟨#[48]⟩) := by
 unfold w2_Print.f
 rw [signbit_ok x hx]
 simp only [Option.bind_some]
 have hn : ∀ neg, Ev (fun k => w2_Print.j0 k 0 (sgB neg)) (sgB neg ++ ⟨#[48]⟩) := fun neg => by
  refine Ev.step (f := fun _ => some (sgB neg ++ ⟨#[48]⟩)) (fun k => ?_) (Ev.now _)
  have s1 := sgB_size neg
  have e : (FloatKind.f64.format.order 0 (0 : Nat) == some .eq) = true := by decide +kernel
  rw [w2_Print.j0, isnan_false (by decide), if_neg (by simp), isinf1_ok 0 (by decide) (by decide), Option.bind_some, decide_eq_false (by decide), if_neg (by simp), if_pos e, if_pos (by omega)]
 by_cases hc : P63 ≤ x
 ·refine Ev.congr (fun k => ?_) (hn (decide (P63 ≤ x)))
  have e : x - P63 = 0 := by unfold P63 at *; omega
  rw [decide_eq_true hc, if_pos rfl, neg_high x hx, if_neg (by omega), e]; rfl
 ·refine Ev.congr (fun k => ?_) (hn (decide (P63 ≤ x)))
  have e : x = 0 := by unfold P63 at *; omega
  rw [decide_eq_false hc, if_neg (by simp), e]; rfl
end Go.Proofs.YtfmjdoofopamkaaGreatDoor.Plain
