import Derived.Test.YtfmjdoofopamkaaGreatDoorPlT
import Derived.Test.YtfmjdoofopamkaaGreatDoorWx13
import Derived.Test.YtfmjdoofopamkaaGreatDoorWx14
namespace Go.Proofs.YtfmjdoofopamkaaGreatDoor.Plain
open Go.RowKit Go.Proofs.YtfmjdoofopamkaaGreatDoorW.PrintWords Go.Proofs.YtfmjdoofopamkaaGreatDoorW.PrintLast Go.Proofs.YtfmjdoofopamkaaGreatDoorW.PrintMore Go.Proofs.YtfmjdoofopamkaaGreatDoor.W
set_option linter.unusedVariables false
set_option linter.unusedSimpArgs false
theorem set_addB (B : Nat) (x : List Int) (i d p p' : Nat) (hi : i < x.length) (h : (rd x (i : Int)).toNat + p = d + B * p') : nv B (x.set i (d : Int)) + B ^ (i + 1) * p' = nv B x + B ^ i * p := by
 rw [nv_set B x i hi, nv_at B x i hi, Int.toNat_natCast]
 obtain ⟨R, hR⟩ : ∃ R, (rd x (i : Int)).toNat = R := ⟨_, rfl⟩
 obtain ⟨X, hX⟩ : ∃ X, nv B (x.drop (i + 1)) = X := ⟨_, rfl⟩
 obtain ⟨P, hP⟩ : ∃ P, B ^ i = P := ⟨_, rfl⟩
 rw [hR] at h ⊢
 rw [hX, Nat.pow_succ, hP]
 have e1 : P * (R + p) = P * (d + B * p') := by rw [h]
 simp only [Nat.mul_add, ← Nat.mul_assoc] at e1 ⊢
 omega
theorem prod_num (k C R S : Nat) (hk : k < 65536) (hC : C < 65536) (hR : R < 65536) (hS : S < 65536) : k + C + R * S < 4294967296 ∧ (k + C + R * S) / 65536 < 65536 := by
 have h1 : R * S ≤ 65535 * 65535 := Nat.mul_le_mul (by omega) (by omega)
 omega
theorem wadd (i j : Nat) (hi : i ≤ 1000000) (hj : j ≤ 1000000) : wrap64 ((i : Int) + (j : Int)) = ((i + j : Nat) : Int) := by rw [w64 (by omega) (by omega)]; omega
theorem prod_row (a b : List Int) (hda : Dig B16 a) (hdb : Dig B16 b) (hla : a.length ≤ 1000000) (hlb : b.length ≤ 1000000) (i R : Nat) (hi : i < a.length) (hR : rd a (i : Int) = (R : Int)) (hR2 : R < 65536) :
  ∀ (d j : Nat) (c : List Int) (cy : Nat), j + d = b.length → c.length = a.length + b.length + 1 → Dig B16 c → cy < 65536 → nv B16 c + B16 ^ (i + j) * (cy + R * nv B16 (b.drop j)) < B16 ^ (i + 1 + b.length) →
  ∃ c' : List Int, c'.length = a.length + b.length + 1 ∧ Dig B16 c' ∧ nv B16 c' = nv B16 c + B16 ^ (i + j) * (cy + R * nv B16 (b.drop j)) ∧
   ∀ {y : List Int}, Ev (fun k => r2_Product.l0 k a b c' ((i + 1 : Nat) : Int)) y → Ev (fun k => r2_Product.l1 k a b c (i : Int) (cy : Int) (j : Int)) y
 | 0, j, c, cy, hj, hcl, hdc, hcy, hb => by
  have e : b.drop j = [] := List.drop_eq_nil_of_le (by omega)
  have hje : j = b.length := by omega
  have hb' : nv B16 c + B16 ^ (i + b.length) * cy < B16 ^ (i + b.length) * 65536 := by
   rw [e, nv, Nat.mul_zero, Nat.add_zero, hje, show i + 1 + b.length = i + b.length + 1 by omega, Nat.pow_succ] at hb
   exact hb
  have hib : i + b.length < c.length := by omega
  obtain ⟨C, hC, hC2⟩ := rd_dig hdc (i + b.length) hib
  have hsum : C + cy < 65536 := by
   have h1 := nv_at B16 c (i + b.length) hib
   rw [hC, Int.toNat_natCast] at h1
   have h2 : B16 ^ (i + b.length) * (C + cy) < B16 ^ (i + b.length) * 65536 := by
    rw [Nat.mul_add]
    rw [Nat.mul_add] at h1
    omega
   exact Nat.lt_of_mul_lt_mul_left h2
  have hdg := dig_nat hsum
  have hset := set_addB B16 c (i + b.length) (C + cy) cy 0 hib (by rw [hC, Int.toNat_natCast]; omega)
  rw [Nat.mul_zero, Nat.add_zero] at hset
  refine ⟨c.set (i + b.length) ((C + cy : Nat) : Int), by rw [List.length_set]; exact hcl, hdc.set _ hdg.1 hdg.2, ?_, ?_⟩
  ·rw [hset, e, nv, Nat.mul_zero, Nat.add_zero, hje]
  ·intro y hy
   refine Ev.step (fun k => ?_) hy
   have e2 : ((C : Int) + (cy : Int)) % 4294967296 = ((C + cy : Nat) : Int) := by omega
   rw [r2_Product.l1, if_neg (by omega), wadd i b.length (by omega) hlb, if_pos (by omega), if_pos (by omega), hC, e2, succ_w i (by omega), Int.toNat_natCast]
 | d + 1, j, c, cy, hj, hcl, hdc, hcy, hb => by
  replace hb := Sd.mk hb
  have hjl : j < b.length := by omega
  have hij : i + j < c.length := by omega
  obtain ⟨S, hS, hS2⟩ := rd_dig hdb j hjl
  obtain ⟨C, hC, hC2⟩ := rd_dig hdc (i + j) hij
  obtain ⟨n1, n2⟩ := prod_num cy C R S hcy hC2 hR2 hS2
  have hdg := dig_nat (Nat.mod_lt (cy + C + R * S) (show 0 < 65536 by omega))
  have hset := set_addB B16 c (i + j) ((cy + C + R * S) % 65536) (cy + R * S) ((cy + C + R * S) / 65536) hij (by
   rw [hC, Int.toNat_natCast]
   obtain ⟨Y, hY⟩ : ∃ Y, R * S = Y := ⟨_, rfl⟩
   rw [hY]
   show C + (cy + Y) = (cy + C + Y) % 65536 + 65536 * ((cy + C + Y) / 65536)
   omega)
  have e : nv B16 (c.set (i + j) (((cy + C + R * S) % 65536 : Nat) : Int)) + B16 ^ (i + (j + 1)) * ((cy + C + R * S) / 65536 + R * nv B16 (b.drop (j + 1))) = nv B16 c + B16 ^ (i + j) * (cy + R * nv B16 (b.drop j)) := by
   rw [Nat.mul_add, ← Nat.add_assoc, ← Nat.add_assoc, hset, drop_rd b j hjl, nv, hS, Int.toNat_natCast, Nat.pow_succ, Nat.add_assoc, Nat.mul_assoc, ← Nat.mul_add]
   congr 2
   rw [Nat.mul_add R, Nat.add_assoc]
   congr 2
   rw [← Nat.mul_assoc, ← Nat.mul_assoc, Nat.mul_comm B16 R]
  have hlen : (c.set (i + j) (((cy + C + R * S) % 65536 : Nat) : Int)).length = a.length + b.length + 1 := by rw [List.length_set]; exact hcl
  have ih := prod_row a b hda hdb hla hlb i R hi hR hR2 d (j + 1) (c.set (i + j) (((cy + C + R * S) % 65536 : Nat) : Int)) ((cy + C + R * S) / 65536) (by omega) hlen (hdc.set _ hdg.1 hdg.2) n2 (by rw [e]; exact hb.out)
  rw [e] at ih
  obtain ⟨c', h1, h2, h3, h4⟩ := ih
  refine ⟨c', h1, h2, h3, fun hy => Ev.step (fun k => ?_) (h4 hy)⟩
  have e3 : ((cy : Int) + (C : Int) + (R : Int) * (S : Int)) % 4294967296 = ((cy + C + R * S : Nat) : Int) := by
   rw [show ((cy : Int) + (C : Int) + (R : Int) * (S : Int)) = ((cy + C + R * S : Nat) : Int) by rw [Int.natCast_add, Int.natCast_add, Int.natCast_mul]]
   omega
  rw [r2_Product.l1, if_pos (by omega), wadd i j (by omega) (by omega), if_pos (by omega), if_pos (by omega), if_pos (by omega), if_pos (by omega), if_pos (by omega), hC, hR, hS, e3, and16' _ n1, succ_w j (by omega), Int.toNat_natCast]
  rfl
theorem prod_rows (a b : List Int) (hda : Dig B16 a) (hdb : Dig B16 b) (hla : a.length ≤ 1000000) (hlb : b.length ≤ 1000000) : ∀ (d i : Nat) (c : List Int), i + d = a.length → c.length = a.length + b.length + 1 → Dig B16 c → nv B16 c = nv B16 (a.take i) * nv B16 b →
  Ev (fun k => r2_Product.l0 k a b c (i : Int)) (rl (nv B16 a * nv B16 b))
 | 0, i, c, hi, hcl, hdc, hv => by
  have e : a.take i = a := List.take_of_length_le (by omega)
  rw [e] at hv
  rw [← hv]
  exact Ev.step (fun k => by rw [r2_Product.l0, if_neg (by omega)]) (Ev.bind (rtrim_ok hdc (by omega)) (Ev.now _))
 | d + 1, i, c, hi, hcl, hdc, hv => by
  have hil : i < a.length := by omega
  obtain ⟨R, hR, hR2⟩ := rd_dig hda i hil
  have e : nv B16 c + B16 ^ (i + 0) * (0 + R * nv B16 (b.drop 0)) = nv B16 (a.take (i + 1)) * nv B16 b := by
   rw [hv, nv_take_succ B16 a i hil, hR, Int.toNat_natCast, List.drop_zero, Nat.add_zero, Nat.zero_add, Nat.add_mul, Nat.mul_assoc]
  have hlt : nv B16 (a.take (i + 1)) * nv B16 b < B16 ^ (i + 1 + b.length) := by
   have h1 := nv_lt (B := B16) (by decide) (hda.take (i + 1))
   have h2 := nv_lt (B := B16) (by decide) hdb
   rw [List.length_take, Nat.min_eq_left (by omega)] at h1
   rw [Nat.pow_add]
   exact Nat.mul_lt_mul_of_lt_of_lt h1 h2
  obtain ⟨c', h1, h2, h3, h4⟩ := prod_row a b hda hdb hla hlb i R hil hR hR2 b.length 0 c 0 (by omega) hcl hdc (by omega) (by rw [e]; exact hlt)
  rw [e] at h3
  refine Ev.step (f := fun k => r2_Product.l1 k a b c (i : Int) ((0 : Nat) : Int) ((0 : Nat) : Int)) (fun k => ?_) (h4 (prod_rows a b hda hdb hla hlb d (i + 1) c' (by omega) h1 h2 h3))
  rw [r2_Product.l0, if_pos (by omega)]; rfl
theorem prod_ok (a b : Nat) (ha : (rl a).length ≤ 1000000) (hb : (rl b).length ≤ 1000000) : Ev (fun k => r2_Product.f k (rl a) (rl b)) (rl (a * b)) := by
 have hw : wrap64 (wrap64 (((rl a).length : Int) + ((rl b).length : Int)) + 1) = (((rl a).length + (rl b).length + 1 : Nat) : Int) := by rw [wadd _ _ ha hb, succ_w _ (by omega)]
 have h := prod_rows (rl a) (rl b) (rl_dig a) (rl_dig b) ha hb (rl a).length 0 (List.replicate ((rl a).length + (rl b).length + 1) 0) (by omega) (by simp) (Dig.zeros _ _ (by decide)) (by rw [nv_zeros, List.take_zero, nv, Nat.zero_mul])
 rw [nv_rl, nv_rl] at h
 unfold r2_Product.f
 refine Ev.congr (fun k => ?_) h
 rw [hw, if_pos (by omega), if_pos (by omega), Int.toNat_natCast]
 rfl
theorem rten_loop (n : Int) (hn : n ≤ 100000) : ∀ (d i a : Nat), (i : Int) + d = n ∨ (d = 0 ∧ n ≤ i) → i ≤ 100000 → bl (a * 10 ^ d) ≤ 16000000 → Ev (fun k => r2_Ten.l0 k n (rl a) (i : Int)) (rl (a * 10 ^ d))
 | 0, i, a, hi, hil, hb => by
  rw [Nat.pow_zero, Nat.mul_one]
  exact Ev.step (f := fun _ => some (rl a)) (fun k => by rw [r2_Ten.l0, if_neg (by omega)]) (Ev.now _)
 | d + 1, i, a, hi, hil, hb => by
  have e : a * 10 ^ (d + 1) = (a * 10) * 10 ^ d := by rw [Nat.pow_succ, Nat.mul_comm (10 ^ d) 10, Nat.mul_assoc]
  have hba : bl a ≤ 16000000 := by
   refine Nat.le_trans (bl_mono ?_) hb
   exact Nat.le_mul_of_pos_right _ (Nat.pow_pos (by omega))
  have ht := rtimes_ok a 10 0 (rl_len_of 1000000 (by omega)) (by omega) (by omega)
  rw [Nat.add_zero] at ht
  have ih := rten_loop n hn d (i + 1) (a * 10) (by omega) (by omega) (by rw [← e]; exact hb)
  rw [e]
  refine Ev.step (fun k => ?_) (Ev.bind (f := fun k t => r2_Ten.l0 k n t ((i + 1 : Nat) : Int)) ht ih)
  rw [r2_Ten.l0, if_pos (by omega), succ_w i (by omega)]
  rfl
theorem rten_ok (n : Int) (hn : n ≤ 100000) : Ev (fun k => r2_Ten.f k n) (rl (10 ^ n.toNat)) := by
 have hb : bl (1 * 10 ^ n.toNat) ≤ 16000000 := by
  rw [Nat.one_mul]
  have h : bl (10 ^ n.toNat) ≤ 4 * n.toNat + 1 := by
   refine bl_le ?_
   have h1 : 10 ^ n.toNat ≤ 16 ^ n.toNat := Nat.pow_le_pow_left (by omega) _
   have h2 : 16 ^ n.toNat = 2 ^ (4 * n.toNat) := by rw [show 16 = 2 ^ 4 from rfl, ← Nat.pow_mul]
   have h3 : 2 ^ (4 * n.toNat) < 2 ^ (4 * n.toNat + 1) := Nat.pow_lt_pow_right (by omega) (by omega)
   omega
  omega
 have h := rten_loop n hn n.toNat 0 1 (by omega) (by omega) hb
 rw [Nat.one_mul] at h
 exact Ev.bind (of_ok 1 (by omega)) h
end Go.Proofs.YtfmjdoofopamkaaGreatDoor.Plain
