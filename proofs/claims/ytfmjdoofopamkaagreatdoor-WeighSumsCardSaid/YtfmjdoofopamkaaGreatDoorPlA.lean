import Derived.Test.YtfmjdoofopamkaaGreatDoorWAll
import Derived.RowKit
import Derived.Laws.BitsLemmas
import Derived.Laws.Strings
import Derived.Laws.BytesArg
import Derived.Laws.Closers25b
import Derived.Test.YtfmjdoofopamkaaGreatDoorWx3
import Derived.Test.YtfmjdoofopamkaaGreatDoorWx5
import Derived.Test.YtfmjdoofopamkaaGreatDoorWx4
namespace Go.Proofs.YtfmjdoofopamkaaGreatDoor.Plain
open Go.RowKit Go.Proofs.YtfmjdoofopamkaaGreatDoorW.PrintWords Go.Proofs.YtfmjdoofopamkaaGreatDoorW.PrintLast Go.Proofs.YtfmjdoofopamkaaGreatDoorW.PrintMore
set_option linter.unusedVariables false
set_option linter.unusedSimpArgs false

theorem w64 {x : Int} (h0 : -9223372036854775808 ≤ x) (h1 : x ≤ 9223372036854775807) : wrap64 x = x := by unfold wrap64; omega
theorem w32 {x : Int} (h0 : -2147483648 ≤ x) (h1 : x ≤ 2147483647) : wrap32 x = x := by unfold wrap32; omega
theorem wu64 {x : Int} (h0 : 0 ≤ x) (h1 : x ≤ 18446744073709551615) : IntKind.u64.wrap x = x := by
 simp [IntKind.wrap, IntKind.bits, IntKind.signed]; omega
theorem rd_nat (l : List Int) (i : Nat) (h : i < l.length) : rd l (i : Int) = l[i] := by
 simp [rd, List.getD_eq_getElem?_getD, List.getElem?_eq_getElem h]
theorem drop_rd (l : List Int) (i : Nat) (h : i < l.length) : l.drop i = rd l (i : Int) :: l.drop (i + 1) := by
 rw [rd_nat l i h]; exact List.drop_eq_getElem_cons h
theorem take_rd (l : List Int) (i : Nat) (h : i < l.length) : l.take (i + 1) = l.take i ++ [rd l (i : Int)] := by
 rw [rd_nat l i h]; exact (List.take_append_getElem h).symm
theorem sz (s : ByteArray) : s.size = (bytesOf s).length := (bytesOf_length s).symm
end Go.Proofs.YtfmjdoofopamkaaGreatDoor.Plain
namespace Go.Proofs.YtfmjdoofopamkaaGreatDoor.Plain
open Go.RowKit Go.Proofs.YtfmjdoofopamkaaGreatDoorW.PrintWords Go.Proofs.YtfmjdoofopamkaaGreatDoorW.PrintLast Go.Proofs.YtfmjdoofopamkaaGreatDoorW.PrintMore
set_option linter.unusedVariables false
set_option linter.unusedSimpArgs false
def nv (B : Nat) : List Int → Nat
 | [] => 0
 | d :: t => d.toNat + B * nv B t
def Dig (B : Nat) (l : List Int) : Prop := ∀ d ∈ l, 0 ≤ d ∧ d < (B : Int)
theorem Dig.nil (B : Nat) : Dig B [] := by intro d h; simp at h
theorem Dig.cons {B : Nat} {d : Int} {l : List Int} (h0 : 0 ≤ d) (h1 : d < (B : Int)) (h : Dig B l) : Dig B (d :: l) := by
 intro e he
 rcases List.mem_cons.1 he with rfl | he
 ·exact ⟨h0, h1⟩
 ·exact h e he
theorem Dig.tail {B : Nat} {d : Int} {l : List Int} (h : Dig B (d :: l)) : Dig B l := fun e he => h e (by simp [he])
theorem Dig.head {B : Nat} {d : Int} {l : List Int} (h : Dig B (d :: l)) : 0 ≤ d ∧ d < (B : Int) := h d (by simp)
theorem Dig.append {B : Nat} {a b : List Int} (ha : Dig B a) (hb : Dig B b) : Dig B (a ++ b) := by
 intro e he
 rcases List.mem_append.1 he with h | h
 ·exact ha e h
 ·exact hb e h
theorem Dig.left {B : Nat} {a b : List Int} (h : Dig B (a ++ b)) : Dig B a := fun e he => h e (by simp [he])
theorem Dig.right {B : Nat} {a b : List Int} (h : Dig B (a ++ b)) : Dig B b := fun e he => h e (by simp [he])
theorem Dig.set {B : Nat} {l : List Int} (h : Dig B l) (i : Nat) {d : Int} (h0 : 0 ≤ d) (h1 : d < (B : Int)) : Dig B (l.set i d) := by
 intro e he
 rcases List.mem_or_eq_of_mem_set he with h' | rfl
 ·exact h e h'
 ·exact ⟨h0, h1⟩
theorem Dig.zeros (B n : Nat) (hB : 0 < B) : Dig B (List.replicate n 0) := by
 intro e he
 rw [List.eq_of_mem_replicate he]
 omega
theorem Dig.rd {B : Nat} {l : List Int} (h : Dig B l) (i : Nat) (hi : i < l.length) : 0 ≤ rd l (i : Int) ∧ rd l (i : Int) < (B : Int) := by
 rw [rd_nat l i hi]; exact h _ (List.getElem_mem hi)
theorem Dig.take {B : Nat} {l : List Int} (h : Dig B l) (i : Nat) : Dig B (l.take i) := fun e he => h e (List.mem_of_mem_take he)
theorem Dig.drop {B : Nat} {l : List Int} (h : Dig B l) (i : Nat) : Dig B (l.drop i) := fun e he => h e (List.mem_of_mem_drop he)
theorem nv_append (B : Nat) : ∀ a b : List Int, nv B (a ++ b) = nv B a + B ^ a.length * nv B b
 | [], b => by simp [nv]
 | d :: a, b => by
  rw [List.cons_append, nv, nv, nv_append B a b, List.length_cons, Nat.pow_succ, Nat.mul_add, Nat.add_assoc]
  congr 2
  rw [← Nat.mul_assoc, Nat.mul_comm B]
theorem nv_lt {B : Nat} (hB : 0 < B) : ∀ {l : List Int}, Dig B l → nv B l < B ^ l.length
 | [], _ => by simp [nv]
 | d :: t, h => by
  have ih := nv_lt hB h.tail
  have hd := h.head
  rw [nv, List.length_cons, Nat.pow_succ]
  have h1 : B * (nv B t + 1) ≤ B * B ^ t.length := Nat.mul_le_mul_left B ih
  rw [Nat.mul_add, Nat.mul_one, Nat.mul_comm B (B ^ t.length)] at h1
  omega
theorem nv_zeros (B : Nat) : ∀ n, nv B (List.replicate n 0) = 0
 | 0 => rfl
 | n + 1 => by rw [List.replicate_succ, nv, nv_zeros B n]; simp
theorem nv_split (B : Nat) (l : List Int) (i : Nat) (h : i ≤ l.length) : nv B l = nv B (l.take i) + B ^ i * nv B (l.drop i) := by
 conv => lhs; rw [← List.take_append_drop i l]
 rw [nv_append, List.length_take, Nat.min_eq_left h]
theorem nv_at (B : Nat) (l : List Int) (i : Nat) (h : i < l.length) : nv B l = nv B (l.take i) + B ^ i * ((rd l (i : Int)).toNat + B * nv B (l.drop (i + 1))) := by
 rw [nv_split B l i (by omega), drop_rd l i h, nv]
theorem nv_take_succ (B : Nat) (l : List Int) (i : Nat) (h : i < l.length) : nv B (l.take (i + 1)) = nv B (l.take i) + B ^ i * (rd l (i : Int)).toNat := by
 rw [take_rd l i h, nv_append, nv, nv, List.length_take, Nat.min_eq_left (by omega)]; simp
theorem nv_set (B : Nat) (l : List Int) (i : Nat) (h : i < l.length) (d : Int) : nv B (l.set i d) = nv B (l.take i) + B ^ i * (d.toNat + B * nv B (l.drop (i + 1))) := by
 rw [List.set_eq_take_append_cons_drop, if_pos h, nv_append, nv, List.length_take, Nat.min_eq_left (by omega)]
def dl (B : Nat) (n : Nat) : List Int := if h : n = 0 ∨ B < 2 then [] else ((n % B : Nat) : Int) :: dl B (n / B)
termination_by n
decreasing_by exact Nat.div_lt_self (by omega) (by omega)
theorem dl_zero (B : Nat) : dl B 0 = [] := by unfold dl; simp
theorem dl_pos {B n : Nat} (hB : 2 ≤ B) (h : n ≠ 0) : dl B n = ((n % B : Nat) : Int) :: dl B (n / B) := by
 rw [dl]; rw [dif_neg (by omega)]
theorem Dig.dl {B : Nat} (hB : 2 ≤ B) (n : Nat) : Dig B (dl B n) := by
 induction n using Nat.strongRecOn with
 | _ n ih =>
  by_cases h : n = 0
  ·subst h; rw [dl_zero]; exact Dig.nil B
  ·rw [dl_pos hB h]
   have := Nat.mod_lt n (show B > 0 by omega)
   exact Dig.cons (by omega) (by omega) (ih _ (Nat.div_lt_self (by omega) (by omega)))
theorem nv_dl {B : Nat} (hB : 2 ≤ B) (n : Nat) : nv B (dl B n) = n := by
 induction n using Nat.strongRecOn with
 | _ n ih =>
  by_cases h : n = 0
  ·subst h; rw [dl_zero]; rfl
  ·rw [dl_pos hB h, nv, ih _ (Nat.div_lt_self (by omega) (by omega)), Int.toNat_natCast]
   exact Nat.mod_add_div n B
def Norm (l : List Int) : Prop := l.getLast? ≠ some 0
theorem Norm.tail {d e : Int} {l : List Int} (h : Norm (d :: e :: l)) : Norm (e :: l) := by
 unfold Norm at h ⊢; rwa [List.getLast?_cons_cons] at h
theorem nv_pos {B : Nat} (hB : 2 ≤ B) : ∀ {l : List Int}, Dig B l → Norm l → l ≠ [] → nv B l ≠ 0
 | [], _, _, h => absurd rfl h
 | [d], hd, hn, _ => by
  have := hd.head
  have : d ≠ 0 := by intro e; exact hn (by simp [e])
  simp only [nv]; omega
 | d :: e :: t, hd, hn, _ => by
  have := nv_pos hB hd.tail hn.tail (by simp)
  rw [nv]
  intro hz
  have h2 : B * nv B (e :: t) = 0 := by omega
  rcases Nat.mul_eq_zero.1 h2 with h | h <;> omega
theorem dl_nv {B : Nat} (hB : 2 ≤ B) : ∀ {l : List Int}, Dig B l → Norm l → dl B (nv B l) = l
 | [], _, _ => by rw [nv, dl_zero]
 | d :: t, hd, hn => by
  have hp := nv_pos hB hd hn (by simp)
  have hh := hd.head
  rw [dl_pos hB hp]
  have e1 : nv B (d :: t) % B = d.toNat := by rw [nv, Nat.add_mul_mod_self_left, Nat.mod_eq_of_lt (by omega)]
  have e2 : nv B (d :: t) / B = nv B t := by rw [nv, Nat.add_mul_div_left _ _ (by omega), Nat.div_eq_of_lt (by omega), Nat.zero_add]
  rw [e1, e2]
  have h3 : dl B (nv B t) = t := by
   cases t with
   | nil => rw [nv, dl_zero]
   | cons e t => exact dl_nv hB hd.tail hn.tail
  rw [h3]
  congr 1
  omega
theorem dl_ne {B n : Nat} (hB : 2 ≤ B) (h : n ≠ 0) : dl B n ≠ [] := by rw [dl_pos hB h]; simp
theorem dl_norm {B : Nat} (hB : 2 ≤ B) (n : Nat) : Norm (dl B n) := by
 induction n using Nat.strongRecOn with
 | _ n ih =>
  by_cases h : n = 0
  ·subst h; rw [dl_zero]; simp [Norm]
  ·rw [dl_pos hB h]
   by_cases h2 : n / B = 0
   ·rw [h2, dl_zero]
    simp only [Norm, List.getLast?_singleton, ne_eq, Option.some.injEq]
    have h3 := Nat.mod_add_div n B
    rw [h2] at h3
    omega
   ·have h3 := ih _ (Nat.div_lt_self (by omega) (show 1 < B by omega))
    cases he : dl B (n / B) with
    | nil => exact absurd he (dl_ne hB h2)
    | cons a b => rw [he] at h3; unfold Norm at h3 ⊢; rwa [List.getLast?_cons_cons]
theorem dl_len_lt {B n : Nat} (hB : 2 ≤ B) : n < B ^ (dl B n).length := by
 have h := nv_lt (by omega) (Dig.dl hB n); rwa [nv_dl hB] at h
theorem dl_len_ge {B n : Nat} (hB : 2 ≤ B) (h : n ≠ 0) : B ^ ((dl B n).length - 1) ≤ n := by
 induction n using Nat.strongRecOn with
 | _ n ih =>
  rw [dl_pos hB h, List.length_cons, Nat.add_sub_cancel]
  by_cases h2 : n / B = 0
  ·rw [h2, dl_zero]; simp; omega
  ·have h3 := ih _ (Nat.div_lt_self (by omega) (show 1 < B by omega)) h2
   have h4 : (dl B (n / B)).length ≠ 0 := fun e => dl_ne hB h2 (List.eq_nil_of_length_eq_zero e)
   have h5 : B ^ (dl B (n / B)).length = B ^ ((dl B (n / B)).length - 1) * B := by rw [← Nat.pow_succ]; congr 1; omega
   rw [h5]
   exact Nat.le_trans (Nat.mul_le_mul_right B h3) (Nat.div_mul_le_self n B)
theorem dl_len_le {B n m : Nat} (hB : 2 ≤ B) (h : n < B ^ m) : (dl B n).length ≤ m := by
 by_cases h0 : n = 0
 ·subst h0; rw [dl_zero]; simp
 ·have h1 := dl_len_ge hB h0
  by_cases hl : (dl B n).length ≤ m
  ·exact hl
  ·exfalso
   have : B ^ m ≤ B ^ ((dl B n).length - 1) := Nat.pow_le_pow_right (by omega) (by omega)
   omega
theorem dl_eq_nil {B n : Nat} (hB : 2 ≤ B) : dl B n = [] ↔ n = 0 := by
 constructor
 ·intro h; by_cases h0 : n = 0
  ·exact h0
  ·exact absurd h (dl_ne hB h0)
 ·rintro rfl; exact dl_zero B
theorem nv_snoc_zero (B : Nat) (l : List Int) : nv B (l ++ [0]) = nv B l := by rw [nv_append]; simp [nv]
theorem last_cases (l : List Int) : l = [] ∨ ∃ t d, l = t ++ [d] := by
 rcases List.eq_nil_or_concat l with h | ⟨t, d, h⟩
 ·exact .inl h
 ·exact .inr ⟨t, d, by simpa using h⟩
def bl (n : Nat) : Nat := if n = 0 then 0 else n.log2 + 1
theorem lt_two_bl (n : Nat) : n < 2 ^ bl n := by
 unfold bl; split
 ·subst_vars; simp
 ·exact Nat.lt_log2_self
theorem two_bl_le {n : Nat} (h : n ≠ 0) : 2 ^ (bl n - 1) ≤ n := by
 unfold bl; rw [if_neg h, Nat.add_sub_cancel]; exact Nat.log2_self_le h
theorem bl_eq {n k : Nat} (h0 : 2 ^ k ≤ n) (h1 : n < 2 ^ (k + 1)) : bl n = k + 1 := by
 have hn : n ≠ 0 := by have := Nat.two_pow_pos k; omega
 unfold bl; rw [if_neg hn]
 have h2 := Nat.log2_self_le hn
 have h3 := @Nat.lt_log2_self n
 have h4 : ¬ n.log2 + 1 ≤ k := fun h => by have := Nat.pow_le_pow_right (show 0 < 2 by omega) h; omega
 have h5 : ¬ k + 1 ≤ n.log2 := fun h => by have := Nat.pow_le_pow_right (show 0 < 2 by omega) h; omega
 omega
theorem bl_pos {n : Nat} (h : n ≠ 0) : 1 ≤ bl n := by unfold bl; rw [if_neg h]; omega
theorem bl_le {n k : Nat} (h : n < 2 ^ k) : bl n ≤ k := by
 by_cases h0 : n = 0
 ·subst h0; simp [bl]
 ·have := two_bl_le h0
  by_cases hk : bl n ≤ k
  ·exact hk
  ·have : 2 ^ k ≤ 2 ^ (bl n - 1) := Nat.pow_le_pow_right (by omega) (by omega)
   omega
theorem bl_mono {m n : Nat} (h : m ≤ n) : bl m ≤ bl n := bl_le (Nat.lt_of_le_of_lt h (lt_two_bl n))
theorem bl_mul_pow {n : Nat} (h : n ≠ 0) (k : Nat) : bl (n * 2 ^ k) = bl n + k := by
 have h0 := two_bl_le h
 have h1 := lt_two_bl n
 have hp := bl_pos h
 have e : bl n + k = (bl n - 1 + k) + 1 := by omega
 rw [e]
 refine bl_eq ?_ ?_
 ·rw [Nat.pow_add]; exact Nat.mul_le_mul_right _ h0
 ·rw [show bl n - 1 + k + 1 = bl n + k by omega, Nat.pow_add]
  exact Nat.mul_lt_mul_of_pos_right h1 (Nat.two_pow_pos k)
end Go.Proofs.YtfmjdoofopamkaaGreatDoor.Plain
namespace Go.Proofs.YtfmjdoofopamkaaGreatDoor.Plain
open Go.RowKit Go.Proofs.YtfmjdoofopamkaaGreatDoorW.PrintWords Go.Proofs.YtfmjdoofopamkaaGreatDoorW.PrintLast Go.Proofs.YtfmjdoofopamkaaGreatDoorW.PrintMore Go.Proofs.YtfmjdoofopamkaaGreatDoor.W
set_option linter.unusedVariables false
set_option linter.unusedSimpArgs false
abbrev B32 : Nat := 4294967296
theorem b32 : 2 ≤ B32 := by decide
def wl (n : Nat) : List Int := dl B32 n
theorem wl_zero : wl 0 = [] := dl_zero _
theorem wl_nil {n : Nat} : wl n = [] ↔ n = 0 := dl_eq_nil b32
theorem wl_len_pos {n : Nat} (h : n ≠ 0) : 1 ≤ (wl n).length := by
 have : (wl n).length ≠ 0 := fun e => h (wl_nil.1 (List.eq_nil_of_length_eq_zero e)); omega
def Small (n : Nat) : Prop := bl n ≤ 33554432
theorem Small.mono {m n : Nat} (h : Small n) (hm : m ≤ n) : Small m := Nat.le_trans (bl_mono hm) h
theorem pow32 (k : Nat) : B32 ^ k = 2 ^ (32 * k) := by rw [show B32 = 2 ^ 32 from rfl, ← Nat.pow_mul]
theorem wl_len_of {n : Nat} (m : Nat) (h : bl n ≤ 32 * m) : (wl n).length ≤ m := by
 refine dl_len_le b32 ?_
 rw [pow32]
 exact Nat.lt_of_lt_of_le (lt_two_bl n) (Nat.pow_le_pow_right (by omega) h)
theorem wl_len {n : Nat} (h : Small n) : (wl n).length ≤ 1048576 := wl_len_of 1048576 h
theorem trim_ev : ∀ (n : Nat) (l : List Int), l.length = n → Dig B32 l → l.length < 4611686018427387904 → Ev (fun k => weigh_trim.f k l) (wl (nv B32 l))
 | 0, l, hl, hd, hb => by
  obtain rfl := List.eq_nil_of_length_eq_zero hl
  refine Ev.step (fun k => ?_) (Ev.now _) <;> skip
  show weigh_trim.l0 (k + 1) [] = _
  simp [weigh_trim.l0, nv, wl_zero]
 | n + 1, l, hl, hd, hb => by
  rcases last_cases l with rfl | ⟨t, d, rfl⟩
  ·simp at hl
  have ht : t.length = n := by simpa using hl
  have hlen : (((t ++ [d]).length : Nat) : Int) = (t.length : Int) + 1 := by simp
  have hw : wrap64 (((t ++ [d]).length : Int) - 1) = (t.length : Int) := by
   rw [w64] <;> omega
  have hr : rd (t ++ [d]) (t.length : Int) = d := by rw [rd_nat _ _ (by simp)]; simp
  have hstep : ∀ k, weigh_trim.l0 (k + 1) (t ++ [d]) = if d = 0 then weigh_trim.l0 k t else some (t ++ [d]) := by
   intro k
   simp only [weigh_trim.l0]
   rw [if_pos (by omega), hw, if_pos (by omega), if_pos (by omega), hr]
   by_cases h0 : d = 0
   ·rw [if_pos h0, if_pos h0, if_pos (by omega)]
    congr 1
    simp
   ·rw [if_neg h0, if_neg h0]
  by_cases h0 : d = 0
  ·subst h0
   rw [nv_snoc_zero]
   refine Ev.step (f := fun k => weigh_trim.f k t) (fun k => ?_) (trim_ev n t ht hd.left (by simp at hb; omega))
   show weigh_trim.l0 (k + 1) _ = weigh_trim.l0 k t
   rw [hstep, if_pos rfl]
  ·have e : wl (nv B32 (t ++ [d])) = t ++ [d] := dl_nv b32 hd (by simp [Norm, h0])
   rw [e]
   refine Ev.step (f := fun _ => some (t ++ [d])) (fun k => ?_) (Ev.now _)
   show weigh_trim.l0 (k + 1) _ = _
   rw [hstep, if_neg h0]
theorem trim_ok {l : List Int} (hd : Dig B32 l) (hb : l.length < 4611686018427387904) : Ev (fun k => weigh_trim.f k l) (wl (nv B32 l)) := trim_ev _ l rfl hd hb
theorem natOf_ok (n : Nat) (h : n < 18446744073709551616) : Ev (fun k => weigh_natOf.f k (n : Int)) (wl n) := by
 unfold weigh_natOf.f
 have hd : Dig B32 [((n : Int)) % 4294967296, ((n : Int) / 4294967296) % 4294967296] := by
  refine Dig.cons ?_ ?_ (Dig.cons ?_ ?_ (Dig.nil _)) <;> (try unfold B32) <;> omega
 have h1 := trim_ok hd (by simp)
 have e : nv B32 [((n : Int)) % 4294967296, ((n : Int) / 4294967296) % 4294967296] = n := by simp only [nv, B32]; omega
 rw [e] at h1
 exact Ev.bind h1 (Ev.now _)
theorem wl_dig (n : Nat) : Dig B32 (wl n) := Dig.dl b32 n
theorem nv_wl (n : Nat) : nv B32 (wl n) = n := nv_dl b32 n
theorem bl_top {B j : Nat} (hB : B = 2 ^ j) (n : Nat) (l : List Int) (hl : l.length = n + 1) (hd : Dig B l) (h0 : rd l (n : Int) ≠ 0) : bl (nv B l) = j * n + bl (rd l (n : Int)).toNat := by
 have hB0 : 0 < B := by rw [hB]; exact Nat.two_pow_pos _
 have h1 := nv_at B l n (by omega)
 rw [List.drop_eq_nil_of_le (by omega), nv, Nat.mul_zero, Nat.add_zero] at h1
 have h2 := nv_lt hB0 (hd.take n)
 rw [List.length_take, Nat.min_eq_left (by omega)] at h2
 have hr := hd.rd n (by omega)
 generalize hx : (rd l (n : Int)).toNat = x at *
 have hx0 : x ≠ 0 := by omega
 have ep : B ^ n = 2 ^ (j * n) := by rw [hB, ← Nat.pow_mul]
 rw [ep] at h1 h2
 have hxl := two_bl_le hx0
 have hxu := lt_two_bl x
 have hp := bl_pos hx0
 have e : j * n + bl x = (j * n + (bl x - 1)) + 1 := by omega
 rw [e]
 refine bl_eq ?_ ?_
 ·rw [Nat.pow_add, h1]
  have := Nat.mul_le_mul_left (2 ^ (j * n)) hxl
  omega
 ·rw [show j * n + (bl x - 1) + 1 = j * n + bl x by omega, Nat.pow_add, h1]
  have := Nat.mul_le_mul_left (2 ^ (j * n)) (Nat.succ_le_of_lt hxu)
  rw [Nat.succ_eq_add_one, Nat.mul_add, Nat.mul_one] at this
  omega
theorem bitLenAux_bl : ∀ (f x : Nat), x < 2 ^ f → Lib.bitLenAux f x = bl x
 | 0, x, h => by
  have : x = 0 := by simpa using h
  subst this; rfl
 | f + 1, x, h => by
  unfold Lib.bitLenAux
  by_cases h0 : x = 0
  ·subst h0; simp [bl]
  ·rw [if_neg h0, bitLenAux_bl f (x / 2) (by rw [Nat.pow_succ] at h; omega)]
   by_cases h1 : x / 2 = 0
   ·have : x = 1 := by omega
    subst this; decide
   ·unfold bl
    rw [if_neg h0, if_neg h1]
    rw [Nat.log2_def x, if_pos (by omega)]
    omega
theorem length_ok (n : Nat) (h : Small n) : weigh_nat_length.f (wl n) = some ((bl n : Nat) : Int) := by
 unfold weigh_nat_length.f
 by_cases h0 : n = 0
 ·subst h0; rw [wl_zero]; simp [bl]
 ·have hp := wl_len_pos h0
  have hl := wl_len h
  obtain ⟨m, hm⟩ : ∃ m, (wl n).length = m + 1 := ⟨(wl n).length - 1, by omega⟩
  have hw : wrap64 (((wl n).length : Int) - 1) = (m : Int) := by rw [w64] <;> omega
  rw [if_neg (by omega), hw, if_pos (by omega), if_pos (by omega)]
  have hr := (wl_dig n).rd m (by omega)
  have hnz : rd (wl n) (m : Int) ≠ 0 := by
   have hn := dl_norm b32 n
   intro e
   apply hn
   rw [List.getLast?_eq_getElem?]
   show (wl n)[(wl n).length - 1]? = some 0
   rw [hm, Nat.add_sub_cancel, List.getElem?_eq_getElem (by omega), ← rd_nat _ _ (by omega), e]
  have hb := bl_top (B := B32) (j := 32) rfl m (wl n) hm (wl_dig n) hnz
  rw [nv_wl] at hb
  have hlen : bits_Len32.f (rd (wl n) (m : Int)) = some ((bl (rd (wl n) (m : Int)).toNat : Nat) : Int) := by
   unfold bits_Len32.f
   rw [if_pos ⟨hr.1, by simp only [B32] at hr; omega⟩]
   congr 2
   exact bitLenAux_bl 64 _ (by simp only [B32] at hr; omega)
  have hbb : bl (rd (wl n) (m : Int)).toNat ≤ 32 := bl_le (by simp only [B32] at hr; omega)
  rw [hlen]
  simp only [Option.bind_some]
  rw [w64 (x := 32 * (m : Int)) (by omega) (by omega), w64 (by omega) (by omega), hb]
  congr 1
theorem cmp_len {B : Nat} (hB : 2 ≤ B) {a b : Nat} (h : (dl B a).length < (dl B b).length) : a < b := by
 have h1 := dl_len_lt hB (n := a)
 have hb : b ≠ 0 := by rintro rfl; rw [dl_zero] at h; simp at h
 have h2 := dl_len_ge hB hb
 exact Nat.lt_of_lt_of_le h1 (Nat.le_trans (Nat.pow_le_pow_right (by omega) (by omega)) h2)
theorem cmp_at {B : Nat} (hB : 0 < B) (a b : List Int) (hl : a.length = b.length) (hda : Dig B a) (hdb : Dig B b) (i : Nat) (hi : i < a.length) (he : a.drop (i + 1) = b.drop (i + 1)) (hlt : rd a (i : Int) < rd b (i : Int)) : nv B a < nv B b := by
 rw [nv_at B a i hi, nv_at B b i (by omega), he]
 have h1 := nv_lt hB (hda.take i)
 rw [List.length_take, Nat.min_eq_left (by omega)] at h1
 have ha := hda.rd i hi
 have h2 : B ^ i * ((rd a (i : Int)).toNat + B * nv B (b.drop (i + 1)) + 1) ≤ B ^ i * ((rd b (i : Int)).toNat + B * nv B (b.drop (i + 1))) := Nat.mul_le_mul_left _ (by omega)
 rw [Nat.mul_add, Nat.mul_one] at h2
 omega
def sgn (a b : Nat) : Int := if a < b then -1 else if b < a then 1 else 0
theorem compare_loop (a b : List Int) (hl : a.length = b.length) (hda : Dig B32 a) (hdb : Dig B32 b) (hb : a.length < 4611686018427387904) :
  ∀ i : Nat, i ≤ a.length → a.drop i = b.drop i → Ev (fun k => weigh_nat_compare.l0 k a b ((i : Int) - 1)) (sgn (nv B32 a) (nv B32 b))
 | 0, _, he => by
  have : a = b := by simpa using he
  subst this
  refine Ev.step (f := fun _ => some (sgn (nv B32 a) (nv B32 a))) (fun k => ?_) (Ev.now _)
  simp only [weigh_nat_compare.l0]
  rw [if_neg (by omega)]
  simp [sgn]
 | i + 1, hi, he => by
  have e1 : ((i + 1 : Nat) : Int) - 1 = (i : Int) := by omega
  simp only [e1]
  by_cases hc : rd a (i : Int) = rd b (i : Int)
  ·have hd : a.drop i = b.drop i := by rw [drop_rd a i (by omega), drop_rd b i (by omega), hc, he]
   refine Ev.step (f := fun k => weigh_nat_compare.l0 k a b ((i : Int) - 1)) (fun k => ?_) (compare_loop a b hl hda hdb hb i (by omega) hd)
   simp only [weigh_nat_compare.l0]
   rw [if_pos (by omega), if_pos (by omega), if_pos (by omega), if_pos (by omega), if_pos hc, w64 (by omega) (by omega)]
  ·refine Ev.step (f := fun _ => some (sgn (nv B32 a) (nv B32 b))) (fun k => ?_) (Ev.now _)
   simp only [weigh_nat_compare.l0]
   rw [if_pos (by omega), if_pos (by omega), if_pos (by omega), if_pos (by omega), if_neg hc]
   by_cases hlt : rd a (i : Int) < rd b (i : Int)
   ·have := cmp_at (by decide) a b hl hda hdb i (by omega) he hlt
    rw [if_pos hlt, sgn, if_pos this]
   ·have := cmp_at (by decide) b a hl.symm hdb hda i (by omega) he.symm (by omega)
    rw [if_neg hlt, sgn, if_neg (by omega), if_pos this]
theorem compare_ok (a b : Nat) (ha : Small a) (hb : Small b) : ∃ r : Int, Ev (fun k => weigh_nat_compare.f k (wl a) (wl b)) r ∧ (r < 0 ↔ a < b) ∧ (r = 0 ↔ a = b) ∧ (r > 0 ↔ b < a) := by
 have la := wl_len ha
 have lb := wl_len hb
 by_cases h : (wl a).length = (wl b).length
 ·refine ⟨sgn a b, ?_, ?_⟩
  ·have h1 := compare_loop (wl a) (wl b) h (wl_dig a) (wl_dig b) (by omega) (wl a).length (Nat.le_refl _) (by rw [List.drop_eq_nil_of_le (by omega), List.drop_eq_nil_of_le (by omega)])
   rw [nv_wl, nv_wl] at h1
   refine Ev.congr (fun k => ?_) h1
   unfold weigh_nat_compare.f
   rw [if_pos (by omega), w64 (by omega) (by omega)]
  ·unfold sgn; split <;> (try split) <;> omega
 ·refine ⟨((wl a).length : Int) - ((wl b).length : Int), ?_, ?_⟩
  ·refine Ev.congr (fun k => ?_) (Ev.now _)
   unfold weigh_nat_compare.f
   rw [if_neg (by omega), w64 (by omega) (by omega)]
  ·rcases Nat.lt_or_gt_of_ne h with h | h
   ·have := cmp_len b32 h; omega
   ·have := cmp_len b32 h; omega
end Go.Proofs.YtfmjdoofopamkaaGreatDoor.Plain
namespace Go.Proofs.YtfmjdoofopamkaaGreatDoor.Plain
open Go.RowKit Go.Proofs.YtfmjdoofopamkaaGreatDoorW.PrintWords Go.Proofs.YtfmjdoofopamkaaGreatDoorW.PrintLast Go.Proofs.YtfmjdoofopamkaaGreatDoorW.PrintMore Go.Proofs.YtfmjdoofopamkaaGreatDoor.W
set_option linter.unusedVariables false
set_option linter.unusedSimpArgs false
theorem rd_mid (p : List Int) (h : Int) (z : List Int) (i : Int) (e : i = (p.length : Int)) : rd (p ++ h :: z) i = h := by
 subst e; rw [rd_nat _ _ (by simp)]; simp
theorem set_mid (p : List Int) (h x : Int) (z : List Int) (i : Nat) (e : i = p.length) : (p ++ h :: z).set i x = p ++ x :: z := by
 subst e; rw [List.set_append_right _ _ (Nat.le_refl _), Nat.sub_self, List.set_cons_zero]
theorem zeros_succ (m : Nat) : List.replicate (m + 1) (0 : Int) = 0 :: List.replicate m 0 := List.replicate_succ
theorem u32_or_add {h l : Int} (r : Nat) (hr : r ≤ 32) (h0 : 0 ≤ h) (h1 : h < 2 ^ r) (l0 : 0 ≤ l) (l1 : l < 4294967296) (lm : l % 2 ^ r = 0) : Go.bits .or .u32 h l = h + l := by
 have e : Go.bits .or .u32 h l = Go.bits .or .u32 l h := by
  obtain ⟨a, rfl⟩ := Int.eq_ofNat_of_zero_le h0
  obtain ⟨b, rfl⟩ := Int.eq_ofNat_of_zero_le l0
  have ha : a < 2 ^ 32 := by
   have : a < 2 ^ r := by exact_mod_cast h1
   exact Nat.lt_of_lt_of_le this (Nat.pow_le_pow_right (by omega) hr)
  have hk : ∀ n : Int, 0 ≤ n → n < 2 ^ 32 → IntKind.u32.wrap n = n := fun n h0 h1 => by rw [IntKind.wrap_u32]; omega
  rw [(bits_nat .u32 32 (by decide) hk a b ha (by omega)).2, (bits_nat .u32 32 (by decide) hk b a (by omega) ha).2, Nat.or_comm]
 rw [e]
 have hh : h < 2 ^ 32 := by
  have h2 : (2 : Int) ^ r ≤ 2 ^ 32 := by exact_mod_cast Nat.pow_le_pow_right (show 0 < 2 by omega) hr
  omega
 rw [bits_join .u32 32 (by decide) (fun n h0 h1 => by rw [IntKind.wrap_u32]; omega) r l h l0 lm (by omega) h0 h1 hh, Int.add_comm]
theorem u32_sum_lt {h l : Int} (r : Nat) (hr : r ≤ 32) (h0 : 0 ≤ h) (h1 : h < 2 ^ r) (l0 : 0 ≤ l) (l1 : l < 4294967296) (lm : l % 2 ^ r = 0) : h + l < 4294967296 := by
 have e : (4294967296 : Int) = 2 ^ r * 2 ^ (32 - r) := by
  rw [← Int.pow_add, show r + (32 - r) = 32 by omega]; rfl
 have hq := Int.mul_ediv_add_emod l (2 ^ r)
 rw [lm, Int.add_zero] at hq
 have hp : (0 : Int) < 2 ^ r := by exact_mod_cast Nat.two_pow_pos r
 generalize (2 : Int) ^ r = R at *
 generalize (2 : Int) ^ (32 - r) = S at *
 generalize hQ : l / R = Q at hq
 have hQl : Q + 1 ≤ S := by
  by_cases hc : Q + 1 ≤ S
  ·exact hc
  ·exfalso
   have := Int.mul_le_mul_of_nonneg_left (show S ≤ Q by omega) (show (0 : Int) ≤ R by omega)
   omega
 have := Int.mul_le_mul_of_nonneg_left hQl (show (0 : Int) ≤ R by omega)
 rw [Int.mul_add, Int.mul_one] at this
 omega
theorem sum_digits (h v : Int) (h0 : 0 ≤ h) (v0 : 0 ≤ v) : (h + v % 4294967296).toNat + 4294967296 * (v / 4294967296).toNat = h.toNat + v.toNat := by omega
theorem rest_zero (r : Nat) (hr : r ≤ 32) (w : Int) : w * 2 ^ r % 4294967296 % 2 ^ r = 0 := by
 have e : (4294967296 : Int) = 2 ^ r * 2 ^ (32 - r) := by
  rw [← Int.pow_add, show r + (32 - r) = 32 by omega]; rfl
 rw [Int.emod_emod_of_dvd _ ⟨_, e⟩, Int.mul_emod_left]
theorem up_i1 (i n : Nat) (hi : i < 1073741824) (hn : n < 1073741824) : wrap64 ((i : Int) + wrap64 ((n : Int).tdiv 32)) = ((i + n / 32 : Nat) : Int) := by
 rw [Int.tdiv_eq_ediv_of_nonneg (by omega), w64 (x := (n : Int) / 32) (by omega) (by omega), w64 (by omega) (by omega)]; omega
theorem up_i2 (j : Nat) (h : j < 4294967296) : wrap64 ((j : Int) + 1) = ((j + 1 : Nat) : Int) := by rw [w64 (by omega) (by omega)]; omega
theorem shl_word (n : Nat) (w v : Int) (w0 : 0 ≤ w) (w1 : w < 4294967296) (hv : v = w * 2 ^ (n % 32)) (v1 : v < 18446744073709551616) (v0 : 0 ≤ v) : shl .u64 (IntKind.u64.wrap w) ((n : Int).tmod 32) = v := by
 unfold shl
 have e1 : min ((n : Int).tmod 32).toNat IntKind.u64.bits = n % 32 := by
  rw [Int.tmod_eq_emod_of_nonneg (by omega)]
  show min _ 64 = _
  omega
 rw [e1, wu64 (x := w) w0 (by omega), ← hv, wu64 v0 (by omega)]
theorem up_loop (n : Nat) (hn : n < 1073741824) (a : List Int) (hda : Dig B32 a) (hl : a.length < 1073741824) :
  ∀ (m i : Nat) (p : List Int) (h : Int), i + m = a.length → p.length = i + n / 32 → Dig B32 p → 0 ≤ h → h < 2 ^ (n % 32) → nv B32 (p ++ [h]) = nv B32 (a.take i) * 2 ^ n →
   Ev (fun k => weigh_nat_up.l0 k (n : Int) (p ++ h :: List.replicate m 0) a (a.length : Int) (i : Int)) (wl (nv B32 a * 2 ^ n))
 | 0, i, p, h, hi, hp, hdp, h0, h1, hv => by
  have hr : n % 32 < 32 := Nat.mod_lt _ (by omega)
  have h2 : (2 : Int) ^ (n % 32) ≤ 2 ^ 32 := by exact_mod_cast Nat.pow_le_pow_right (show 0 < 2 by omega) (Nat.le_of_lt hr)
  have hd : Dig B32 (p ++ [h]) := Dig.append hdp (Dig.cons h0 (by unfold B32; omega) (Dig.nil _))
  have ht := trim_ok hd (by simp; omega)
  rw [hv, List.take_of_length_le (by omega)] at ht
  refine Ev.step (fun k => ?_) (Ev.bind ht (Ev.now _))
  simp only [weigh_nat_up.l0]
  rw [if_neg (by omega)]
  rfl
 | m + 1, i, p, h, hi, hp, hdp, h0, h1, hv => by
  have hi1 : i < 1073741824 := by omega
  have eq1 := up_i1 i n hi1 hn
  have hq1 : i + n / 32 < 4294967296 := by clear h1 hv; omega
  have eq2 := up_i2 (i + n / 32) hq1
  have hlen : ((p ++ h :: List.replicate (m + 1) 0).length : Int) = ((i + n / 32 : Nat) : Int) + 1 + (m + 1) := by
   clear h1 hv
   rw [List.length_append, List.length_cons, List.length_replicate]; omega
  have HV := Aside0.mk hv
  clear hv
  obtain ⟨R, hR⟩ : ∃ R : Int, R = 2 ^ (n % 32) := ⟨_, rfl⟩
  have hp2 : (0 : Int) < R := by rw [hR]; exact_mod_cast Nat.two_pow_pos _
  have h232 : R ≤ 2147483648 := by
   rw [hR, show (2147483648 : Int) = 2 ^ 31 from rfl]; exact_mod_cast Nat.pow_le_pow_right (show 0 < 2 by omega) (show n % 32 ≤ 31 by clear h1 hR; omega)
  rw [← hR] at h1
  have HR := Aside0.mk hR
  clear hR
  obtain ⟨w, hw⟩ : ∃ w, rd a (i : Int) = w := ⟨_, rfl⟩
  have hwd := hda.rd i (by omega)
  rw [hw] at hwd
  have hw1 : w < 4294967296 := hwd.2
  have hw0 : 0 ≤ w := hwd.1
  clear hwd
  obtain ⟨v, hv0⟩ : ∃ v : Int, v = w * R := ⟨_, rfl⟩
  have hvb : 0 ≤ v := by rw [hv0]; exact Int.mul_nonneg hw0 (by omega)
  have hvt : v < 4294967296 * R := by rw [hv0]; exact Int.mul_lt_mul_of_pos_right hw1 hp2
  have HV0 := Aside0.mk hv0
  clear hv0
  have hshl : shl .u64 (IntKind.u64.wrap w) ((n : Int).tmod 32) = v := shl_word n w v hw0 hw1 (by rw [HV0.out, HR.out]) (by omega) hvb
  have hmod : v % 4294967296 % 2 ^ (n % 32) = 0 := by rw [HV0.out, HR.out]; exact rest_zero _ (by omega) w
  have h1' : h < 2 ^ (n % 32) := by rw [← HR.out]; exact h1
  have hr32 : n % 32 ≤ 32 := by clear h1' hmod; omega
  have hor : Go.bits .or .u32 h (v % 4294967296) = h + v % 4294967296 := u32_or_add (n % 32) hr32 h0 h1' (by clear h1' hmod; omega) (by clear h1' hmod; omega) hmod
  have hsum : h + v % 4294967296 < 4294967296 := u32_sum_lt (n % 32) hr32 h0 h1' (by clear h1' hmod; omega) (by clear h1' hmod; omega) hmod
  clear h1' hmod
  have hdiv : v / 4294967296 % 4294967296 = v / 4294967296 := by omega
  have hhigh : v / 4294967296 < R := by omega
  have hdp' : Dig B32 (p ++ [h + v % 4294967296]) := Dig.append hdp (Dig.cons (by omega) (by unfold B32; omega) (Dig.nil _))
  have hv' : nv B32 ((p ++ [h + v % 4294967296]) ++ [v / 4294967296]) = nv B32 (a.take (i + 1)) * 2 ^ n := by
   rw [nv_take_succ B32 a i (by omega), hw, Nat.add_mul, ← HV.out]
   rw [nv_append, nv_append, nv_append, List.length_append, List.length_singleton]
   simp only [nv, Nat.mul_zero, Nat.add_zero]
   have e2 : B32 ^ i * w.toNat * 2 ^ n = B32 ^ p.length * v.toNat := by
    have e3 : 2 ^ n = B32 ^ (n / 32) * 2 ^ (n % 32) := by
     rw [pow32, ← Nat.pow_add]; congr 1; exact (Nat.div_add_mod n 32).symm
    have e4 : v.toNat = w.toNat * 2 ^ (n % 32) := by
     have : (v.toNat : Int) = ((w.toNat * 2 ^ (n % 32) : Nat) : Int) := by
      push_cast
      rw [Int.toNat_of_nonneg hvb, Int.toNat_of_nonneg hw0, HV0.out, HR.out]
     exact_mod_cast this
    rw [e3, e4, hp, Nat.pow_add]
    simp only [Nat.mul_assoc, Nat.mul_left_comm]
   have e5 : (h + v % 4294967296).toNat + B32 * (v / 4294967296).toNat = h.toNat + v.toNat := sum_digits h v h0 hvb
   rw [e2, Nat.pow_succ, Nat.add_assoc, Nat.mul_assoc, ← Nat.mul_add, e5, Nat.mul_add, Nat.add_assoc]
  have ih := up_loop n hn a hda hl m (i + 1) (p ++ [h + v % 4294967296]) (v / 4294967296) (by omega) (by clear hv'; simp; omega) hdp' (by clear hv'; omega) (by rw [← HR.out]; exact hhigh) hv'
  refine Ev.step (fun k => ?_) ih
  clear ih hv' h1 hp2 h232 hvb hvt hhigh hsum hdp hdp'
  simp only [weigh_nat_up.l0]
  rw [if_pos (by omega), if_pos (by omega), if_pos (by omega), if_pos (Int.tmod_nonneg _ (by omega)), eq1, if_pos (by omega), if_pos (by rw [hlen]; omega), eq2, if_pos (by omega), if_pos (by rw [hlen]; omega)]
  rw [rd_mid p h _ _ (by omega), hw, hshl, hor, hdiv, w64 (x := (i : Int) + 1) (by omega) (by omega)]
  rw [set_mid p h _ _ _ (by omega), zeros_succ]
  have e6 : p ++ (h + v % 4294967296) :: 0 :: List.replicate m 0 = (p ++ [h + v % 4294967296]) ++ 0 :: List.replicate m 0 := by simp
  rw [e6, set_mid _ _ _ _ _ (by simp; omega)]
  rfl
theorem up_ok (a : Nat) (n : Int) (ha : Small a) (hn : n < 1073741824) : Ev (fun k => weigh_nat_up.f k (wl a) n) (wl (a * 2 ^ n.toNat)) := by
 have la := wl_len ha
 by_cases hc : a = 0 ∨ n ≤ 0
 ·have e : wl (a * 2 ^ n.toNat) = wl a := by
   rcases hc with rfl | h
   ·simp
   ·rw [show n.toNat = 0 by omega]; simp
  rw [e]
  refine Ev.step (f := fun _ => some (wl a)) (fun k => ?_) (Ev.now _)
  unfold weigh_nat_up.f
  by_cases h0 : a = 0
  ·subst h0; rw [wl_zero, if_pos (by simp)]; simp [weigh_nat_up.j0]
  ·have := wl_len_pos h0
   rw [if_neg (by omega)]
   simp only [weigh_nat_up.j0]
   rw [if_pos (by simp; omega)]
 ·have h0 : a ≠ 0 := fun h => hc (.inl h)
  have h1 := wl_len_pos h0
  obtain ⟨m, rfl⟩ : ∃ m : Nat, n = m := ⟨n.toNat, by omega⟩
  have hl := up_loop m (by omega) (wl a) (wl_dig a) (by omega) (wl a).length 0 (List.replicate (m / 32) 0) 0 (by omega) (by simp) (Dig.zeros _ _ (by decide)) (by omega) (by exact_mod_cast Nat.two_pow_pos _) (by rw [nv_append, nv_zeros]; simp [nv])
  rw [nv_wl] at hl
  refine Ev.step (fun k => ?_) hl
  unfold weigh_nat_up.f
  rw [if_neg (by omega)]
  simp only [weigh_nat_up.j0]
  have e1 : wrap64 (wrap64 (((wl a).length : Int) + wrap64 ((m : Int).tdiv 32)) + 1) = (((wl a).length + m / 32 + 1 : Nat) : Int) := by
   rw [Int.tdiv_eq_ediv_of_nonneg (by omega), w64 (x := (m : Int) / 32) (by omega) (by omega), w64 (x := ((wl a).length : Int) + (m : Int) / 32) (by omega) (by omega), w64 (by omega) (by omega)]; omega
  rw [if_neg (by simp; omega), e1, if_pos (by omega), if_pos (by omega)]
  congr 1
  rw [Int.toNat_natCast, show (wl a).length + m / 32 + 1 = m / 32 + ((wl a).length + 1) by omega, ← List.replicate_append_replicate, zeros_succ]
end Go.Proofs.YtfmjdoofopamkaaGreatDoor.Plain
namespace Go.Proofs.YtfmjdoofopamkaaGreatDoor.Plain
open Go.RowKit Go.Proofs.YtfmjdoofopamkaaGreatDoorW.PrintWords Go.Proofs.YtfmjdoofopamkaaGreatDoorW.PrintLast Go.Proofs.YtfmjdoofopamkaaGreatDoorW.PrintMore Go.Proofs.YtfmjdoofopamkaaGreatDoor.W
set_option linter.unusedVariables false
set_option linter.unusedSimpArgs false
theorem rd_out (l : List Int) (i : Nat) (h : l.length ≤ i) : rd l (i : Int) = 0 := by
 simp [rd, List.getD_eq_getElem?_getD, List.getElem?_eq_none h]
theorem nv_take_any (B : Nat) (l : List Int) (i : Nat) : nv B (l.take (i + 1)) = nv B (l.take i) + B ^ i * (rd l (i : Int)).toNat := by
 by_cases h : i < l.length
 ·exact nv_take_succ B l i h
 ·rw [rd_out l i (by omega), List.take_of_length_le (by omega), List.take_of_length_le (by omega)]; simp
theorem sub_word (x y c : Int) (x0 : 0 ≤ x) (x1 : x < 4294967296) (y0 : 0 ≤ y) (y1 : y < 4294967296) (hc : c = 0 ∨ c = 1) :
  ∃ d e : Int, IntKind.u64.wrap (IntKind.u64.wrap (IntKind.u64.wrap x - c) - IntKind.u64.wrap y) % 4294967296 = d ∧ IntKind.u64.wrap (IntKind.u64.wrap (IntKind.u64.wrap x - c) - IntKind.u64.wrap y) / 9223372036854775808 = e ∧
   0 ≤ d ∧ d < 4294967296 ∧ (e = 0 ∨ e = 1) ∧ x + e * 4294967296 = d + y + c := by
 have w : ∀ z : Int, IntKind.u64.wrap z = z % 18446744073709551616 := fun z => by simp [IntKind.wrap, IntKind.bits, IntKind.signed]
 simp only [w]
 refine ⟨_, _, rfl, rfl, ?_⟩
 rcases hc with rfl | rfl <;> omega
theorem sub_word' (x c : Int) (x0 : 0 ≤ x) (x1 : x < 4294967296) (hc : c = 0 ∨ c = 1) :
  ∃ d e : Int, IntKind.u64.wrap (IntKind.u64.wrap x - c) % 4294967296 = d ∧ IntKind.u64.wrap (IntKind.u64.wrap x - c) / 9223372036854775808 = e ∧
   0 ≤ d ∧ d < 4294967296 ∧ (e = 0 ∨ e = 1) ∧ x + e * 4294967296 = d + 0 + c := by
 have w : ∀ z : Int, IntKind.u64.wrap z = z % 18446744073709551616 := fun z => by simp [IntKind.wrap, IntKind.bits, IntKind.signed]
 simp only [w]
 refine ⟨_, _, rfl, rfl, ?_⟩
 rcases hc with rfl | rfl <;> omega
theorem less_val {X Y P : Nat} {x y d : Int} (e c : Int) (B E : Nat) (x0 : 0 ≤ x) (y0 : 0 ≤ y) (d0 : 0 ≤ d) (he : e = 0 ∨ e = 1) (hc : c = 0 ∨ c = 1) (hB : B = 4294967296) (h : x + e * 4294967296 = d + y + c) (hv : X + E * c.toNat = P + Y) :
  X + E * x.toNat + E * B * e.toNat = P + E * d.toNat + (Y + E * y.toNat) := by
 have h2 : x.toNat + 4294967296 * e.toNat = d.toNat + y.toNat + c.toNat := by rcases he with rfl | rfl <;> rcases hc with rfl | rfl <;> omega
 have h3 := congrArg (E * ·) h2
 simp only [Nat.mul_add] at h3
 rw [← Nat.mul_assoc] at h3
 rw [hB]
 omega
theorem less_loop (a b : List Int) (hda : Dig B32 a) (hdb : Dig B32 b) (hl : a.length < 1073741824) (hbl : b.length ≤ a.length) (hle : nv B32 b ≤ nv B32 a) :
  ∀ (m i : Nat) (p : List Int) (c : Int), i + m = a.length → p.length = i → Dig B32 p → (c = 0 ∨ c = 1) → nv B32 (a.take i) + B32 ^ i * c.toNat = nv B32 p + nv B32 (b.take i) →
   Ev (fun k => weigh_nat_less.l0 k b (p ++ a.drop i) c (a.length : Int) (i : Int)) (wl (nv B32 a - nv B32 b))
 | 0, i, p, c, hi, hp, hdp, hc, hv => by
  have hd0 : a.drop i = [] := List.drop_eq_nil_of_le (by omega)
  rw [List.take_of_length_le (by omega), List.take_of_length_le (by omega)] at hv
  have hpl := nv_lt (show 0 < B32 by decide) hdp
  rw [hp] at hpl
  have e : nv B32 p = nv B32 a - nv B32 b := by
   rcases hc with rfl | rfl
   ·simp at hv; omega
   ·simp at hv; omega
  have ht := trim_ok hdp (by omega)
  rw [e] at ht
  rw [hd0, List.append_nil]
  refine Ev.step (fun k => ?_) (Ev.bind ht (Ev.now _))
  simp only [weigh_nat_less.l0]
  rw [if_neg (by omega)]
 | m + 1, i, p, c, hi, hp, hdp, hc, hv => by
  have hlen : (p ++ a.drop i).length = a.length := by rw [List.length_append, List.length_drop]; omega
  have hdr : a.drop i = rd a (i : Int) :: a.drop (i + 1) := drop_rd a i (by omega)
  have hx := hda.rd i (by omega)
  have hrd : rd (p ++ a.drop i) (i : Int) = rd a (i : Int) := by rw [hdr]; exact rd_mid _ _ _ _ (by omega)
  have hset : ∀ z : Int, (p ++ a.drop i).set i z = (p ++ [z]) ++ a.drop (i + 1) := fun z => by rw [hdr, set_mid _ _ _ _ _ (by omega)]; simp
  obtain ⟨x, hxe⟩ : ∃ x, rd a (i : Int) = x := ⟨_, rfl⟩
  rw [hxe] at hx hrd
  by_cases hb : i < b.length
  ·have hy := hdb.rd i hb
   obtain ⟨y, hye⟩ : ∃ y, rd b (i : Int) = y := ⟨_, rfl⟩
   rw [hye] at hy
   obtain ⟨d, e, h1, h2, d0, d1, he, hh⟩ := sub_word x y c hx.1 hx.2 hy.1 hy.2 hc
   have hv' : nv B32 (a.take (i + 1)) + B32 ^ (i + 1) * e.toNat = nv B32 (p ++ [d]) + nv B32 (b.take (i + 1)) := by
    rw [nv_take_any, nv_take_any, hxe, hye, nv_append, hp, Nat.pow_succ]
    simp only [nv, Nat.mul_zero, Nat.add_zero]
    exact less_val e c B32 (B32 ^ i) hx.1 hy.1 d0 he hc rfl hh hv
   have ih := less_loop a b hda hdb hl hbl hle m (i + 1) (p ++ [d]) e (by omega) (by simp; omega) (Dig.append hdp (Dig.cons d0 d1 (Dig.nil _))) he hv'
   refine Ev.step (fun k => ?_) ih
   simp only [weigh_nat_less.l0]
   rw [if_pos (by omega), if_pos (by omega), if_pos (by omega), if_pos (by omega), hrd, hye, h1, h2, Int.toNat_natCast, hset, w64 (by omega) (by omega)]
   rfl
  ·have hye : rd b (i : Int) = 0 := rd_out b i (by omega)
   obtain ⟨d, e, h1, h2, d0, d1, he, hh⟩ := sub_word' x c hx.1 hx.2 hc
   have hv' : nv B32 (a.take (i + 1)) + B32 ^ (i + 1) * e.toNat = nv B32 (p ++ [d]) + nv B32 (b.take (i + 1)) := by
    rw [nv_take_any, nv_take_any, hxe, hye, nv_append, hp, Nat.pow_succ]
    simp only [nv, Nat.mul_zero, Nat.add_zero]
    exact less_val e c B32 (B32 ^ i) hx.1 (Int.le_refl 0) d0 he hc rfl hh hv
   have ih := less_loop a b hda hdb hl hbl hle m (i + 1) (p ++ [d]) e (by omega) (by simp; omega) (Dig.append hdp (Dig.cons d0 d1 (Dig.nil _))) he hv'
   refine Ev.step (fun k => ?_) ih
   simp only [weigh_nat_less.l0]
   rw [if_pos (by omega), if_pos (by omega), if_pos (by omega), if_neg (by omega), hrd, h1, h2, Int.toNat_natCast, hset, w64 (by omega) (by omega)]
   rfl
theorem wl_len_mono {a b : Nat} (h : b ≤ a) : (wl b).length ≤ (wl a).length := by
 by_cases hc : (wl b).length ≤ (wl a).length
 ·exact hc
 ·have := cmp_len (B := B32) b32 (a := a) (b := b) (by unfold wl at hc; omega); omega
theorem less_ok (a b : Nat) (ha : Small a) (h : b ≤ a) : Ev (fun k => weigh_nat_less.f k (wl a) (wl b)) (wl (a - b)) := by
 have la := wl_len ha
 have hl := less_loop (wl a) (wl b) (wl_dig a) (wl_dig b) (by omega) (wl_len_mono h) (by rw [nv_wl, nv_wl]; exact h) (wl a).length 0 [] 0 (by omega) rfl (Dig.nil _) (.inl rfl) (by simp [nv])
 rw [nv_wl, nv_wl] at hl
 refine Ev.congr (fun k => ?_) hl
 unfold weigh_nat_less.f
 rw [if_pos (by simp; omega)]
 simp
theorem over_or (Q i : Nat) (hi : i < 63) (hQ : Q < 9223372036854775808) (hm : Q % 2 ^ (i + 1) = 0) : Go.bits .or .u64 (Q : Int) (shl .u64 1 (i : Int)) = ((Q + 2 ^ i : Nat) : Int) ∧ Q + 2 ^ i < 9223372036854775808 := by
 have hp : 2 ^ i < 2 ^ 63 := Nat.pow_lt_pow_right (by omega) hi
 have hs : shl .u64 1 (i : Int) = ((2 ^ i : Nat) : Int) := by
  unfold shl
  rw [show min ((i : Nat) : Int).toNat IntKind.u64.bits = i by show min _ 64 = _; omega, Int.one_mul]
  rw [show ((2 : Int) ^ i) = ((2 ^ i : Nat) : Int) by push_cast; rfl]
  rw [wu64 (by omega) (by omega)]
 rw [hs]
 have hk : ∀ n : Int, 0 ≤ n → n < 2 ^ 64 → IntKind.u64.wrap n = n := fun n h0 h1 => wu64 h0 (by omega)
 have h1 : Q = 2 ^ (i + 1) * (Q / 2 ^ (i + 1)) := by have := Nat.div_add_mod Q (2 ^ (i + 1)); omega
 have h2 : (Q ||| 2 ^ i) = Q + 2 ^ i := by
  conv => lhs; rw [h1]
  rw [← Nat.two_pow_add_eq_or_of_lt (by rw [Nat.pow_succ]; have := Nat.two_pow_pos i; omega), ← h1]
 rw [(bits_nat .u64 64 (by decide) hk Q (2 ^ i) (by omega) (by omega)).2, h2]
 refine ⟨rfl, ?_⟩
 have h3 : 9223372036854775808 = 2 ^ (i + 1) * 2 ^ (62 - i) := by rw [← Nat.pow_add, show i + 1 + (62 - i) = 63 by omega]
 have hq : Q / 2 ^ (i + 1) < 2 ^ (62 - i) := Nat.div_lt_of_lt_mul (by rw [← h3]; exact hQ)
 have h4 := Nat.mul_le_mul_left (2 ^ (i + 1)) (Nat.succ_le_of_lt hq)
 rw [← h3, Nat.succ_eq_add_one, Nat.mul_add, ← h1, Nat.mul_one] at h4
 have h5 := Nat.two_pow_pos i
 rw [Nat.pow_succ] at h4
 omega
theorem small_up {b m : Nat} (hb : b ≠ 0) (h : bl b + m ≤ 33554432) : Small (b * 2 ^ m) := by unfold Small; rw [bl_mul_pow hb]; exact h
theorem over_loop (b : Nat) (hb : b ≠ 0) : ∀ (m a Q : Nat), m ≤ 63 → bl b + m ≤ 33554433 → Small a → a < b * 2 ^ m → Q % 2 ^ m = 0 → Q < 9223372036854775808 →
  Ev (fun k => weigh_nat_over.l0 k (wl a) (wl b) (Q : Int) ((m : Int) - 1)) (((Q + a / b : Nat) : Int), wl (a % b))
 | 0, a, Q, hm, hs, ha, hlt, hQ, hQ1 => by
  have hab : a < b := by simpa using hlt
  rw [Nat.div_eq_of_lt hab, Nat.mod_eq_of_lt hab]
  refine Ev.step (f := fun _ => some ((Q : Int), wl a)) (fun k => ?_) (Ev.now _)
  simp only [weigh_nat_over.l0]
  rw [if_neg (by omega)]
 | m + 1, a, Q, hm, hs, ha, hlt, hQ, hQ1 => by
  have hsb : Small b := by unfold Small; omega
  have hsc : Small (b * 2 ^ m) := small_up hb (by omega)
  have e0 : ((m + 1 : Nat) : Int) - 1 = (m : Int) := by omega
  have hup := up_ok b (m : Int) hsb (by omega)
  rw [Int.toNat_natCast] at hup
  obtain ⟨r, hcmp, hr1, hr2, hr3⟩ := compare_ok a (b * 2 ^ m) ha hsc
  have hQ2 : Q % 2 ^ m = 0 := by
   have := Nat.mod_mod_of_dvd Q (show 2 ^ m ∣ 2 ^ (m + 1) from Nat.pow_dvd_pow 2 (by omega))
   rw [hQ] at this; simpa using this.symm
  have hw : wrap64 ((m : Int) - 1) = (m : Int) - 1 := w64 (by omega) (by omega)
  by_cases hge : b * 2 ^ m ≤ a
  ·have hless := less_ok a (b * 2 ^ m) ha hge
   obtain ⟨ho, ho2⟩ := over_or Q m (by omega) hQ1 hQ
   have hlt' : a - b * 2 ^ m < b * 2 ^ m := by rw [Nat.pow_succ] at hlt; rw [← Nat.mul_assoc] at hlt; omega
   have hQ' : (Q + 2 ^ m) % 2 ^ m = 0 := by rw [Nat.add_mod_right]; exact hQ2
   have ih := over_loop b hb m (a - b * 2 ^ m) (Q + 2 ^ m) (by omega) (by omega) (ha.mono (by omega)) hlt' hQ' ho2
   have hdiv : Q + 2 ^ m + (a - b * 2 ^ m) / b = Q + a / b := by
    have h1 : (a - b * 2 ^ m) / b = a / b - 2 ^ m := Nat.sub_mul_div_of_le _ _ _ hge
    have h2 : 2 ^ m ≤ a / b := (Nat.le_div_iff_mul_le (by omega)).2 (by rw [Nat.mul_comm]; exact hge)
    omega
   have hmod : (a - b * 2 ^ m) % b = a % b := Nat.sub_mul_mod hge
   rw [hdiv, hmod] at ih
   refine Ev.step (fun k => ?_) (Ev.bind (f := fun k t => (weigh_nat_compare.f k (wl a) t).bind fun t225 => if t225 ≥ 0 then (weigh_nat_less.f k (wl a) t).bind fun t226 => (if 0 ≤ (m : Int) then weigh_nat_over.l0 k t226 (wl b) (Go.bits .or .u64 (Q : Int) (shl .u64 1 (m : Int))) (wrap64 ((m : Int) - 1)) else none) else weigh_nat_over.l0 k (wl a) (wl b) (Q : Int) (wrap64 ((m : Int) - 1))) hup
    (Ev.bind (f := fun k t225 => if t225 ≥ 0 then (weigh_nat_less.f k (wl a) (wl (b * 2 ^ m))).bind fun t226 => (if 0 ≤ (m : Int) then weigh_nat_over.l0 k t226 (wl b) (Go.bits .or .u64 (Q : Int) (shl .u64 1 (m : Int))) (wrap64 ((m : Int) - 1)) else none) else weigh_nat_over.l0 k (wl a) (wl b) (Q : Int) (wrap64 ((m : Int) - 1))) hcmp ?_))
   ·simp only [weigh_nat_over.l0, e0]
    rw [if_pos (by omega)]
   ·have hr0 : r ≥ 0 := by omega
    simp only [if_pos hr0]
    refine Ev.bind (f := fun k t226 => (if 0 ≤ (m : Int) then weigh_nat_over.l0 k t226 (wl b) (Go.bits .or .u64 (Q : Int) (shl .u64 1 (m : Int))) (wrap64 ((m : Int) - 1)) else none)) hless ?_
    simp only [if_pos (show 0 ≤ (m : Int) by omega), ho, hw]
    exact ih
  ·have ih := over_loop b hb m a Q (by omega) (by omega) ha (by omega) hQ2 hQ1
   refine Ev.step (fun k => ?_) (Ev.bind (f := fun k t => (weigh_nat_compare.f k (wl a) t).bind fun t225 => if t225 ≥ 0 then (weigh_nat_less.f k (wl a) t).bind fun t226 => (if 0 ≤ (m : Int) then weigh_nat_over.l0 k t226 (wl b) (Go.bits .or .u64 (Q : Int) (shl .u64 1 (m : Int))) (wrap64 ((m : Int) - 1)) else none) else weigh_nat_over.l0 k (wl a) (wl b) (Q : Int) (wrap64 ((m : Int) - 1))) hup
    (Ev.bind (f := fun k t225 => if t225 ≥ 0 then (weigh_nat_less.f k (wl a) (wl (b * 2 ^ m))).bind fun t226 => (if 0 ≤ (m : Int) then weigh_nat_over.l0 k t226 (wl b) (Go.bits .or .u64 (Q : Int) (shl .u64 1 (m : Int))) (wrap64 ((m : Int) - 1)) else none) else weigh_nat_over.l0 k (wl a) (wl b) (Q : Int) (wrap64 ((m : Int) - 1))) hcmp ?_))
   ·simp only [weigh_nat_over.l0, e0]
    rw [if_pos (by omega)]
   ·have hr0 : ¬ r ≥ 0 := by omega
    simp only [if_neg hr0, hw]
    exact ih
theorem lt_of_bl {a b : Nat} (h : bl a < bl b) : a < b := by
 have h1 := lt_two_bl a
 have hb : b ≠ 0 := by rintro rfl; simp [bl] at h
 have h2 := two_bl_le hb
 exact Nat.lt_of_lt_of_le h1 (Nat.le_trans (Nat.pow_le_pow_right (by omega) (by omega)) h2)
theorem over_ok (a b : Nat) (hb : b ≠ 0) (ha : Small a) (hsb : Small b) (h : bl a ≤ bl b + 62) : Ev (fun k => weigh_nat_over.f k (wl a) (wl b)) (((a / b : Nat) : Int), wl (a % b)) := by
 have la : bl a ≤ 33554432 := ha
 have lb : bl b ≤ 33554432 := hsb
 by_cases hc : bl b ≤ bl a
 ·have hlt : a < b * 2 ^ (bl a - bl b + 1) := by
   have h1 := lt_two_bl a
   have h2 := two_bl_le hb
   have hbp := bl_pos hb
   refine Nat.lt_of_lt_of_le h1 (Nat.le_trans ?_ (Nat.mul_le_mul_right _ h2))
   rw [← Nat.pow_add]
   exact Nat.pow_le_pow_right (by omega) (by omega)
  have hl := over_loop b hb (bl a - bl b + 1) a 0 (by omega) (by omega) ha hlt (by simp) (by omega)
  rw [Nat.zero_add] at hl
  refine Ev.congr (fun k => ?_) hl
  unfold weigh_nat_over.f
  rw [length_ok a ha, length_ok b hsb]
  simp only [Option.bind_some]
  rw [w64 (by omega) (by omega), show ((bl a - bl b + 1 : Nat) : Int) - 1 = (bl a : Int) - (bl b : Int) by omega]
  rfl
 ·have hab : a < b := lt_of_bl (by omega)
  rw [Nat.div_eq_of_lt hab, Nat.mod_eq_of_lt hab]
  refine Ev.step (f := fun _ => some ((0 : Int), wl a)) (fun k => ?_) (Ev.now _)
  unfold weigh_nat_over.f
  rw [length_ok a ha, length_ok b hsb]
  simp only [Option.bind_some, weigh_nat_over.l0]
  rw [w64 (by omega) (by omega), if_neg (by omega)]
theorem half_ok (r b : Nat) (hr : Small r) (hr2 : Small (2 * r)) (hb : Small b) : ∃ h : Int, Ev (fun k => weigh_half.f k (wl r) (wl b)) h ∧ (h < 0 ↔ 2 * r < b) ∧ (h = 0 ↔ 2 * r = b) ∧ (h > 0 ↔ b < 2 * r) := by
 have hup := up_ok r 1 hr (by omega)
 rw [show r * 2 ^ (1 : Int).toNat = 2 * r by simp [Nat.mul_comm]] at hup
 obtain ⟨h, hc, h1⟩ := compare_ok (2 * r) b hr2 hb
 refine ⟨h, ?_, h1⟩
 exact Ev.bind (f := fun k t => (weigh_nat_compare.f k t (wl b)).bind fun t232 => some t232) hup (Ev.bind (f := fun k t => some t) hc (Ev.now _))
end Go.Proofs.YtfmjdoofopamkaaGreatDoor.Plain
