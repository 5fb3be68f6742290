import Derived.Test.YtplnakmpogepmabDoorScanHexL
import Derived.Test.YtplnakmpogepmabDoorAx2
/-! Decimal numerals: what Whole takes is what PrintWhole writes. -/
namespace Go.Proofs.YtplnakmpogepmabDoor.Plain
open Go.RowKit Go.Proofs.YtplnakmpogepmabDoorW.PrintWords Go.Proofs.YtplnakmpogepmabDoorW.PrintLast Go.Proofs.YtplnakmpogepmabDoorW.PrintMore Go.Proofs.YtplnakmpogepmabDoor.A
set_option linter.unusedVariables false
set_option linter.unusedSimpArgs false

def dx (n : Nat) : List Int := (Lib.decDigits n).map fun b => (b.toNat : Int)
theorem dx_small {n : Nat} (h : n < 10) : dx n = [48 + (n : Int)] := by
  unfold dx
  rw [Lib.decDigits, dif_pos h]
  simp only [List.map_cons, List.map_nil, UInt8.toNat_ofNat']
  rw [show (48 + n) % 2 ^ 8 = 48 + n from by omega]
  rfl
theorem dx_big {n : Nat} (h : ¬ n < 10) : dx n = dx (n / 10) ++ [48 + ((n % 10 : Nat) : Int)] := by
  unfold dx
  rw [Lib.decDigits, dif_neg h, List.map_append]
  simp only [List.map_cons, List.map_nil, UInt8.toNat_ofNat']
  rw [show (48 + n % 10) % 2 ^ 8 = 48 + n % 10 from by omega]
  rfl
theorem dx_range : ∀ (m n : Nat), n < 10 ^ m → ∀ b ∈ dx n, 48 ≤ b ∧ b ≤ 57
  | 0, n, h, b, hb => by
    have : n < 10 := by simp at h; omega
    rw [dx_small this] at hb
    rw [List.mem_singleton.1 hb]; omega
  | m + 1, n, h, b, hb => by
    by_cases h10 : n < 10
    · rw [dx_small h10] at hb
      rw [List.mem_singleton.1 hb]; omega
    · rw [dx_big h10] at hb
      rcases List.mem_append.1 hb with hb | hb
      · exact dx_range m (n / 10) (by rw [Nat.pow_succ] at h; omega) b hb
      · rw [List.mem_singleton.1 hb]; omega
theorem dx_len : ∀ (m n : Nat), n < 10 ^ (m + 1) → 1 ≤ (dx n).length ∧ (dx n).length ≤ m + 1
  | 0, n, h => by
    rw [dx_small (by simpa using h)]; exact ⟨Nat.le_refl _, Nat.le_refl _⟩
  | m + 1, n, h => by
    by_cases h10 : n < 10
    · rw [dx_small h10]; exact ⟨Nat.le_refl _, by simp⟩
    · have := dx_len m (n / 10) (by rw [Nat.pow_succ] at h; omega)
      rw [dx_big h10, List.length_append]
      simp only [List.length_cons, List.length_nil]
      omega
theorem dx_head : ∀ (m n : Nat), n < 10 ^ m → 0 < n → ∃ c t, dx n = c :: t ∧ c ≠ 48
  | 0, n, h, h0 => by simp at h; omega
  | m + 1, n, h, h0 => by
    by_cases h10 : n < 10
    · exact ⟨_, [], dx_small h10, by omega⟩
    · obtain ⟨c, t, e, hc⟩ := dx_head m (n / 10) (by rw [Nat.pow_succ] at h; omega) (by omega)
      exact ⟨c, t ++ [48 + ((n % 10 : Nat) : Int)], by rw [dx_big h10, e]; rfl, hc⟩
theorem dx_long : ∀ (m n : Nat), 10 ^ m ≤ n → m + 1 ≤ (dx n).length
  | 0, n, h => by
    by_cases h10 : n < 10
    · rw [dx_small h10]; exact Nat.le_refl _
    · rw [dx_big h10, List.length_append]; simp only [List.length_cons, List.length_nil]; omega
  | m + 1, n, h => by
    have hp : 1 ≤ 10 ^ m := Nat.one_le_pow _ _ (by decide)
    rw [Nat.pow_succ] at h
    have := dx_long m (n / 10) (by omega)
    rw [dx_big (by omega), List.length_append]
    simp only [List.length_cons, List.length_nil]
    omega
def cdd : Int → List Int → Option Int
  | v, [] => some v
  | v, b :: bs => if b < 48 ∨ b > 57 then none else cdd (10 * v + (b - 48)) bs
theorem cdd_snoc : ∀ (bs : List Int) (v b : Int), cdd v (bs ++ [b]) = (cdd v bs).bind fun u => if b < 48 ∨ b > 57 then none else some (10 * u + (b - 48))
  | [], v, b => by rfl
  | c :: bs, v, b => by
    rw [List.cons_append, cdd, cdd]
    by_cases h : c < 48 ∨ c > 57
    · rw [if_pos h, if_pos h]; rfl
    · rw [if_neg h, if_neg h]; exact cdd_snoc bs _ b
theorem cdd_dx : ∀ (m n : Nat), n < 10 ^ m → cdd 0 (dx n) = some (n : Int)
  | 0, n, h => by
    obtain rfl : n = 0 := by simp at h; exact h
    rw [dx_small (by decide)]; rfl
  | m + 1, n, h => by
    by_cases h10 : n < 10
    · rw [dx_small h10, cdd, cdd, if_neg (by omega)]
      congr 1; omega
    · rw [dx_big h10, cdd_snoc, cdd_dx m (n / 10) (by rw [Nat.pow_succ] at h; omega), Option.bind_some, if_neg (by omega)]
      congr 1; omega
theorem cdd_nonneg : ∀ (bs : List Int) (v n : Int), 0 ≤ v → cdd v bs = some n → 0 ≤ n
  | [], v, n, h0, h => by
    rw [cdd] at h
    obtain rfl := Option.some.inj h; exact h0
  | b :: bs, v, n, h0, h => by
    rw [cdd] at h
    by_cases hb : b < 48 ∨ b > 57
    · rw [if_pos hb] at h; exact absurd h (by simp)
    · rw [if_neg hb] at h
      exact cdd_nonneg bs _ n (by omega) h
theorem dx_cdd : ∀ (m : Nat) (L : List Int) (n : Int), L.length = m + 1 → (L.length = 1 ∨ L.head? ≠ some 48) → cdd 0 L = some n → L = dx n.toNat
  | 0, L, n, hl, hh, h => by
    obtain ⟨b, rfl⟩ := List.length_eq_one_iff.1 hl
    rw [cdd, cdd] at h
    by_cases hb : b < 48 ∨ b > 57
    · rw [if_pos hb] at h; exact absurd h (by simp)
    · rw [if_neg hb] at h
      obtain rfl := Option.some.inj h
      rw [dx_small (by omega)]
      congr 1; omega
  | m + 1, L, n, hl, hh, h => by
    have hne : L ≠ [] := by intro e; rw [e] at hl; exact absurd hl (by simp)
    obtain ⟨bs, b, rfl⟩ : ∃ bs b, L = bs ++ [b] := ⟨L.dropLast, L.getLast hne, (List.dropLast_concat_getLast hne).symm⟩
    have hbl : bs.length = m + 1 := by rw [List.length_append] at hl; simp only [List.length_cons, List.length_nil] at hl; omega
    rw [cdd_snoc] at h
    obtain ⟨u, hu, h⟩ := Option.bind_eq_some_iff.1 h
    by_cases hb : b < 48 ∨ b > 57
    · rw [if_pos hb] at h; exact absurd h (by simp)
    rw [if_neg hb] at h
    obtain rfl := Option.some.inj h
    have hu0 := cdd_nonneg bs 0 u (by omega) hu
    have hhead : bs.head? ≠ some 48 := by
      rcases hh with hh | hh
      · rw [List.length_append] at hh; simp only [List.length_cons, List.length_nil] at hh; omega
      · cases bs with
        | nil => simp
        | cons c t => simpa using hh
    have ih := dx_cdd m bs u hbl (.inr hhead) hu
    have hupos : 0 < u.toNat := by
      refine Nat.pos_of_ne_zero (fun e => hhead ?_)
      rw [ih, e, dx_small (by decide)]; rfl
    rw [show (10 * u + (b - 48)).toNat = 10 * u.toNat + (b - 48).toNat from by omega, dx_big (by omega), show (10 * u.toNat + (b - 48).toNat) / 10 = u.toNat from by omega, show (10 * u.toNat + (b - 48).toNat) % 10 = (b - 48).toNat from by omega, ← ih]
    congr 2; omega
def wAns (neg : Bool) : Option Int → Option (Int × Bool)
  | none => some (0, false)
  | some n => if neg = true then some (-n, true) else some (n, true)
theorem wAns_some (neg : Bool) (n : Int) : wAns neg (some n) = if neg = true then some (-n, true) else some (n, true) := rfl
theorem whole_loop (a : ByteArray) (neg : Bool) (ha : a.size ≤ 9) : ∀ (n i : Nat) (v : Int), i + n = a.size → 0 ≤ v → v < 10 ^ i → ∀ k, n + 2 ≤ k →
    scan_Whole.l0 k a neg v (a.size : Int) (i : Int) = wAns neg (cdd v ((bytesOf a).drop i)) := by
  have hp : ∀ i : Nat, i ≤ 9 → (10 : Int) ^ i ≤ 1000000000 := by
    intro i hi
    have : (10 : Nat) ^ i ≤ 10 ^ 9 := Nat.pow_le_pow_right (by decide) hi
    have h9 : (10 : Nat) ^ 9 = 1000000000 := by decide
    rw [h9] at this
    have h2 : ((10 ^ i : Nat) : Int) ≤ ((1000000000 : Nat) : Int) := Int.ofNat_le.2 this
    rw [Int.natCast_pow] at h2
    exact h2
  intro n
  induction n with
  | zero =>
    intro i v hi h0 h1 k hk
    obtain ⟨k, rfl⟩ : ∃ m, k = m + 1 := ⟨k - 1, by omega⟩
    have := hp i (by omega)
    rw [drop_all _ _ (by rw [← sz]; omega), cdd, wAns_some, scan_Whole.l0, if_neg (by omega), w64 (by omega) (by omega)]
  | succ n ih =>
    intro i v hi h0 h1 k hk
    obtain ⟨k, rfl⟩ : ∃ m, k = m + 1 := ⟨k - 1, by omega⟩
    have hb := bt_range a (i : Int)
    have := hp i (by omega)
    rw [drop_rd _ i (by rw [← sz]; omega), ← bt_rd, cdd, scan_Whole.l0, if_pos (by omega), if_pos (by omega), if_pos (by omega)]
    by_cases hd : bt a (i : Int) < 48
    · rw [if_pos hd, if_pos (.inl hd)]; rfl
    by_cases hd2 : bt a (i : Int) > 57
    · rw [if_neg hd, if_pos hd2, if_pos (.inr hd2)]; rfl
    · rw [if_neg hd, if_neg hd2, if_neg (by omega), show (bt a (i : Int) - 48) % 256 = bt a (i : Int) - 48 from by omega, w64 (x := 10 * v) (by omega) (by omega), w64 (x := 10 * v + (bt a (i : Int) - 48)) (by omega) (by omega), sh_wsucc i (by omega)]
      exact ih (i + 1) _ (by omega) (by omega) (by rw [Int.pow_succ]; omega) k (by omega)
theorem whole_j1 (a : ByteArray) (neg : Bool) (k : Nat) (hk : 20 ≤ k) : scan_Whole.j1 k a neg =
    if a.size < 1 ∨ a.size > 9 ∨ bt a 0 = 48 then some (0, false) else wAns neg (cdd 0 (bytesOf a)) := by
  obtain ⟨k, rfl⟩ : ∃ m, k = m + 2 := ⟨k - 2, by omega⟩
  have jT : scan_Whole.j2 (k + 1) a neg true = some (0, false) := by rw [scan_Whole.j2, if_pos rfl]
  rw [scan_Whole.j1]
  by_cases h1 : a.size < 1
  · rw [if_pos (by omega), jT, if_pos (.inl h1)]
  by_cases h2 : a.size > 9
  · rw [if_neg (by omega), if_pos (by omega), jT, if_pos (.inr (.inl h2))]
  rw [if_neg (by omega), if_neg (by omega), if_pos (by omega)]
  by_cases h3 : bt a 0 = 48
  · rw [show (bt a 0 == 48) = true from by rw [h3]; rfl, jT, if_pos (.inr (.inr h3))]
  · rw [show (bt a 0 == 48) = false from by simpa using h3, scan_Whole.j2, if_neg (by decide), if_neg (by omega)]
    exact whole_loop a neg (by omega) a.size 0 0 (by omega) (by omega) (by decide) k (by omega)
theorem whole_is (a : ByteArray) (k : Nat) (hk : 30 ≤ k) : scan_Whole.f k a =
    if a.toList = ([48] : List UInt8) then some (0, true) else if a.size > 0 ∧ bt a 0 = 45 then scan_Whole.j1 (k - 1) (a.extract 1 a.size) true else scan_Whole.j1 (k - 1) a false := by
  obtain ⟨k, rfl⟩ : ∃ m, k = m + 1 := ⟨k - 1, by omega⟩
  unfold scan_Whole.f
  rw [Nat.add_sub_cancel]
  by_cases h0 : a.toList = ([48] : List UInt8)
  · rw [if_pos h0, if_pos h0]
  rw [if_neg h0, if_neg h0]
  by_cases h1 : a.size > 0
  · rw [if_pos (by omega), if_pos (by omega)]
    by_cases h2 : bt a 0 = 45
    · rw [show (bt a 0 == 45) = true from by rw [h2]; rfl, scan_Whole.j0, if_pos rfl, if_pos (by omega), if_pos ⟨h1, h2⟩]
    · rw [show (bt a 0 == 45) = false from by simpa using h2, scan_Whole.j0, if_neg (by decide), if_neg (fun h => h2 h.2)]
  · rw [if_neg (by omega), scan_Whole.j0, if_neg (by decide), if_neg (fun h => h1 h.1)]
def ix (n : Int) : List Int := if n < 0 then 45 :: dx n.natAbs else dx n.toNat
theorem bytes_mk (l : List UInt8) : bytesOf (⟨l.toArray⟩ : ByteArray) = l.map fun b => (b.toNat : Int) := rfl
theorem ix_itoa (n : Int) : bytesOf (⟨(Lib.itoa n).toArray⟩ : ByteArray) = ix n := by
  rw [bytes_mk]
  unfold Lib.itoa ix dx
  by_cases h : n < 0
  · rw [if_pos h, if_pos h]; rfl
  · rw [if_neg h, if_neg h]
theorem zero_text (a : ByteArray) : a.toList = ([48] : List UInt8) ↔ bytesOf a = [48] := by
  have e : (⟨#[48]⟩ : ByteArray).toList = ([48] : List UInt8) := by rw [ByteArray.toList_eq]
  rw [← e, bytesOf_toList]
  rfl
theorem tail_bytes (a : ByteArray) (h : 0 < a.size) : bytesOf a = bt a 0 :: bytesOf (a.extract 1 a.size) := by
  have hl : 0 < (bytesOf a).length := by rw [← sz]; exact h
  have e := drop_rd (bytesOf a) 0 hl
  rw [List.drop_zero] at e
  rw [bytesOf_extract, List.take_of_length_le (by rw [← sz]; exact Nat.le_refl _), e]
  rw [bt_rd]
  rfl
theorem j1_taken (a : ByteArray) (neg : Bool) (m : Int) (k : Nat) (hk : 20 ≤ k) (h : scan_Whole.j1 k a neg = some (m, true)) : ∃ n : Nat, 0 < n ∧ n < 10 ^ 9 ∧ bytesOf a = dx n ∧ m = if neg = true then -(n : Int) else (n : Int) := by
  rw [whole_j1 a neg k hk] at h
  by_cases hc : a.size < 1 ∨ a.size > 9 ∨ bt a 0 = 48
  · rw [if_pos hc] at h; exact absurd h (by simp)
  rw [if_neg hc] at h
  cases he : cdd 0 (bytesOf a) with
  | none => rw [he] at h; exact absurd h (by simp [wAns])
  | some n =>
    rw [he, wAns_some] at h
    have hh := bt_head a (by omega)
    have h0 := cdd_nonneg _ 0 n (by omega) he
    have hd := dx_cdd (a.size - 1) (bytesOf a) n (by rw [← sz]; omega) (.inr (by rw [hh]; intro e; have := Option.some.inj e; omega)) he
    have hpos : 0 < n.toNat := by
      refine Nat.pos_of_ne_zero (fun e => ?_)
      rw [hd, e, dx_small (by decide)] at hh
      have := Option.some.inj hh
      omega
    refine ⟨n.toNat, hpos, ?_, hd, ?_⟩
    · have hlen : (dx n.toNat).length ≤ 9 := by rw [← hd, ← sz]; omega
      refine Nat.lt_of_not_le (fun hge => ?_)
      exact absurd (dx_long 9 n.toNat hge) (by omega)
    · cases neg
      · rw [if_neg (by decide)] at h ⊢
        have e := congrArg Prod.fst (Option.some.inj h)
        simp only at e; omega
      · rw [if_pos rfl] at h ⊢
        have e := congrArg Prod.fst (Option.some.inj h)
        simp only at e; omega
theorem whole_taken (a : ByteArray) (m : Int) (k : Nat) (hk : 30 ≤ k) (h : scan_Whole.f k a = some (m, true)) : bytesOf a = ix m ∧ -1000000000 ≤ m ∧ m ≤ 1000000000 := by
  have h9 : (10 : Nat) ^ 9 = 1000000000 := by decide
  rw [whole_is a k hk] at h
  by_cases h0 : a.toList = ([48] : List UInt8)
  · rw [if_pos h0] at h
    have e := congrArg Prod.fst (Option.some.inj h)
    simp only at e
    subst e
    rw [(zero_text a).1 h0]
    exact ⟨by unfold ix; rw [if_neg (by decide), show (0 : Int).toNat = 0 from rfl, dx_small (by decide)]; rfl, by decide, by decide⟩
  rw [if_neg h0] at h
  by_cases h1 : a.size > 0 ∧ bt a 0 = 45
  · rw [if_pos h1] at h
    obtain ⟨n, hn0, hn1, hb, hm⟩ := j1_taken _ _ _ _ (by omega) h
    rw [if_pos rfl] at hm
    rw [tail_bytes a h1.1, h1.2, hb]
    refine ⟨?_, by omega, by omega⟩
    unfold ix
    rw [if_pos (by omega), show m.natAbs = n from by omega]
  · rw [if_neg h1] at h
    obtain ⟨n, hn0, hn1, hb, hm⟩ := j1_taken _ _ _ _ (by omega) h
    rw [if_neg (by decide)] at hm
    refine ⟨?_, by omega, by omega⟩
    unfold ix
    rw [hb, if_neg (by omega), show m.toNat = n from by omega]
theorem j1_takes (a : ByteArray) (neg : Bool) (n : Nat) (h0 : 0 < n) (h1 : n < 10 ^ 9) (ha : bytesOf a = dx n) (k : Nat) (hk : 20 ≤ k) : scan_Whole.j1 k a neg = some (if neg = true then -(n : Int) else (n : Int), true) := by
  have hl := dx_len 8 n h1
  have hs : a.size = (dx n).length := by rw [sz, ha]
  obtain ⟨c, t, e, hc⟩ := dx_head 9 n h1 h0
  rw [whole_j1 a neg k hk, if_neg, ha, cdd_dx 9 n h1, wAns_some]
  · cases neg <;> rfl
  · intro hx
    rcases hx with hx | hx | hx
    · omega
    · omega
    · have hh := bt_head a (by omega)
      rw [ha, e, hx] at hh
      exact hc (Option.some.inj hh)
theorem whole_takes (a : ByteArray) (n : Int) (h0 : -1000000000 < n) (h1 : n < 1000000000) (ha : bytesOf a = ix n) (k : Nat) (hk : 30 ≤ k) : scan_Whole.f k a = some (n, true) := by
  have h9 : (10 : Nat) ^ 9 = 1000000000 := by decide
  rw [whole_is a k hk]
  by_cases hz : n = 0
  · subst hz
    rw [if_pos]
    rw [zero_text, ha]
    unfold ix
    rw [if_neg (by decide), show (0 : Int).toNat = 0 from rfl, dx_small (by decide)]; rfl
  by_cases hn : n < 0
  · have hb : bytesOf a = 45 :: dx n.natAbs := by rw [ha]; unfold ix; rw [if_pos hn]
    have hs : a.size > 0 := by rw [sz, hb]; simp
    have h45 : bt a 0 = 45 := by
      have hh := bt_head a hs
      rw [hb] at hh
      exact (Option.some.inj hh).symm
    have ht := tail_bytes a hs
    rw [hb] at ht
    have htl : bytesOf (a.extract 1 a.size) = dx n.natAbs := (List.cons.inj ht).2.symm
    rw [if_neg, if_pos ⟨hs, h45⟩, j1_takes _ true n.natAbs (by omega) (by omega) htl _ (by omega), if_pos rfl]
    · rw [show -((n.natAbs : Nat) : Int) = n from by omega]
    · intro h
      rw [(zero_text a).1 h] at hb
      have := (List.cons.inj hb).1
      omega
  · have hb : bytesOf a = dx n.toNat := by rw [ha]; unfold ix; rw [if_neg hn]
    obtain ⟨c, t, e, hc⟩ := dx_head 9 n.toNat (by omega) (by omega)
    have hs : a.size > 0 := by rw [sz, hb, e]; simp
    have hh := bt_head a hs
    rw [hb, e] at hh
    have hcb : c = bt a 0 := Option.some.inj hh
    have hr := dx_range 9 n.toNat (by omega) c (by rw [e]; exact List.mem_cons_self)
    rw [if_neg, if_neg, j1_takes a false n.toNat (by omega) (by omega) hb _ (by omega), if_neg (by decide)]
    · rw [show ((n.toNat : Nat) : Int) = n from by omega]
    · intro h; omega
    · intro h
      rw [zero_text, hb, e] at h
      exact hc (List.cons.inj h).1
end Go.Proofs.YtplnakmpogepmabDoor.Plain
