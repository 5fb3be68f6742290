import Derived.Test.YtplnakmpogepmabDoorScanPrintsL
import Derived.Test.YtplnakmpogepmabDoorAx1
/-! Numerals to the base 16: what Code takes is what PrintCode writes. -/
namespace Go.Proofs.YtplnakmpogepmabDoor.Plain
open Go.RowKit Go.Proofs.YtplnakmpogepmabDoorW.PrintWords Go.Proofs.YtplnakmpogepmabDoorW.PrintLast Go.Proofs.YtplnakmpogepmabDoorW.PrintMore Go.Proofs.YtplnakmpogepmabDoor.A
set_option linter.unusedVariables false
set_option linter.unusedSimpArgs false

def hch (d : Nat) : Int := if d < 10 then 48 + d else 55 + d
/-- What a letter says; -1: none. -/
def dv (b : Int) : Int := if 48 ≤ b ∧ b ≤ 57 then b - 48 else if 65 ≤ b ∧ b ≤ 70 then b - 55 else -1
theorem dig_all : ∀ b : Fin 256, scan_digit.f 20 ((b.val : Nat) : Int) = some (dv ((b.val : Nat) : Int)) := by decide +kernel
theorem dig_ok (b : Int) (h0 : 0 ≤ b) (h1 : b ≤ 255) (k : Nat) (hk : 20 ≤ k) : scan_digit.f k b = some (dv b) := by
  have h := dig_all ⟨b.toNat, by omega⟩
  simp only [show ((b.toNat : Nat) : Int) = b from by omega] at h
  exact at_rounds (scan_digit.mono b) hk h
theorem dv_hch (d : Nat) (h : d < 16) : dv (hch d) = d := by
  unfold dv hch
  by_cases h10 : d < 10
  · rw [if_pos h10, if_pos (by omega)]; omega
  · rw [if_neg h10, if_neg (by omega), if_pos (by omega)]; omega
theorem hch_dv (b : Int) (h : 0 ≤ dv b) : hch (dv b).toNat = b ∧ dv b < 16 := by
  revert h
  unfold dv hch
  by_cases h1 : 48 ≤ b ∧ b ≤ 57
  · rw [if_pos h1]; intro h; rw [if_pos (by omega)]; omega
  · rw [if_neg h1]
    by_cases h2 : 65 ≤ b ∧ b ≤ 70
    · rw [if_pos h2]; intro h; rw [if_neg (by omega)]; omega
    · rw [if_neg h2]; intro h; omega
theorem hch_range (d : Nat) (h : d < 16) : 48 ≤ hch d ∧ hch d ≤ 70 := by
  unfold hch
  split <;> omega
/-- The numeral. -/
def hx (n : Nat) : List Int := if h : n < 16 then [hch n] else hx (n / 16) ++ [hch (n % 16)]
termination_by n
decreasing_by omega
theorem hx_small {n : Nat} (h : n < 16) : hx n = [hch n] := by rw [hx, dif_pos h]
theorem hx_big {n : Nat} (h : ¬ n < 16) : hx n = hx (n / 16) ++ [hch (n % 16)] := by rw [hx, dif_neg h]
theorem hx_range : ∀ (m n : Nat), n < 16 ^ m → ∀ b ∈ hx n, 48 ≤ b ∧ b ≤ 70
  | 0, n, h, b, hb => by
    have : n < 16 := by simp at h; omega
    rw [hx_small this] at hb
    rw [List.mem_singleton.1 hb]
    exact hch_range n this
  | m + 1, n, h, b, hb => by
    by_cases h16 : n < 16
    · rw [hx_small h16] at hb
      rw [List.mem_singleton.1 hb]
      exact hch_range n h16
    · rw [hx_big h16] at hb
      rcases List.mem_append.1 hb with hb | hb
      · exact hx_range m (n / 16) (by rw [Nat.pow_succ] at h; omega) b hb
      · rw [List.mem_singleton.1 hb]
        exact hch_range (n % 16) (by omega)
theorem hx_len : ∀ (m n : Nat), n < 16 ^ (m + 1) → 1 ≤ (hx n).length ∧ (hx n).length ≤ m + 1
  | 0, n, h => by
    rw [hx_small (by simpa using h)]; exact ⟨Nat.le_refl _, Nat.le_refl _⟩
  | m + 1, n, h => by
    by_cases h16 : n < 16
    · rw [hx_small h16]; exact ⟨Nat.le_refl _, by simp⟩
    · have := hx_len m (n / 16) (by rw [Nat.pow_succ] at h; omega)
      rw [hx_big h16, List.length_append]
      simp only [List.length_cons, List.length_nil]
      omega
theorem hx_head : ∀ (m n : Nat), n < 16 ^ m → 0 < n → ∃ c t, hx n = c :: t ∧ c ≠ 48
  | 0, n, h, h0 => by simp at h; omega
  | m + 1, n, h, h0 => by
    by_cases h16 : n < 16
    · refine ⟨hch n, [], hx_small h16, ?_⟩
      unfold hch; split <;> omega
    · obtain ⟨c, t, e, hc⟩ := hx_head m (n / 16) (by rw [Nat.pow_succ] at h; omega) (by omega)
      exact ⟨c, t ++ [hch (n % 16)], by rw [hx_big h16, e]; rfl, hc⟩
/-- The value of letters, read on from v. -/
def cd : Int → List Int → Option Int
  | v, [] => some v
  | v, b :: bs => if dv b < 0 then none else cd (16 * v + dv b) bs
theorem cd_snoc : ∀ (bs : List Int) (v b : Int), cd v (bs ++ [b]) = (cd v bs).bind fun u => if dv b < 0 then none else some (16 * u + dv b)
  | [], v, b => by rfl
  | c :: bs, v, b => by
    rw [List.cons_append, cd, cd]
    by_cases h : dv c < 0
    · rw [if_pos h, if_pos h]; rfl
    · rw [if_neg h, if_neg h]; exact cd_snoc bs _ b
theorem cd_hx : ∀ (m n : Nat), n < 16 ^ m → cd 0 (hx n) = some (n : Int)
  | 0, n, h => by
    obtain rfl : n = 0 := by simp at h; exact h
    rw [hx_small (by decide)]; rfl
  | m + 1, n, h => by
    by_cases h16 : n < 16
    · rw [hx_small h16, cd, cd, dv_hch n h16, if_neg (by omega)]
      congr 1; omega
    · rw [hx_big h16, cd_snoc, cd_hx m (n / 16) (by rw [Nat.pow_succ] at h; omega), Option.bind_some, dv_hch _ (by omega), if_neg (by omega)]
      congr 1; omega
theorem cd_nonneg : ∀ (bs : List Int) (v n : Int), 0 ≤ v → cd v bs = some n → 0 ≤ n
  | [], v, n, h0, h => by
    rw [cd] at h
    obtain rfl := Option.some.inj h; exact h0
  | b :: bs, v, n, h0, h => by
    rw [cd] at h
    by_cases hb : dv b < 0
    · rw [if_pos hb] at h; exact absurd h (by simp)
    · rw [if_neg hb] at h
      exact cd_nonneg bs _ n (by omega) h
theorem hx_cd : ∀ (m : Nat) (L : List Int) (n : Int), L.length = m + 1 → (L.length = 1 ∨ L.head? ≠ some 48) → cd 0 L = some n → L = hx n.toNat
  | 0, L, n, hl, hh, h => by
    obtain ⟨b, rfl⟩ := List.length_eq_one_iff.1 hl
    rw [cd, cd] at h
    by_cases hb : dv b < 0
    · rw [if_pos hb] at h; exact absurd h (by simp)
    · rw [if_neg hb] at h
      obtain rfl := Option.some.inj h
      obtain ⟨h1, h2⟩ := hch_dv b (by omega)
      rw [hx_small (by omega), show (16 * 0 + dv b).toNat = (dv b).toNat from by congr 1; omega, h1]
  | m + 1, L, n, hl, hh, h => by
    have hne : L ≠ [] := by intro e; rw [e] at hl; exact absurd hl (by simp)
    obtain ⟨bs, b, rfl⟩ : ∃ bs b, L = bs ++ [b] := ⟨L.dropLast, L.getLast hne, (List.dropLast_concat_getLast hne).symm⟩
    have hbl : bs.length = m + 1 := by rw [List.length_append] at hl; simp only [List.length_cons, List.length_nil] at hl; omega
    rw [cd_snoc] at h
    obtain ⟨u, hu, h⟩ := Option.bind_eq_some_iff.1 h
    by_cases hb : dv b < 0
    · rw [if_pos hb] at h; exact absurd h (by simp)
    rw [if_neg hb] at h
    obtain rfl := Option.some.inj h
    obtain ⟨h1, h2⟩ := hch_dv b (by omega)
    have hu0 := cd_nonneg bs 0 u (by omega) hu
    have hhead : bs.head? ≠ some 48 := by
      rcases hh with hh | hh
      · rw [List.length_append] at hh; simp only [List.length_cons, List.length_nil] at hh; omega
      · cases bs with
        | nil => simp
        | cons c t => simpa using hh
    have ih := hx_cd m bs u hbl (.inr hhead) hu
    have hupos : 0 < u.toNat := by
      refine Nat.pos_of_ne_zero (fun e => hhead ?_)
      rw [ih, e, hx_small (by decide)]; rfl
    rw [show (16 * u + dv b).toNat = 16 * u.toNat + (dv b).toNat from by omega, hx_big (by omega), show (16 * u.toNat + (dv b).toNat) / 16 = u.toNat from by omega, show (16 * u.toNat + (dv b).toNat) % 16 = (dv b).toNat from by omega, h1, ← ih]
theorem sh_wsucc (i : Nat) (h : i ≤ 4611686018427387904) : wrap64 ((i : Int) + 1) = ((i + 1 : Nat) : Int) := by rw [w64 (by omega) (by omega)]; rfl
/-- What Code answers where the letters are read. -/
def cdAns : Option Int → Option (Int × Bool)
  | none => some (0, false)
  | some n => if n > 1114111 then some (0, false) else some (n, true)
theorem cdAns_some (n : Int) : cdAns (some n) = if n > 1114111 then some (0, false) else some (n, true) := rfl
theorem code_loop (a : ByteArray) (ha : a.size ≤ 6) : ∀ (n i : Nat) (v : Int), i + n = a.size → 0 ≤ v → v < 16 ^ i → ∀ k, n + 25 ≤ k →
    scan_Code.l0 k a v (a.size : Int) (i : Int) = cdAns (cd v ((bytesOf a).drop i)) := by
  intro n
  induction n with
  | zero =>
    intro i v hi h0 h1 k hk
    obtain ⟨k, rfl⟩ : ∃ m, k = m + 1 := ⟨k - 1, by omega⟩
    rw [drop_all _ _ (by rw [← sz]; omega), cd, scan_Code.l0, if_neg (by omega), cdAns_some]
    by_cases hv : v > 1114111
    · rw [if_pos hv, if_pos hv]
    · rw [if_neg hv, if_neg hv, w32 (by omega) (by omega)]
  | succ n ih =>
    intro i v hi h0 h1 k hk
    obtain ⟨k, rfl⟩ : ∃ m, k = m + 1 := ⟨k - 1, by omega⟩
    have hb := bt_range a (i : Int)
    have hp : (16 : Int) ^ i ≤ 16 ^ 5 := by
      have hi5 : i ≤ 5 := by omega
      have : (16 : Nat) ^ i ≤ 16 ^ 5 := Nat.pow_le_pow_right (by decide) hi5
      exact_mod_cast this
    have h5 : (16 : Int) ^ 5 = 1048576 := by decide
    rw [drop_rd _ i (by rw [← sz]; omega), ← bt_rd, cd, scan_Code.l0, if_pos (by omega), if_pos (by omega), if_pos (by omega), dig_ok _ hb.1 hb.2 k (by omega), Option.bind_some]
    by_cases hd : dv (bt a (i : Int)) < 0
    · rw [if_pos hd, if_pos hd]; rfl
    · obtain ⟨_, h16⟩ := hch_dv _ (show 0 ≤ dv (bt a (i : Int)) by omega)
      rw [if_neg hd, if_neg hd, w64 (x := 16 * v) (by omega) (by omega), w64 (x := 16 * v + dv (bt a (i : Int))) (by omega) (by omega), sh_wsucc i (by omega)]
      exact ih (i + 1) _ (by omega) (by omega) (by rw [Int.pow_succ]; omega) k (by omega)
/-- Code, at any text. -/
theorem code_is (a : ByteArray) (k : Nat) (hk : 40 ≤ k) : scan_Code.f k a =
    if a.size < 1 ∨ a.size > 6 ∨ (bt a 0 = 48 ∧ a.size > 1) then some (0, false) else cdAns (cd 0 (bytesOf a)) := by
  obtain ⟨k, rfl⟩ : ∃ m, k = m + 1 := ⟨k - 1, by omega⟩
  unfold scan_Code.f
  have jT : scan_Code.j0 (k + 1) a true = some (0, false) := by rw [scan_Code.j0, if_pos rfl]
  by_cases h1 : a.size < 1
  · rw [if_pos (by omega), jT, if_pos (.inl h1)]
  by_cases h2 : a.size > 6
  · rw [if_neg (by omega), if_pos (by omega), jT, if_pos (.inr (.inl h2))]
  have jF : scan_Code.j0 (k + 1) a false = cdAns (cd 0 (bytesOf a)) := by
    rw [scan_Code.j0, if_neg (by decide)]
    exact code_loop a (by omega) a.size 0 0 (by omega) (by omega) (by decide) k (by omega)
  rw [if_neg (by omega), if_neg (by omega), if_pos (by omega)]
  by_cases h3 : bt a 0 = 48
  · rw [if_pos h3]
    by_cases h4 : a.size > 1
    · rw [decide_eq_true (by omega), jT, if_pos (.inr (.inr ⟨h3, h4⟩))]
    · rw [decide_eq_false (by omega), jF, if_neg (by omega)]
  · rw [if_neg h3, jF, if_neg (by omega)]
theorem bt_head (a : ByteArray) (h : 1 ≤ a.size) : (bytesOf a).head? = some (bt a 0) := by
  rw [bt_rd]
  have hl : 1 ≤ (bytesOf a).length := by rw [← sz]; exact h
  cases hb : bytesOf a with
  | nil => rw [hb] at hl; exact absurd hl (by decide)
  | cons c t => rfl
/-- What is taken is a numeral. -/
theorem code_taken (a : ByteArray) (c : Int) (k : Nat) (hk : 40 ≤ k) (h : scan_Code.f k a = some (c, true)) : 0 ≤ c ∧ c ≤ 1114111 ∧ bytesOf a = hx c.toNat := by
  rw [code_is a k hk] at h
  by_cases hc : a.size < 1 ∨ a.size > 6 ∨ (bt a 0 = 48 ∧ a.size > 1)
  · rw [if_pos hc] at h; exact absurd h (by simp)
  rw [if_neg hc] at h
  cases he : cd 0 (bytesOf a) with
  | none => rw [he] at h; exact absurd h (by simp [cdAns])
  | some n =>
    rw [he, cdAns_some] at h
    by_cases hn : n > 1114111
    · rw [if_pos hn] at h; exact absurd h (by simp)
    · rw [if_neg hn] at h
      have e := Option.some.inj h
      have ec : n = c := congrArg Prod.fst e
      subst ec
      have h0 := cd_nonneg _ 0 n (by omega) he
      refine ⟨h0, by omega, hx_cd (a.size - 1) _ n (by rw [← sz]; omega) ?_ he⟩
      by_cases h1 : a.size = 1
      · left; rw [← sz]; exact h1
      · right
        rw [bt_head a (by omega)]
        intro hx48
        have := Option.some.inj hx48
        omega
/-- A numeral is taken. -/
theorem code_takes (a : ByteArray) (n : Nat) (hn : n ≤ 1114111) (ha : bytesOf a = hx n) (k : Nat) (hk : 40 ≤ k) : scan_Code.f k a = some ((n : Int), true) := by
  have hl := hx_len 5 n (by have : (16 : Nat) ^ 6 = 16777216 := by decide
                            omega)
  have hsz : a.size = (hx n).length := by rw [sz, ha]
  have hlt : n < 16 ^ 6 := by have : (16 : Nat) ^ 6 = 16777216 := by decide
                              omega
  rw [code_is a k hk, if_neg, ha, cd_hx 6 n hlt]
  · rw [cdAns_some, if_neg (by omega)]
  · intro hc
    rcases hc with hc | hc | ⟨hc, h1⟩
    · omega
    · omega
    · by_cases h0 : n = 0
      · rw [h0, hx_small (by decide)] at hsz
        simp only [List.length_cons, List.length_nil] at hsz
        omega
      · obtain ⟨c, t, e, hne⟩ := hx_head 6 n hlt (by omega)
        have hh := bt_head a (by omega)
        rw [ha, e, hc] at hh
        exact hne (Option.some.inj hh)
/-- What PrintCode writes. -/
theorem dig_bytes (d : Nat) (h : d < 16) : bytesOf (DIG.extract d (d + 1)) = [hch d] := by
  have : ∀ d : Fin 16, bytesOf (DIG.extract d.val (d.val + 1)) = [hch d.val] := by decide
  exact this ⟨d, h⟩
theorem dig_bt (n : Nat) : bytesOf (dig (n : Int)) = [hch (n % 16)] := by
  unfold dig
  rw [show (((n : Nat) : Int) % 16).toNat = n % 16 from by omega]
  exact dig_bytes (n % 16) (by omega)
theorem pc_loop : ∀ (m n : Nat) (s : ByteArray), 0 < n → n ≤ 1114111 → n < 16 ^ m → s.size + m ≤ 50 → ∃ r : ByteArray, bytesOf r = hx n ++ bytesOf s ∧ ∀ k, m + 2 ≤ k → scan_PrintCode.l0 k s (n : Int) = some r := by
  intro m
  induction m with
  | zero => intro n s h0 h1 hm hs; simp at hm; omega
  | succ m ih =>
    intro n s h0 h1 hm hs
    have hsz : (dig (n : Int) ++ s).size = s.size + 1 := by rw [sp_app, dig_size]; omega
    by_cases h16 : n < 16
    · refine ⟨dig (n : Int) ++ s, by rw [bytesOf_append, dig_bt, hx_small h16, Nat.mod_eq_of_lt h16], fun k hk => ?_⟩
      obtain ⟨k, rfl⟩ : ∃ m, k = m + 2 := ⟨k - 2, by omega⟩
      rw [(hex_step (n : Int) (by omega) (by omega) s (by omega) (.inl (by omega)) (k + 1)).1, show ((n : Nat) : Int) / 16 = 0 from by omega]
      exact (hex_stop _ (by omega) k).1
    · obtain ⟨r, hr1, hr⟩ := ih (n / 16) (dig (n : Int) ++ s) (by omega) (by omega) (by rw [Nat.pow_succ] at hm; omega) (by omega)
      refine ⟨r, by rw [hr1, hx_big h16, bytesOf_append, dig_bt, List.append_assoc], fun k hk => ?_⟩
      obtain ⟨k, rfl⟩ : ∃ m, k = m + 1 := ⟨k - 1, by omega⟩
      rw [(hex_step (n : Int) (by omega) (by omega) s (by omega) (.inl (by omega)) k).1, show ((n : Nat) : Int) / 16 = ((n / 16 : Nat) : Int) from by omega]
      exact hr k (by omega)
theorem pc_is (n : Nat) (hn : n ≤ 1114111) : ∃ r : ByteArray, bytesOf r = hx n ∧ ∀ k, 20 ≤ k → scan_PrintCode.f k (n : Int) = some r := by
  have main : ∃ r : ByteArray, bytesOf r = hx n ∧ ∀ k, 10 ≤ k → scan_PrintCode.l0 k ⟨#[]⟩ (n : Int) = some r := by
    by_cases h0 : n = 0
    · subst h0
      refine ⟨dig 0, by rw [show (0 : Int) = ((0 : Nat) : Int) from rfl, dig_bt, hx_small (by decide)], fun k hk => ?_⟩
      obtain ⟨k, rfl⟩ : ∃ m, k = m + 2 := ⟨k - 2, by omega⟩
      rw [show ((0 : Nat) : Int) = 0 from rfl, (hex_step 0 (by decide) (by decide) ⟨#[]⟩ (by decide) (.inr rfl) (k + 1)).1]
      have e : dig 0 ++ (⟨#[]⟩ : ByteArray) = dig 0 := by apply bytesOf_inj; rw [bytesOf_append, show bytesOf (⟨#[]⟩ : ByteArray) = [] from rfl, List.append_nil]
      rw [e, show (0 : Int) / 16 = 0 from rfl]
      exact (hex_stop _ (by rw [dig_size]; decide) k).1
    · obtain ⟨r, hr1, hr⟩ := pc_loop 6 n ⟨#[]⟩ (by omega) hn (by have : (16 : Nat) ^ 6 = 16777216 := by decide
                                                                 omega) (by decide)
      exact ⟨r, by rw [hr1, show bytesOf (⟨#[]⟩ : ByteArray) = [] from rfl, List.append_nil], fun k hk => hr k (by omega)⟩
  obtain ⟨r, hr1, hr⟩ := main
  refine ⟨r, hr1, fun k hk => ?_⟩
  obtain ⟨k, rfl⟩ : ∃ m, k = m + 1 := ⟨k - 1, by omega⟩
  unfold scan_PrintCode.f
  rw [if_neg (by omega), decide_eq_false (by omega), scan_PrintCode.j0, if_neg (by decide), w64 (by omega) (by omega)]
  exact hr k (by omega)
/-- What is taken is what is written. -/
theorem code_back (a : ByteArray) (c : Int) (k : Nat) (hk : 40 ≤ k) (h : scan_Code.f k a = some (c, true)) : ∀ j, 20 ≤ j → scan_PrintCode.f j c = some a := by
  obtain ⟨h0, h1, h2⟩ := code_taken a c k hk h
  obtain ⟨r, hr1, hr⟩ := pc_is c.toNat (by omega)
  obtain rfl : r = a := bytesOf_inj (hr1.trans h2.symm)
  intro j hj
  have := hr j hj
  rwa [show ((c.toNat : Nat) : Int) = c from by omega] at this
end Go.Proofs.YtplnakmpogepmabDoor.Plain
