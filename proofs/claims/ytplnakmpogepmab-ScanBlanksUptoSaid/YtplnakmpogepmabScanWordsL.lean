import Derived.Test.YtplnakmpogepmabScanReadsL
import Derived.Test.YtplnakmpogepmabAx1
import Derived.Test.YtplnakmpogepmabAx5
import Derived.Test.YtplnakmpogepmabAx4
/-! scan.Words and the document's Words: both are this machine on bytes. -/
namespace Go.Proofs.Ytplnakmpogepmab.Plain
open Go.RowKit Go.Proofs.YtplnakmpogepmabW.PrintWords Go.Proofs.YtplnakmpogepmabW.PrintLast Go.Proofs.YtplnakmpogepmabW.PrintMore Go.Proofs.Ytplnakmpogepmab.A
set_option linter.unusedVariables false
set_option linter.unusedSimpArgs false

def w34 (p : ByteArray × Int) : S34 := ⟨p.1, p.2⟩
def w48 (p : ByteArray × Int) : S48 := ⟨p.1, p.2⟩
def isBl (c : Int) : Bool := c == 32 || c == 9 || c == 13
def cutW (a : ByteArray) (from_ : Int) (e : Nat) (acc : List (ByteArray × Int)) : List (ByteArray × Int) := if 0 ≤ from_ then acc ++ [(a.extract from_.toNat e, from_)] else acc
/-- n bytes are left, from place i on; from_: where the word begins that stands open (below 0: none). -/
def bw (a : ByteArray) : Nat → Nat → Int → List (ByteArray × Int) → List (ByteArray × Int) × Int
  | 0, i, from_, acc => (cutW a from_ i acc, (i : Int))
  | n + 1, i, from_, acc =>
    if bt a (i : Int) = 35 then (cutW a from_ i acc, (i : Int))
    else if isBl (bt a (i : Int)) = true then bw a n (i + 1) (-1) (cutW a from_ i acc)
    else bw a n (i + 1) (if from_ < 0 then (i : Int) else from_) acc
theorem bw_high (a : ByteArray) (n i : Nat) (from_ : Int) (acc : List (ByteArray × Int)) (h : 128 ≤ bt a (i : Int)) :
    bw a (n + 1) i from_ acc = bw a n (i + 1) (if from_ < 0 then (i : Int) else from_) acc := by
  have hb : isBl (bt a (i : Int)) = false := by
    unfold isBl
    generalize bt a (i : Int) = c at h
    have h1 : (c == 32) = false := by simp; omega
    have h2 : (c == 9) = false := by simp; omega
    have h3 : (c == 13) = false := by simp; omega
    rw [h1, h2, h3]; rfl
  rw [bw, if_neg (by omega), hb]
  rfl
theorem bw_high_more (a : ByteArray) : ∀ (m n i : Nat) (from_ : Int) (acc : List (ByteArray × Int)), 0 ≤ from_ → (∀ j, i ≤ j → j < i + m → 128 ≤ bt a (j : Int)) →
    bw a (n + m) i from_ acc = bw a n (i + m) from_ acc := by
  intro m
  induction m with
  | zero => intro n i from_ acc h0 h; rfl
  | succ m ih =>
    intro n i from_ acc h0 h
    rw [show n + (m + 1) = (n + m) + 1 from rfl, bw_high a (n + m) i from_ acc (h i (by omega) (by omega)), if_neg (by omega), ih n (i + 1) from_ acc h0 (fun j h1 h2 => h j (by omega) (by omega)), show i + 1 + m = i + (m + 1) from by omega]
theorem bw_rune (a : ByteArray) (m n i : Nat) (from_ : Int) (acc : List (ByteArray × Int)) (hm : 1 ≤ m) (h : ∀ j, i ≤ j → j < i + m → 128 ≤ bt a (j : Int)) :
    bw a (n + m) i from_ acc = bw a n (i + m) (if from_ < 0 then (i : Int) else from_) acc := by
  obtain ⟨m, rfl⟩ : ∃ z, m = z + 1 := ⟨m - 1, by omega⟩
  rw [show n + (m + 1) = (n + m) + 1 from rfl, bw_high a (n + m) i from_ acc (h i (by omega) (by omega)), bw_high_more a m n (i + 1) _ acc (by split <;> omega) (fun j h1 h2 => h j (by omega) (by omega)), show i + 1 + m = i + (m + 1) from by omega]
theorem bt_nat (s : ByteArray) (i : Nat) (h : i < s.size) : bt s (i : Int) = ((s[i]'h).toNat : Int) := by
  have := bt_at s (i : Int) (by rw [Int.toNat_natCast]; exact h)
  simp only [Int.toNat_natCast] at this
  exact this.symm
theorem get_bt2 (s : ByteArray) (i : Nat) (h : i < s.size) : (s.get! i).toNat = s[i].toNat := by
  simp [ByteArray.get!, getElem!_pos, h]
  rfl
theorem decode_width (s : ByteArray) (i : Nat) : (Utf8.decode s i).2 = 1 ∨ ((Utf8.decode s i).2 = 2 ∧ (i + 1 < s.size ∧ (s.get! (i + 1)).toNat / 64 = 2)) ∨
    ((Utf8.decode s i).2 = 3 ∧ (i + 1 < s.size ∧ (s.get! (i + 1)).toNat / 64 = 2) ∧ (i + 2 < s.size ∧ (s.get! (i + 2)).toNat / 64 = 2)) ∨
    ((Utf8.decode s i).2 = 4 ∧ (i + 1 < s.size ∧ (s.get! (i + 1)).toNat / 64 = 2) ∧ (i + 2 < s.size ∧ (s.get! (i + 2)).toNat / 64 = 2) ∧ (i + 3 < s.size ∧ (s.get! (i + 3)).toNat / 64 = 2)) := by
  simp only [Utf8.decode]
  repeat' split
  all_goals simp_all
theorem scanWords_end (a : ByteArray) (ha : a.size ≤ 16777216) (i : Nat) (from_ : Int) (acc : List (ByteArray × Int)) (hi : i = a.size) (hl : acc.length ≤ i) (hf0 : -1 ≤ from_) (hf1 : from_ ≤ (i : Int)) (k : Nat) :
    scan_Words.l0 (k + 1) a (acc.map w34) (a.size : Int) from_ a (i : Int) = some ((bw a 0 i from_ acc).1.map w34, (bw a 0 i from_ acc).2) := by
  subst hi
  rw [scan_Words.l0, if_neg (by omega), bw]
  unfold cutW
  by_cases hf : 0 ≤ from_
  · rw [if_pos (show from_ ≥ 0 from hf), if_pos hf, if_pos hf1, if_pos (Int.le_refl _), if_pos (by rw [List.length_map]; omega), if_pos hf, List.map_append]
    rfl
  · rw [if_neg (show ¬ from_ ≥ 0 from hf), if_neg hf]
/-- The rune at a byte of 128 and more: its own bytes are all of that kind and lie in the text. -/
theorem rune_bytes (s : ByteArray) (i : Nat) (h : i < s.size) (ha : 128 ≤ (s[i]'h).toNat) :
    i + (Utf8.decode s i).2 ≤ s.size ∧ ∀ j, i ≤ j → j < i + (Utf8.decode s i).2 → 128 ≤ bt s (j : Int) := by
  have h0 : 128 ≤ bt s (i : Int) := by rw [bt_nat s i h]; omega
  have hc : ∀ k, i + k < s.size → (s.get! (i + k)).toNat / 64 = 2 → 128 ≤ bt s ((i + k : Nat) : Int) := by
    intro k hk h2
    rw [get_bt2 s (i + k) hk] at h2
    rw [bt_nat s (i + k) hk]
    omega
  have hk := decode_width s i
  have one : ∀ k, 128 ≤ bt s ((i + k : Nat) : Int) → ∀ j, j = i + k → 128 ≤ bt s (j : Int) := by
    intro k hk2 j hj
    rw [hj]; exact hk2
  rcases hk with e | ⟨e, a1⟩ | ⟨e, a1, a2⟩ | ⟨e, a1, a2, a3⟩
  · rw [e]
    refine ⟨by omega, fun j h1 h2 => ?_⟩
    obtain rfl : j = i := by omega
    exact h0
  · rw [e]
    have g1 := hc 1 a1.1 a1.2
    refine ⟨by have := a1.1; omega, fun j h1 h2 => ?_⟩
    rcases (show j = i ∨ j = i + 1 from by omega) with rfl | h
    · exact h0
    · exact one 1 g1 j h
  · rw [e]
    have g1 := hc 1 a1.1 a1.2
    have g2 := hc 2 a2.1 a2.2
    refine ⟨by have := a2.1; omega, fun j h1 h2 => ?_⟩
    rcases (show j = i ∨ j = i + 1 ∨ j = i + 2 from by omega) with rfl | h | h
    · exact h0
    · exact one 1 g1 j h
    · exact one 2 g2 j h
  · rw [e]
    have g1 := hc 1 a1.1 a1.2
    have g2 := hc 2 a2.1 a2.2
    have g3 := hc 3 a3.1 a3.2
    refine ⟨by have := a3.1; omega, fun j h1 h2 => ?_⟩
    rcases (show j = i ∨ j = i + 1 ∨ j = i + 2 ∨ j = i + 3 from by omega) with rfl | h | h | h
    · exact h0
    · exact one 1 g1 j h
    · exact one 2 g2 j h
    · exact one 3 g3 j h
/-- The program's Words. -/
theorem scanWords_loop (a : ByteArray) (ha : a.size ≤ 16777216) : ∀ (N n i : Nat) (from_ : Int) (acc : List (ByteArray × Int)), n ≤ N → i + n = a.size → acc.length ≤ i → -1 ≤ from_ → from_ ≤ (i : Int) → ∀ k, 2 * n + 2 ≤ k →
    scan_Words.l0 k a (acc.map w34) (a.size : Int) from_ a (i : Int) = some ((bw a n i from_ acc).1.map w34, (bw a n i from_ acc).2) := by
  intro N
  induction N with
  | zero =>
    intro n i from_ acc hN hi hl hf0 hf1 k hk
    obtain rfl : n = 0 := by omega
    obtain ⟨k, rfl⟩ : ∃ m, k = m + 1 := ⟨k - 1, by omega⟩
    exact scanWords_end a ha i from_ acc (by omega) hl hf0 hf1 k
  | succ N ih =>
    intro n i from_ acc hN hi hl hf0 hf1 k hk
    obtain ⟨k, rfl⟩ : ∃ m, k = m + 1 := ⟨k - 1, by omega⟩
    by_cases hn : n = 0
    · subst hn
      exact scanWords_end a ha i from_ acc (by omega) hl hf0 hf1 k
    obtain ⟨n, rfl⟩ : ∃ m, n = m + 1 := ⟨n - 1, by omega⟩
    obtain ⟨k, rfl⟩ : ∃ m, k = m + 1 := ⟨k - 1, by omega⟩
    have hs : i < a.size := by omega
    have hb := bt_nat a i hs
    by_cases h128 : (a[i]'hs).toNat < 128
    · have hd : Rm.drune a (i : Int) = bt a (i : Int) := by
        unfold Rm.drune; rw [Int.toNat_natCast, decode_ascii a i hs h128, hb]
      have he : Rm.dnext a (i : Int) = ((i + 1 : Nat) : Int) := by
        unfold Rm.dnext; rw [Int.toNat_natCast, decode_ascii a i hs h128]; rfl
      have g1 : (i : Int) < (a.size : Int) := by omega
      have g0 : (0 : Int) ≤ (i : Int) := by omega
      have g2 : (i : Int) ≤ (a.size : Int) := by omega
      have j1 : ∀ b, scan_Words.j1 (k + 1) a (acc.map w34) (a.size : Int) from_ (i : Int) a ((i + 1 : Nat) : Int) b =
          if b = true then scan_Words.l0 k a ((cutW a from_ i acc).map w34) (a.size : Int) (-1) a ((i + 1 : Nat) : Int) else scan_Words.l0 k a (acc.map w34) (a.size : Int) (if from_ < 0 then (i : Int) else from_) a ((i + 1 : Nat) : Int) := by
        intro b
        rw [scan_Words.j1]
        cases b
        · simp only [Bool.false_eq_true, if_false]
          by_cases hf : from_ < 0
          · rw [if_pos hf, if_pos hf]
          · rw [if_neg hf, if_neg hf]
        · simp only [if_true]
          unfold cutW
          by_cases hf : 0 ≤ from_
          · rw [if_pos (show from_ ≥ 0 from hf), if_pos hf, if_pos hf1, if_pos g2, if_pos (by rw [List.length_map]; omega), if_pos hf, List.map_append]
            rfl
          · rw [if_neg (show ¬ from_ ≥ 0 from hf), if_neg hf]
      have hcl : (cutW a from_ i acc).length ≤ i + 1 := by
        unfold cutW; split
        · rw [List.length_append]; simp only [List.length_cons, List.length_nil]; omega
        · omega
      rw [scan_Words.l0, if_pos g1, if_pos g0, hd, he, bw]
      by_cases h35 : bt a (i : Int) = 35
      · rw [if_pos h35, if_pos h35]
        unfold cutW
        by_cases hf : 0 ≤ from_
        · rw [if_pos (show from_ ≥ 0 from hf), if_pos hf, if_pos hf1, if_pos g2, if_pos (by rw [List.length_map]; omega), if_pos hf, List.map_append]
          rfl
        · rw [if_neg (show ¬ from_ ≥ 0 from hf), if_neg hf]
      · rw [if_neg h35, if_neg h35]
        have goT := ih n (i + 1) (-1) (cutW a from_ i acc) (by omega) (by omega) hcl (by omega) (by omega) k (by omega)
        have goF := ih n (i + 1) (if from_ < 0 then (i : Int) else from_) acc (by omega) (by omega) (by omega) (by split <;> omega) (by split <;> omega) k (by omega)
        by_cases h32 : bt a (i : Int) = 32
        · rw [if_pos h32, j1, if_pos (by rw [h32]; rfl), if_pos (by rw [h32]; rfl)]
          exact goT
        · rw [if_neg h32]
          by_cases h9 : bt a (i : Int) = 9
          · rw [if_pos h9, j1, if_pos (by rw [h9]; rfl), if_pos (by rw [h9]; rfl)]
            exact goT
          · rw [if_neg h9, j1]
            by_cases h13 : bt a (i : Int) = 13
            · rw [if_pos (by rw [h13]; rfl), if_pos (by rw [h13]; rfl)]
              exact goT
            · have q32 : (bt a (i : Int) == 32) = false := by simpa using h32
              have q9 : (bt a (i : Int) == 9) = false := by simpa using h9
              have q13 : (bt a (i : Int) == 13) = false := by simpa using h13
              rw [if_neg (show ¬ (bt a (i : Int) == 13) = true from by rw [q13]; decide), if_neg (show ¬ isBl (bt a (i : Int)) = true from by unfold isBl; rw [q32, q9, q13]; decide)]
              exact goF
    · obtain ⟨hr1, hr2⟩ := decode_high a i hs (by omega)
      obtain ⟨hw, hall⟩ := rune_bytes a i hs (by omega)
      have hd : 128 ≤ Rm.drune a (i : Int) := by
        unfold Rm.drune; rw [Int.toNat_natCast]; omega
      have he : Rm.dnext a (i : Int) = ((i + (Utf8.decode a i).2 : Nat) : Int) := by
        unfold Rm.dnext; rw [Int.toNat_natCast]; omega
      generalize Utf8.decode a i = D at hr1 hr2 hw hall hd he
      obtain ⟨c, m⟩ := D
      simp only at hr2 hw hall he
      have g1 : (i : Int) < (a.size : Int) := by omega
      have g0 : (0 : Int) ≤ (i : Int) := by omega
      have q13 : (Rm.drune a (i : Int) == 13) = false := by
        generalize Rm.drune a (i : Int) = z at hd
        simp; omega
      have goF := ih (n + 1 - m) (i + m) (if from_ < 0 then (i : Int) else from_) acc (by omega) (by omega) (by omega) (by split <;> omega) (by split <;> omega) k (by omega)
      rw [scan_Words.l0, if_pos g1, if_pos g0, if_neg (by omega), if_neg (by omega), if_neg (by omega), he, q13, scan_Words.j1, if_neg (by decide)]
      rw [show n + 1 = (n + 1 - m) + m from by omega, bw_rune a m (n + 1 - m) i from_ acc hr2 hall]
      by_cases hf : from_ < 0
      · rw [if_pos hf] at goF ⊢
        rw [if_pos hf]
        exact goF
      · rw [if_neg hf] at goF ⊢
        rw [if_neg hf]
        exact goF
theorem scanWords_ok (a : ByteArray) (ha : a.size ≤ 16777216) (k : Nat) (hk : 2 * a.size + 2 ≤ k) :
    scan_Words.f k a = some ((bw a a.size 0 (-1) []).1.map w34, (bw a a.size 0 (-1) []).2) :=
  scanWords_loop a ha a.size a.size 0 (-1) [] (Nat.le_refl _) (by omega) (Nat.le_refl _) (by omega) (by omega) k hk
end Go.Proofs.Ytplnakmpogepmab.Plain
