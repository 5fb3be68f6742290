import Derived.Test.YtplnakmpogepmabBaseP
import Derived.Test.YtplnakmpogepmabAx1
import Derived.Test.YtplnakmpogepmabAx6
import Derived.Test.YtplnakmpogepmabAx2
import Derived.Test.YtplnakmpogepmabAx7
import Derived.Test.YtplnakmpogepmabAx3
import Derived.Test.YtplnakmpogepmabAx8
import Derived.Test.YtplnakmpogepmabAx4
import Derived.Test.YtplnakmpogepmabAx9
/-! ScanReads: the program's readers and the document's. -/
namespace Go.Proofs.Ytplnakmpogepmab.Plain
open Go.RowKit Go.Proofs.YtplnakmpogepmabW.PrintWords Go.Proofs.YtplnakmpogepmabW.PrintLast Go.Proofs.YtplnakmpogepmabW.PrintMore Go.Proofs.Ytplnakmpogepmab.A
set_option linter.unusedVariables false
set_option linter.unusedSimpArgs false

theorem digit_all : ∀ b : Fin 256, scan_digit.f 20 ((b.val : Nat) : Int) = endonymref5_hex.f 20 ((b.val : Nat) : Int) ∧ (scan_digit.f 20 ((b.val : Nat) : Int)).isSome = true := by decide +kernel
theorem digit_ok (b : Int) (h0 : 0 ≤ b) (h1 : b ≤ 255) : ∃ d, ∀ k, 20 ≤ k → scan_digit.f k b = some d ∧ endonymref5_hex.f k b = some d := by
  have h := digit_all ⟨b.toNat, by omega⟩
  simp only [show ((b.toNat : Nat) : Int) = b from by omega] at h
  obtain ⟨d, hd⟩ := Option.isSome_iff_exists.1 h.2
  exact ⟨d, fun k hk => ⟨at_rounds (scan_digit.mono b) hk hd, at_rounds (endonymref5_hex.mono b) hk (h.1 ▸ hd)⟩⟩
theorem wsucc (i : Nat) (h : i ≤ 4611686018427387001) : wrap64 ((i : Int) + 1) = ((i + 1 : Nat) : Int) := by rw [w64 (by omega) (by omega)]; rfl
theorem Code_loop (a : ByteArray) (ha : a.size ≤ 4611686018427387000) : ∀ (n i : Nat) (v : Int), i + n = a.size →
    ∃ r, ∀ k, n + 22 ≤ k → scan_Code.l0 k a v (a.size : Int) (i : Int) = some r ∧ endonymref5_Code.l0 k a v (i : Int) = some r := by
  intro n
  induction n with
  | zero =>
    intro i v hi
    by_cases hv : v > 1114111
    · refine ⟨(0, false), fun k hk => ?_⟩
      obtain ⟨k, rfl⟩ : ∃ m, k = m + 1 := ⟨k - 1, by omega⟩
      have hn : ¬ (i : Int) < (a.size : Int) := by omega
      rw [scan_Code.l0, endonymref5_Code.l0]
      simp only [if_neg hn, if_pos hv]
      all_goals (first | exact ⟨rfl, rfl⟩ | exact ⟨trivial, trivial⟩)
    · refine ⟨(wrap32 v, true), fun k hk => ?_⟩
      obtain ⟨k, rfl⟩ : ∃ m, k = m + 1 := ⟨k - 1, by omega⟩
      have hn : ¬ (i : Int) < (a.size : Int) := by omega
      rw [scan_Code.l0, endonymref5_Code.l0]
      simp only [if_neg hn, if_neg hv]
      all_goals (first | exact ⟨rfl, rfl⟩ | exact ⟨trivial, trivial⟩)
  | succ n ih =>
    intro i v hi
    obtain ⟨d, hd⟩ := digit_ok (bt a (i : Int)) (bt_range a i).1 (bt_range a i).2
    by_cases h : d < 0
    · refine ⟨(0, false), fun k hk => ?_⟩
      obtain ⟨k, rfl⟩ : ∃ m, k = m + 1 := ⟨k - 1, by omega⟩
      have hi1 : (i : Int) < (a.size : Int) := by omega
      have hi0 : (0 : Int) ≤ (i : Int) := by omega
      rw [scan_Code.l0, endonymref5_Code.l0]
      simp only [if_pos hi1, if_pos hi0, (hd k (by omega)).1, (hd k (by omega)).2, Option.bind_some, if_pos h]
      all_goals (first | exact ⟨rfl, rfl⟩ | exact ⟨trivial, trivial⟩)
    · obtain ⟨r, hr⟩ := ih (i + 1) (wrap64 (wrap64 (16 * v) + d)) (by omega)
      refine ⟨r, fun k hk => ?_⟩
      obtain ⟨k, rfl⟩ : ∃ m, k = m + 1 := ⟨k - 1, by omega⟩
      have hi1 : (i : Int) < (a.size : Int) := by omega
      have hi0 : (0 : Int) ≤ (i : Int) := by omega
      rw [scan_Code.l0, endonymref5_Code.l0]
      simp only [if_pos hi1, if_pos hi0, (hd k (by omega)).1, (hd k (by omega)).2, Option.bind_some, if_neg h]
      rw [wsucc i (by omega)]
      exact hr k (by omega)
theorem Code_ok (a : ByteArray) (ha : a.size ≤ 4611686018427387000) : ∃ r, ∀ k, a.size + 30 ≤ k → scan_Code.f k a = some r ∧ endonymref5_Code.f k a = some r := by
  obtain ⟨r, hr⟩ := Code_loop a ha a.size 0 0 (by omega)
  have j1 : ∀ k, a.size + 30 ≤ k → scan_Code.j0 k a true = some (0, false) ∧ endonymref5_Code.j0 k a true = some (0, false) := by
    intro k hk
    obtain ⟨k, rfl⟩ : ∃ m, k = m + 1 := ⟨k - 1, by omega⟩
    rw [scan_Code.j0, endonymref5_Code.j0]
    simp only [if_pos rfl]
    all_goals (first | exact ⟨rfl, rfl⟩ | exact ⟨trivial, trivial⟩)
  have j2 : ∀ k, a.size + 30 ≤ k → scan_Code.j0 k a false = some r ∧ endonymref5_Code.j0 k a false = some r := by
    intro k hk
    obtain ⟨k, rfl⟩ : ∃ m, k = m + 1 := ⟨k - 1, by omega⟩
    rw [scan_Code.j0, endonymref5_Code.j0]
    simp only [Bool.false_eq_true, if_false]
    exact hr k (by omega)
  by_cases h1 : (a.size : Int) < 1
  · refine ⟨(0, false), fun k hk => ?_⟩
    unfold scan_Code.f endonymref5_Code.f
    simp only [if_pos h1]
    exact j1 k hk
  by_cases h2 : (a.size : Int) > 6
  · refine ⟨(0, false), fun k hk => ?_⟩
    unfold scan_Code.f endonymref5_Code.f
    simp only [if_neg h1, if_pos h2]
    exact j1 k hk
  have h0 : 0 < (a.size : Int) := by omega
  by_cases h4 : (a.size : Int) > 1
  · by_cases h3 : bt a 0 = 48
    · refine ⟨(0, false), fun k hk => ?_⟩
      unfold scan_Code.f endonymref5_Code.f
      simp only [if_neg h1, if_neg h2, if_pos h0, if_pos h3, if_pos h4, decide_eq_true h4, show (bt a 0 == 48) = true from by rw [h3]; rfl]
      exact j1 k hk
    · refine ⟨r, fun k hk => ?_⟩
      unfold scan_Code.f endonymref5_Code.f
      simp only [if_neg h1, if_neg h2, if_pos h0, if_neg h3, if_pos h4, show (bt a 0 == 48) = false from by simpa using h3]
      exact j2 k hk
  · refine ⟨r, fun k hk => ?_⟩
    unfold scan_Code.f endonymref5_Code.f
    simp only [if_neg h1, if_neg h2, if_pos h0, if_neg h4, decide_eq_false h4, ite_self]
    exact j2 k hk
theorem Span_hit (a : ByteArray) (ha : a.size ≤ 4611686018427387000) (i : Nat) (hi : i + 2 ≤ a.size) :
    ∃ r, ∀ k, a.size + 40 ≤ k → scan_Span.j1 k a (i : Int) true = some r ∧ endonymref5_Span.j1 k a (i : Int) true = some r := by
  obtain ⟨p, hp⟩ := Code_ok (a.extract 0 i) (by rw [ByteArray.size_extract]; omega)
  obtain ⟨q, hq⟩ := Code_ok (a.extract (i + 2) a.size) (by rw [ByteArray.size_extract]; omega)
  have sp : (a.extract 0 i).size ≤ a.size := by rw [ByteArray.size_extract]; omega
  have sq : (a.extract (i + 2) a.size).size ≤ a.size := by rw [ByteArray.size_extract]; omega
  have e : wrap64 ((i : Int) + 2) = ((i + 2 : Nat) : Int) := by rw [w64 (by omega) (by omega)]; rfl
  have g1 : (0 : Int) ≤ (i : Int) := by omega
  have g2 : (i : Int) ≤ (a.size : Int) := by omega
  have g3 : (0 : Int) ≤ ((i + 2 : Nat) : Int) := by omega
  have g4 : ((i + 2 : Nat) : Int) ≤ (a.size : Int) := by omega
  refine ⟨if p.2 = true then (if q.2 = true then (if p.1 < q.1 then (p.1, q.1, true) else (0, 0, false)) else (0, 0, false)) else (0, 0, false), fun k hk => ?_⟩
  obtain ⟨k, rfl⟩ : ∃ m, k = m + 1 := ⟨k - 1, by omega⟩
  rw [scan_Span.j1, endonymref5_Span.j1]
  simp only [if_true, if_pos g1, if_pos g2, e, Int.toNat_natCast, if_pos g3, if_pos g4, (hp k (by omega)).1, (hp k (by omega)).2, (hq k (by omega)).1, (hq k (by omega)).2, Option.bind_some]
  by_cases h1 : p.2 = true
  · by_cases h2 : q.2 = true
    · by_cases h3 : p.1 < q.1
      · rw [if_pos h1, if_pos h2, if_pos h1, if_pos h2, if_pos h1, if_pos h2, if_pos h3, if_pos h3, if_neg (by omega)]
        all_goals (first | exact ⟨rfl, rfl⟩ | exact ⟨trivial, trivial⟩)
      · rw [if_pos h1, if_pos h2, if_pos h1, if_pos h2, if_pos h1, if_pos h2, if_neg h3, if_neg h3, if_pos (by omega)]
        all_goals (first | exact ⟨rfl, rfl⟩ | exact ⟨trivial, trivial⟩)
    · rw [if_pos h1, if_neg h2, if_pos h1, if_neg h2, if_pos h1, if_neg h2]
      all_goals (first | exact ⟨rfl, rfl⟩ | exact ⟨trivial, trivial⟩)
  · rw [if_neg h1, if_neg h1, if_neg h1]
    all_goals (first | exact ⟨rfl, rfl⟩ | exact ⟨trivial, trivial⟩)
theorem Span_loop (a : ByteArray) (ha : a.size ≤ 4611686018427387000) : ∀ (n i : Nat), i + n = a.size →
    ∃ r, ∀ k, 2 * n + a.size + 50 ≤ k → scan_Span.l0 k a (i : Int) = some r ∧ endonymref5_Span.l0 k a (i : Int) = some r := by
  obtain ⟨c, hc⟩ := Code_ok a ha
  intro n
  induction n with
  | zero =>
    intro i hi
    refine ⟨(c.1, c.1, c.2), fun k hk => ?_⟩
    obtain ⟨k, rfl⟩ : ∃ m, k = m + 1 := ⟨k - 1, by omega⟩
    have hn : ¬ ((i + 1 : Nat) : Int) < (a.size : Int) := by omega
    rw [scan_Span.l0, endonymref5_Span.l0, wsucc i (by omega)]
    simp only [if_neg hn, (hc k (by omega)).1, (hc k (by omega)).2, Option.bind_some]
    all_goals (first | exact ⟨rfl, rfl⟩ | exact ⟨trivial, trivial⟩)
  | succ n ih =>
    intro i hi
    by_cases h : i + 1 < a.size
    · have g0 : ((i + 1 : Nat) : Int) < (a.size : Int) := by omega
      have g1 : (0 : Int) ≤ (i : Int) := by omega
      have g2 : (i : Int) < (a.size : Int) := by omega
      have g3 : (0 : Int) ≤ ((i + 1 : Nat) : Int) := by omega
      obtain ⟨r, hr⟩ := ih (i + 1) (by omega)
      have miss : ∀ k, 2 * n + a.size + 51 ≤ k → scan_Span.j1 k a (i : Int) false = some r ∧ endonymref5_Span.j1 k a (i : Int) false = some r := by
        intro k hk
        obtain ⟨k, rfl⟩ : ∃ m, k = m + 1 := ⟨k - 1, by omega⟩
        rw [scan_Span.j1, endonymref5_Span.j1]
        simp only [Bool.false_eq_true, if_false, wsucc i (by omega)]
        exact hr k (by omega)
      by_cases h1 : bt a (i : Int) = 46
      · by_cases h2 : bt a ((i + 1 : Nat) : Int) = 46
        · obtain ⟨s, hs⟩ := Span_hit a ha i (by omega)
          refine ⟨s, fun k hk => ?_⟩
          obtain ⟨k, rfl⟩ : ∃ m, k = m + 1 := ⟨k - 1, by omega⟩
          rw [scan_Span.l0, endonymref5_Span.l0, wsucc i (by omega)]
          simp only [if_pos g0, if_pos g1, if_pos g2, if_pos g3, if_pos h1, show (bt a ((i + 1 : Nat) : Int) == 46) = true from by rw [h2]; rfl]
          exact hs k (by omega)
        · refine ⟨r, fun k hk => ?_⟩
          obtain ⟨k, rfl⟩ : ∃ m, k = m + 1 := ⟨k - 1, by omega⟩
          rw [scan_Span.l0, endonymref5_Span.l0, wsucc i (by omega)]
          simp only [if_pos g0, if_pos g1, if_pos g2, if_pos g3, if_pos h1, show (bt a ((i + 1 : Nat) : Int) == 46) = false from by simpa using h2]
          exact miss k (by omega)
      · refine ⟨r, fun k hk => ?_⟩
        obtain ⟨k, rfl⟩ : ∃ m, k = m + 1 := ⟨k - 1, by omega⟩
        rw [scan_Span.l0, endonymref5_Span.l0, wsucc i (by omega)]
        simp only [if_pos g0, if_pos g1, if_pos g2, if_pos g3, if_neg h1]
        exact miss k (by omega)
    · refine ⟨(c.1, c.1, c.2), fun k hk => ?_⟩
      obtain ⟨k, rfl⟩ : ∃ m, k = m + 1 := ⟨k - 1, by omega⟩
      have hn : ¬ ((i + 1 : Nat) : Int) < (a.size : Int) := by omega
      rw [scan_Span.l0, endonymref5_Span.l0, wsucc i (by omega)]
      simp only [if_neg hn, (hc k (by omega)).1, (hc k (by omega)).2, Option.bind_some]
      all_goals (first | exact ⟨rfl, rfl⟩ | exact ⟨trivial, trivial⟩)
theorem Span_ok (a : ByteArray) (ha : a.size ≤ 4611686018427387000) : ∃ r, ∀ k, 3 * a.size + 50 ≤ k → scan_Span.f k a = some r ∧ endonymref5_Span.f k a = some r := by
  obtain ⟨r, hr⟩ := Span_loop a ha a.size 0 (by omega)
  exact ⟨r, fun k hk => hr k (by omega)⟩
theorem Whole_loop (a : ByteArray) (ha : a.size ≤ 4611686018427387000) (b : Bool) : ∀ (n i : Nat) (v : Int), i + n = a.size →
    ∃ r, ∀ k, n + 1 ≤ k → scan_Whole.l0 k a b v (a.size : Int) (i : Int) = some r ∧ endonymref5_Whole.l0 k a b v (i : Int) = some r := by
  intro n
  induction n with
  | zero =>
    intro i v hi
    refine ⟨if b = true then (wrap64 (-v), true) else (v, true), fun k hk => ?_⟩
    obtain ⟨k, rfl⟩ : ∃ m, k = m + 1 := ⟨k - 1, by omega⟩
    have hn : ¬ (i : Int) < (a.size : Int) := by omega
    rw [scan_Whole.l0, endonymref5_Whole.l0]
    simp only [if_neg hn]
    cases b
    · exact ⟨rfl, rfl⟩
    · exact ⟨rfl, rfl⟩
  | succ n ih =>
    intro i v hi
    obtain ⟨r, hr⟩ := ih (i + 1) (wrap64 (wrap64 (10 * v) + ((bt a (i : Int) - 48) % 256))) (by omega)
    have hi1 : (i : Int) < (a.size : Int) := by omega
    have hi0 : (0 : Int) ≤ (i : Int) := by omega
    by_cases h : bt a (i : Int) < 48
    · refine ⟨(0, false), fun k hk => ?_⟩
      obtain ⟨k, rfl⟩ : ∃ m, k = m + 1 := ⟨k - 1, by omega⟩
      rw [scan_Whole.l0, endonymref5_Whole.l0]
      simp only [if_pos hi1, if_pos hi0, if_pos h]
      all_goals (first | exact ⟨rfl, rfl⟩ | exact ⟨trivial, trivial⟩)
    by_cases h2 : bt a (i : Int) > 57
    · refine ⟨(0, false), fun k hk => ?_⟩
      obtain ⟨k, rfl⟩ : ∃ m, k = m + 1 := ⟨k - 1, by omega⟩
      rw [scan_Whole.l0, endonymref5_Whole.l0]
      simp only [if_pos hi1, if_pos hi0, if_neg h, if_pos h2]
      all_goals (first | exact ⟨rfl, rfl⟩ | exact ⟨trivial, trivial⟩)
    · refine ⟨r, fun k hk => ?_⟩
      obtain ⟨k, rfl⟩ : ∃ m, k = m + 1 := ⟨k - 1, by omega⟩
      rw [scan_Whole.l0, endonymref5_Whole.l0]
      simp only [if_pos hi1, if_pos hi0, if_neg h, if_neg h2]
      rw [wsucc i (by omega)]
      exact hr k (by omega)
theorem Whole_j1 (a : ByteArray) (ha : a.size ≤ 4611686018427387000) (b : Bool) : ∃ r, ∀ k, a.size + 10 ≤ k → scan_Whole.j1 k a b = some r ∧ endonymref5_Whole.j1 k a b = some r := by
  obtain ⟨r, hr⟩ := Whole_loop a ha b a.size 0 0 (by omega)
  have j1 : ∀ k, a.size + 5 ≤ k → scan_Whole.j2 k a b true = some (0, false) ∧ endonymref5_Whole.j2 k a b true = some (0, false) := by
    intro k hk
    obtain ⟨k, rfl⟩ : ∃ m, k = m + 1 := ⟨k - 1, by omega⟩
    rw [scan_Whole.j2, endonymref5_Whole.j2]
    simp only [if_pos rfl]
    all_goals (first | exact ⟨rfl, rfl⟩ | exact ⟨trivial, trivial⟩)
  have j2 : ∀ k, a.size + 5 ≤ k → scan_Whole.j2 k a b false = some r ∧ endonymref5_Whole.j2 k a b false = some r := by
    intro k hk
    obtain ⟨k, rfl⟩ : ∃ m, k = m + 1 := ⟨k - 1, by omega⟩
    rw [scan_Whole.j2, endonymref5_Whole.j2]
    simp only [Bool.false_eq_true, if_false]
    exact hr k (by omega)
  by_cases h1 : (a.size : Int) < 1
  · refine ⟨(0, false), fun k hk => ?_⟩
    obtain ⟨k, rfl⟩ : ∃ m, k = m + 1 := ⟨k - 1, by omega⟩
    rw [scan_Whole.j1, endonymref5_Whole.j1]
    simp only [if_pos h1]
    exact j1 k (by omega)
  by_cases h2 : (a.size : Int) > 9
  · refine ⟨(0, false), fun k hk => ?_⟩
    obtain ⟨k, rfl⟩ : ∃ m, k = m + 1 := ⟨k - 1, by omega⟩
    rw [scan_Whole.j1, endonymref5_Whole.j1]
    simp only [if_neg h1, if_pos h2]
    exact j1 k (by omega)
  have h0 : 0 < (a.size : Int) := by omega
  cases h3 : (bt a 0 == 48)
  · refine ⟨r, fun k hk => ?_⟩
    obtain ⟨k, rfl⟩ : ∃ m, k = m + 1 := ⟨k - 1, by omega⟩
    rw [scan_Whole.j1, endonymref5_Whole.j1]
    simp only [if_neg h1, if_neg h2, if_pos h0, h3]
    exact j2 k (by omega)
  · refine ⟨(0, false), fun k hk => ?_⟩
    obtain ⟨k, rfl⟩ : ∃ m, k = m + 1 := ⟨k - 1, by omega⟩
    rw [scan_Whole.j1, endonymref5_Whole.j1]
    simp only [if_neg h1, if_neg h2, if_pos h0, h3]
    exact j1 k (by omega)
theorem Whole_ok (a : ByteArray) (ha : a.size ≤ 4611686018427387000) : ∃ r, ∀ k, a.size + 20 ≤ k → scan_Whole.f k a = some r ∧ endonymref5_Whole.f k a = some r := by
  by_cases h0 : a.toList = ([48] : List UInt8)
  · refine ⟨(0, true), fun k hk => ?_⟩
    unfold scan_Whole.f endonymref5_Whole.f
    simp only [if_pos h0]
    all_goals (first | exact ⟨rfl, rfl⟩ | exact ⟨trivial, trivial⟩)
  have f0 : ∃ r, ∀ k, a.size + 20 ≤ k → scan_Whole.j0 k a false = some r ∧ endonymref5_Whole.j0 k a false = some r := by
    obtain ⟨r, hr⟩ := Whole_j1 a ha false
    refine ⟨r, fun k hk => ?_⟩
    obtain ⟨k, rfl⟩ : ∃ m, k = m + 1 := ⟨k - 1, by omega⟩
    rw [scan_Whole.j0, endonymref5_Whole.j0]
    simp only [Bool.false_eq_true, if_false]
    exact hr k (by omega)
  by_cases h1 : (a.size : Int) > 0
  · cases h3 : (bt a 0 == 45)
    · obtain ⟨r, hr⟩ := f0
      refine ⟨r, fun k hk => ?_⟩
      unfold scan_Whole.f endonymref5_Whole.f
      simp only [if_neg h0, if_pos h1, h3]
      exact hr k hk
    · have sp : (a.extract 1 a.size).size ≤ a.size := by rw [ByteArray.size_extract]; omega
      obtain ⟨r, hr⟩ := Whole_j1 (a.extract 1 a.size) (by omega) true
      refine ⟨r, fun k hk => ?_⟩
      unfold scan_Whole.f endonymref5_Whole.f
      simp only [if_neg h0, if_pos h1, h3]
      obtain ⟨k, rfl⟩ : ∃ m, k = m + 1 := ⟨k - 1, by omega⟩
      rw [scan_Whole.j0, endonymref5_Whole.j0]
      simp only [if_true, if_pos (show (1 : Int) ≤ (a.size : Int) from by omega)]
      exact hr k (by omega)
  · obtain ⟨r, hr⟩ := f0
    refine ⟨r, fun k hk => ?_⟩
    unfold scan_Whole.f endonymref5_Whole.f
    simp only [if_neg h0, if_neg h1]
    exact hr k hk
theorem Name_loop (a : ByteArray) (ha : a.size = 4) : ∀ (n i : Nat), i + n = 4 →
    ∃ r, ∀ k, n + 1 ≤ k → scan_Name.l0 k a (i : Int) = some r ∧ endonymref5_Name.l0 k a (i : Int) = some r := by
  intro n
  induction n with
  | zero =>
    intro i hi
    refine ⟨true, fun k hk => ?_⟩
    obtain ⟨k, rfl⟩ : ∃ m, k = m + 1 := ⟨k - 1, by omega⟩
    have hn : ¬ (i : Int) < 4 := by omega
    rw [scan_Name.l0, endonymref5_Name.l0]
    simp only [if_neg hn]
    all_goals (first | exact ⟨rfl, rfl⟩ | exact ⟨trivial, trivial⟩)
  | succ n ih =>
    intro i hi
    obtain ⟨r, hr⟩ := ih (i + 1) (by omega)
    have hi4 : (i : Int) < 4 := by omega
    have hi1 : (i : Int) < (a.size : Int) := by omega
    have hi0 : (0 : Int) ≤ (i : Int) := by omega
    by_cases h : bt a (i : Int) < 97
    · refine ⟨false, fun k hk => ?_⟩
      obtain ⟨k, rfl⟩ : ∃ m, k = m + 1 := ⟨k - 1, by omega⟩
      rw [scan_Name.l0, endonymref5_Name.l0]
      simp only [if_pos hi4, if_pos hi1, if_pos hi0, if_pos h]
      all_goals (first | exact ⟨rfl, rfl⟩ | exact ⟨trivial, trivial⟩)
    by_cases h2 : bt a (i : Int) > 122
    · refine ⟨false, fun k hk => ?_⟩
      obtain ⟨k, rfl⟩ : ∃ m, k = m + 1 := ⟨k - 1, by omega⟩
      rw [scan_Name.l0, endonymref5_Name.l0]
      simp only [if_pos hi4, if_pos hi1, if_pos hi0, if_neg h, if_pos h2]
      all_goals (first | exact ⟨rfl, rfl⟩ | exact ⟨trivial, trivial⟩)
    · refine ⟨r, fun k hk => ?_⟩
      obtain ⟨k, rfl⟩ : ∃ m, k = m + 1 := ⟨k - 1, by omega⟩
      rw [scan_Name.l0, endonymref5_Name.l0]
      simp only [if_pos hi4, if_pos hi1, if_pos hi0, if_neg h, if_neg h2]
      rw [wsucc i (by omega)]
      exact hr k (by omega)
theorem Name_ok (a : ByteArray) : ∃ r, ∀ k, 20 ≤ k → scan_Name.f k a = some r ∧ endonymref5_Name.f k a = some r := by
  have j1 : ∀ k, 20 ≤ k → scan_Name.j0 k a true = some false ∧ endonymref5_Name.j0 k a true = some false := by
    intro k hk
    obtain ⟨k, rfl⟩ : ∃ m, k = m + 1 := ⟨k - 1, by omega⟩
    rw [scan_Name.j0, endonymref5_Name.j0]
    simp only [if_pos rfl]
    all_goals (first | exact ⟨rfl, rfl⟩ | exact ⟨trivial, trivial⟩)
  by_cases h4 : a.size = 4
  · have h4' : (a.size : Int) = 4 := by omega
    have h0 : 0 < (a.size : Int) := by omega
    obtain ⟨r, hr⟩ := Name_loop a h4 3 1 (by omega)
    have j2 : ∀ k, 20 ≤ k → scan_Name.j0 k a false = some r ∧ endonymref5_Name.j0 k a false = some r := by
      intro k hk
      obtain ⟨k, rfl⟩ : ∃ m, k = m + 1 := ⟨k - 1, by omega⟩
      rw [scan_Name.j0, endonymref5_Name.j0]
      simp only [Bool.false_eq_true, if_false]
      exact hr k (by omega)
    by_cases h : bt a 0 < 65
    · refine ⟨false, fun k hk => ?_⟩
      unfold scan_Name.f endonymref5_Name.f
      simp only [if_pos h4', if_pos h0, if_pos h]
      exact j1 k hk
    by_cases h2 : bt a 0 > 90
    · refine ⟨false, fun k hk => ?_⟩
      unfold scan_Name.f endonymref5_Name.f
      simp only [if_pos h4', if_pos h0, if_neg h, decide_eq_true h2]
      exact j1 k hk
    · refine ⟨r, fun k hk => ?_⟩
      unfold scan_Name.f endonymref5_Name.f
      simp only [if_pos h4', if_pos h0, if_neg h, decide_eq_false h2]
      exact j2 k hk
  · refine ⟨false, fun k hk => ?_⟩
    have h4' : ¬ (a.size : Int) = 4 := by omega
    unfold scan_Name.f endonymref5_Name.f
    rw [if_neg h4', if_neg h4']
    exact j1 k hk
theorem told5_ok (k : Nat) (hk : 40 ≤ k) : endonymlaw5_told.f k = some true := at_rounds endonymlaw5_told.mono hk (by decide +kernel)
theorem ScanReads_ok (a : ByteArray) (ha : a.size ≤ 4611686018427387000) : ∃ k, endonymlaw5_ScanReads.f k a = some true := by
  obtain ⟨c, hc⟩ := Code_ok a ha
  obtain ⟨s, hs⟩ := Span_ok a ha
  obtain ⟨w, hw⟩ := Whole_ok a ha
  obtain ⟨n, hn⟩ := Name_ok a
  refine ⟨3 * a.size + 200 + 1 + 1, ?_⟩
  have c1 := hc (3 * a.size + 200 + 1 + 1) (by omega)
  have t1 := told5_ok (3 * a.size + 200 + 1 + 1) (by omega)
  have s1 := hs (3 * a.size + 200 + 1) (by omega)
  have w1 := hw (3 * a.size + 200) (by omega)
  have n1 := hn (3 * a.size + 200) (by omega)
  generalize 3 * a.size + 200 = k at *
  unfold endonymlaw5_ScanReads.f
  rw [c1.1, c1.2, t1]
  simp only [Option.bind_some, if_true, bne_self_eq_false]
  rw [endonymlaw5_ScanReads.j0, if_neg (by decide), s1.1, s1.2]
  simp only [Option.bind_some, if_true, bne_self_eq_false]
  rw [endonymlaw5_ScanReads.j1, if_neg (by decide), w1.1, w1.2]
  simp only [Option.bind_some, if_true, beq_self_eq_true]
  rw [n1.1, n1.2]
  simp only [Option.bind_some, beq_self_eq_true]
end Go.Proofs.Ytplnakmpogepmab.Plain
