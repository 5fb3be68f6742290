import Derived.Test.YtplnakmpogepmabScanWordsL
/-! The document's Words. -/
namespace Go.Proofs.Ytplnakmpogepmab.Plain
open Go.RowKit Go.Proofs.YtplnakmpogepmabW.PrintWords Go.Proofs.YtplnakmpogepmabW.PrintLast Go.Proofs.YtplnakmpogepmabW.PrintMore Go.Proofs.Ytplnakmpogepmab.A
set_option linter.unusedVariables false
set_option linter.unusedSimpArgs false

theorem blank_is (c : Int) : endonymref5_blank.f c = some (isBl c) := by
  unfold endonymref5_blank.f isBl
  by_cases h1 : c = 32
  · rw [if_pos h1, h1]; rfl
  · rw [if_neg h1]
    by_cases h2 : c = 9
    · rw [if_pos h2, h2]; rfl
    · rw [if_neg h2, show (c == 32) = false from by simpa using h1, show (c == 9) = false from by simpa using h2]; rfl
theorem bw_end (a : ByteArray) (E : Nat) (hE : E ≤ a.size) (h35 : E = a.size ∨ bt a (E : Int) = 35) (from_ : Int) (acc : List (ByteArray × Int)) :
    bw a (a.size - E) E from_ acc = (cutW a from_ E acc, (E : Int)) := by
  rcases h35 with h | h
  · rw [show a.size - E = 0 from by omega, bw]
  · by_cases hs : E = a.size
    · rw [show a.size - E = 0 from by omega, bw]
    · rw [show a.size - E = (a.size - E - 1) + 1 from by omega, bw, if_pos h]
theorem bw_step (a : ByteArray) (i : Nat) (hi : i < a.size) (h35 : bt a (i : Int) ≠ 35) (from_ : Int) (acc : List (ByteArray × Int)) :
    bw a (a.size - i) i from_ acc = if isBl (bt a (i : Int)) = true then bw a (a.size - (i + 1)) (i + 1) (-1) (cutW a from_ i acc) else bw a (a.size - (i + 1)) (i + 1) (if from_ < 0 then (i : Int) else from_) acc := by
  rw [show a.size - i = (a.size - (i + 1)) + 1 from by omega, bw, if_neg h35]
theorem cutW_neg (a : ByteArray) (e : Nat) (acc : List (ByteArray × Int)) : cutW a (-1) e acc = acc := by unfold cutW; rw [if_neg (by decide)]
theorem cutW_map (a : ByteArray) (f e : Nat) (acc : List (ByteArray × Int)) : (cutW a (f : Int) e acc).map w48 = acc.map w48 ++ [(⟨a.extract (f : Int).toNat (e : Int).toNat, (f : Int)⟩ : S48)] := by
  unfold cutW; rw [if_pos (by omega), List.map_append]; rfl
theorem refWords_loops (a : ByteArray) (ha : a.size ≤ 1048576) (E : Nat) (hE : E ≤ a.size) (h35 : E = a.size ∨ bt a (E : Int) = 35) (hb : ∀ j, j < E → bt a (j : Int) ≠ 35) : ∀ n i, i + n = E →
    (∀ acc : List (ByteArray × Int), acc.length ≤ i → ∀ k, 3 * n + 1 ≤ k → endonymref5_Words.l1 k a (E : Int) (acc.map w48) (i : Int) = some ((bw a (a.size - i) i (-1) acc).1.map w48, (bw a (a.size - i) i (-1) acc).2)) ∧
    (∀ (acc : List (ByteArray × Int)) (f : Nat), f < i → acc.length ≤ f → ∀ k, 3 * n + 2 ≤ k → endonymref5_Words.l2 k a (E : Int) (acc.map w48) (i : Int) (f : Int) = some ((bw a (a.size - i) i (f : Int) acc).1.map w48, (bw a (a.size - i) i (f : Int) acc).2)) := by
  intro n
  induction n with
  | zero =>
    intro i hi
    obtain rfl : i = E := by omega
    have L1 : ∀ acc : List (ByteArray × Int), ∀ k, 1 ≤ k → endonymref5_Words.l1 k a (i : Int) (acc.map w48) (i : Int) = some (acc.map w48, (i : Int)) := by
      intro acc k hk
      obtain ⟨k, rfl⟩ : ∃ m, k = m + 1 := ⟨k - 1, by omega⟩
      rw [endonymref5_Words.l1, if_neg (by omega)]
    refine ⟨fun acc hl k hk => ?_, fun acc f hf hl k hk => ?_⟩
    · rw [L1 acc k (by omega), bw_end a i hE h35, cutW_neg]
    · obtain ⟨k, rfl⟩ : ∃ m, k = m + 1 := ⟨k - 1, by omega⟩
      rw [endonymref5_Words.l2, if_neg (by omega), if_pos (by omega), if_pos (by omega), if_pos (by omega), if_pos (by rw [List.length_map]; omega), ← cutW_map, L1 _ k (by omega), bw_end a i hE h35]
  | succ n ih =>
    intro i hi
    obtain ⟨ih1, ih2⟩ := ih (i + 1) (by omega)
    have hs : i < a.size := by omega
    have hne := hb i (by omega)
    have g0 : (0 : Int) ≤ (i : Int) := by omega
    have g1 : (i : Int) < (E : Int) := by omega
    have g2 : (i : Int) < (a.size : Int) := by omega
    have L1 : ∀ acc : List (ByteArray × Int), acc.length ≤ i → ∀ k, 3 * (n + 1) + 1 ≤ k → endonymref5_Words.l1 k a (E : Int) (acc.map w48) (i : Int) = some ((bw a (a.size - i) i (-1) acc).1.map w48, (bw a (a.size - i) i (-1) acc).2) := by
      intro acc hl k hk
      obtain ⟨k, rfl⟩ : ∃ m, k = m + 1 := ⟨k - 1, by omega⟩
      rw [endonymref5_Words.l1, if_pos g1, if_pos g0, if_pos g2, blank_is, Option.bind_some, bw_step a i hs hne]
      by_cases hB : isBl (bt a (i : Int)) = true
      · rw [if_pos hB, if_pos hB, cutW_neg, wsucc i (by omega)]
        exact ih1 acc (by omega) k (by omega)
      · rw [if_neg hB, if_neg hB, if_pos (by decide)]
        obtain ⟨k, rfl⟩ : ∃ m, k = m + 1 := ⟨k - 1, by omega⟩
        rw [endonymref5_Words.l2, if_pos g1, if_pos g0, if_pos g2, blank_is, Option.bind_some, if_neg hB, wsucc i (by omega)]
        exact ih2 acc i (by omega) hl k (by omega)
    refine ⟨L1, fun acc f hf hl k hk => ?_⟩
    obtain ⟨k, rfl⟩ : ∃ m, k = m + 1 := ⟨k - 1, by omega⟩
    rw [endonymref5_Words.l2, if_pos g1, if_pos g0, if_pos g2, blank_is, Option.bind_some]
    by_cases hB : isBl (bt a (i : Int)) = true
    · have hc : (cutW a (f : Int) i acc).length ≤ i := by
        unfold cutW; rw [if_pos (by omega), List.length_append]; simp only [List.length_cons, List.length_nil]; omega
      have h := L1 (cutW a (f : Int) i acc) hc k (by omega)
      rw [bw_step a i hs hne, if_pos hB, cutW_neg] at h
      rw [if_pos hB, if_pos (by omega), if_pos (by omega), if_pos (by omega), if_pos (by rw [List.length_map]; omega), ← cutW_map, bw_step a i hs hne, if_pos hB]
      exact h
    · rw [if_neg hB, bw_step a i hs hne, if_neg hB, if_neg (by omega), wsucc i (by omega)]
      exact ih2 acc f (by omega) hl k (by omega)
theorem refWords_find (a : ByteArray) (ha : a.size ≤ 1048576) : ∀ n i, i + n = a.size → (∀ j, j < i → bt a (j : Int) ≠ 35) →
    ∃ E, E ≤ a.size ∧ (E = a.size ∨ bt a (E : Int) = 35) ∧ (∀ j, j < E → bt a (j : Int) ≠ 35) ∧ ∀ r K, (∀ k, K ≤ k → endonymref5_Words.l1 k a (E : Int) [] 0 = some r) → ∀ k, K + n + 2 ≤ k → endonymref5_Words.l0 k a (i : Int) = some r := by
  intro n
  induction n with
  | zero =>
    intro i hi hb
    refine ⟨i, by omega, .inl (by omega), hb, fun r K h k hk => ?_⟩
    obtain ⟨k, rfl⟩ : ∃ m, k = m + 1 := ⟨k - 1, by omega⟩
    rw [endonymref5_Words.l0, if_neg (by omega)]
    obtain ⟨k, rfl⟩ : ∃ m, k = m + 1 := ⟨k - 1, by omega⟩
    rw [endonymref5_Words.j1]
    exact h k (by omega)
  | succ n ih =>
    intro i hi hb
    by_cases h35 : bt a (i : Int) = 35
    · refine ⟨i, by omega, .inr h35, hb, fun r K h k hk => ?_⟩
      obtain ⟨k, rfl⟩ : ∃ m, k = m + 1 := ⟨k - 1, by omega⟩
      rw [endonymref5_Words.l0, if_pos (by omega), if_pos (by omega), if_pos h35]
      obtain ⟨k, rfl⟩ : ∃ m, k = m + 1 := ⟨k - 1, by omega⟩
      rw [endonymref5_Words.j1]
      exact h k (by omega)
    · obtain ⟨E, h1, h2, h3, h4⟩ := ih (i + 1) (by omega) (fun j hj => by
        rcases (show j < i ∨ j = i from by omega) with h | h
        · exact hb j h
        · rw [h]; exact h35)
      refine ⟨E, h1, h2, h3, fun r K h k hk => ?_⟩
      obtain ⟨k, rfl⟩ : ∃ m, k = m + 1 := ⟨k - 1, by omega⟩
      rw [endonymref5_Words.l0, if_pos (by omega), if_pos (by omega), if_neg h35, wsucc i (by omega)]
      exact h4 r K h k (by omega)
theorem refWords_ok (a : ByteArray) (ha : a.size ≤ 1048576) (k : Nat) (hk : 4 * a.size + 5 ≤ k) :
    endonymref5_Words.f k a = some ((bw a a.size 0 (-1) []).1.map w48, (bw a a.size 0 (-1) []).2) := by
  obtain ⟨E, h1, h2, h3, h4⟩ := refWords_find a ha a.size 0 (by omega) (fun j hj => by omega)
  unfold endonymref5_Words.f
  refine h4 _ (3 * a.size + 1) (fun k hk => ?_) k (by omega)
  exact (refWords_loops a ha E h1 h2 h3 E 0 (by omega)).1 [] (Nat.le_refl _) k (by omega)
theorem bw_len (a : ByteArray) : ∀ (n i : Nat) (from_ : Int) (acc : List (ByteArray × Int)), (bw a n i from_ acc).1.length ≤ acc.length + n + 1 := by
  have hc : ∀ from_ e (acc : List (ByteArray × Int)), (cutW a from_ e acc).length ≤ acc.length + 1 := by
    intro from_ e acc
    unfold cutW; split
    · rw [List.length_append]; simp only [List.length_cons, List.length_nil]; omega
    · omega
  intro n
  induction n with
  | zero => intro i from_ acc; rw [bw]; have := hc from_ i acc; simp only; omega
  | succ n ih =>
    intro i from_ acc
    rw [bw]
    have h1 := hc from_ i acc
    split
    · simp only; omega
    · split
      · have := ih (i + 1) (-1) (cutW a from_ i acc); omega
      · have := ih (i + 1) (if from_ < 0 then (i : Int) else from_) acc; omega
end Go.Proofs.Ytplnakmpogepmab.Plain
