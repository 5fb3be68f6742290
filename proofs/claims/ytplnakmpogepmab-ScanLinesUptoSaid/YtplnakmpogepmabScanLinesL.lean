import Derived.Test.YtplnakmpogepmabScanWordsR
import Derived.Test.YtplnakmpogepmabAx1
import Derived.Test.YtplnakmpogepmabAx4
import Derived.Test.YtplnakmpogepmabAx5
import Derived.Test.YtplnakmpogepmabAx6
/-! ScanLines. -/
namespace Go.Proofs.Ytplnakmpogepmab.Plain
open Go.RowKit Go.Proofs.YtplnakmpogepmabW.PrintWords Go.Proofs.YtplnakmpogepmabW.PrintLast Go.Proofs.YtplnakmpogepmabW.PrintMore Go.Proofs.Ytplnakmpogepmab.A
set_option linter.unusedVariables false
set_option linter.unusedSimpArgs false

theorem Lines_loop (a : ByteArray) (ha : a.size ≤ 1048576) : ∀ (n i : Nat) (f : Nat) (l : List ByteArray), i + n = a.size → f ≤ i → l.length ≤ i → (∀ x ∈ l, x.size ≤ a.size) →
    ∃ r : List ByteArray, r.length ≤ a.size + 1 ∧ (∀ x ∈ r, x.size ≤ a.size) ∧ ∀ k, n + 1 ≤ k → scan_Lines.l0 k a l (f : Int) (a.size : Int) (i : Int) = some r ∧ endonymref5_Lines.l0 k a l (f : Int) (i : Int) = some r := by
  intro n
  induction n with
  | zero =>
    intro i f l hi hf hl hx
    have hn : ¬ (i : Int) < (a.size : Int) := by omega
    by_cases h : (f : Int) < (a.size : Int)
    · have g0 : (0 : Int) ≤ (f : Int) := by omega
      have g1 : (f : Int) ≤ (a.size : Int) := by omega
      have g2 : l.length < 8796093022208 := by omega
      refine ⟨l ++ [a.extract f a.size], by rw [List.length_append]; simp only [List.length_cons, List.length_nil]; omega, ?_, fun k hk => ?_⟩
      · intro x hx2
        rcases List.mem_append.1 hx2 with h2 | h2
        · exact hx x h2
        · rw [List.mem_singleton.1 h2, ByteArray.size_extract]; omega
      · obtain ⟨k, rfl⟩ : ∃ m, k = m + 1 := ⟨k - 1, by omega⟩
        rw [scan_Lines.l0, endonymref5_Lines.l0]
        simp only [if_neg hn, if_pos h, if_pos g0, if_pos g1, if_pos g2, Int.toNat_natCast]
        all_goals (first | exact ⟨rfl, rfl⟩ | exact ⟨trivial, trivial⟩)
    · refine ⟨l, by omega, hx, fun k hk => ?_⟩
      obtain ⟨k, rfl⟩ : ∃ m, k = m + 1 := ⟨k - 1, by omega⟩
      rw [scan_Lines.l0, endonymref5_Lines.l0]
      simp only [if_neg hn, if_neg h]
      all_goals (first | exact ⟨rfl, rfl⟩ | exact ⟨trivial, trivial⟩)
  | succ n ih =>
    intro i f l hi hf hl hx
    have h0 : (0 : Int) ≤ (i : Int) := by omega
    have h1 : (i : Int) < (a.size : Int) := by omega
    by_cases h10 : bt a (i : Int) = 10
    · have g0 : (0 : Int) ≤ (f : Int) := by omega
      have g1 : (f : Int) ≤ (i : Int) := by omega
      have g3 : (i : Int) ≤ (a.size : Int) := by omega
      have g2 : l.length < 8796093022208 := by omega
      obtain ⟨r, hr1, hr2, hr⟩ := ih (i + 1) (i + 1) (l ++ [a.extract f i]) (by omega) (by omega) (by rw [List.length_append]; simp only [List.length_cons, List.length_nil]; omega) (by
        intro x hx2
        rcases List.mem_append.1 hx2 with h2 | h2
        · exact hx x h2
        · rw [List.mem_singleton.1 h2, ByteArray.size_extract]; omega)
      refine ⟨r, hr1, hr2, fun k hk => ?_⟩
      obtain ⟨k, rfl⟩ : ∃ m, k = m + 1 := ⟨k - 1, by omega⟩
      rw [scan_Lines.l0, endonymref5_Lines.l0]
      simp only [if_pos h0, if_pos h1, if_pos h10, if_pos g0, if_pos g1, if_pos g2, if_pos g3, Int.toNat_natCast, wsucc i (by omega)]
      exact hr k (by omega)
    · obtain ⟨r, hr1, hr2, hr⟩ := ih (i + 1) f l (by omega) (by omega) (by omega) hx
      refine ⟨r, hr1, hr2, fun k hk => ?_⟩
      obtain ⟨k, rfl⟩ : ∃ m, k = m + 1 := ⟨k - 1, by omega⟩
      rw [scan_Lines.l0, endonymref5_Lines.l0]
      simp only [if_pos h0, if_pos h1, if_neg h10, wsucc i (by omega)]
      exact hr k (by omega)
theorem Lines_ok (a : ByteArray) (ha : a.size ≤ 1048576) : ∃ r : List ByteArray, r.length ≤ a.size + 1 ∧ (∀ x ∈ r, x.size ≤ a.size) ∧ ∀ k, a.size + 1 ≤ k → scan_Lines.f k a = some r ∧ endonymref5_Lines.f k a = some r := by
  obtain ⟨r, h1, h2, h⟩ := Lines_loop a ha a.size 0 0 [] (by omega) (by omega) (Nat.le_refl _) (by simp)
  exact ⟨r, h1, h2, fun k hk => h k hk⟩
theorem sameTexts_loop (l : List ByteArray) (hl : l.length ≤ 1048577) : ∀ (n i k : Nat), i + n = l.length → n + 1 ≤ k → endonymlaw5_sameTexts.l0 k l l (i : Int) = some true := by
  intro n
  induction n with
  | zero =>
    intro i k hi hk
    obtain ⟨k, rfl⟩ : ∃ m, k = m + 1 := ⟨k - 1, by omega⟩
    rw [endonymlaw5_sameTexts.l0, if_neg (by omega)]
  | succ n ih =>
    intro i k hi hk
    obtain ⟨k, rfl⟩ : ∃ m, k = m + 1 := ⟨k - 1, by omega⟩
    rw [endonymlaw5_sameTexts.l0, if_pos (by omega), if_pos (by omega), if_pos (by omega), if_pos rfl, wsucc i (by omega)]
    exact ih (i + 1) k (by omega) (by omega)
theorem sameTexts_ok (l : List ByteArray) (hl : l.length ≤ 1048577) (k : Nat) (hk : l.length + 1 ≤ k) : endonymlaw5_sameTexts.f k l l = some true := by
  unfold endonymlaw5_sameTexts.f
  rw [if_pos rfl]
  exact sameTexts_loop l hl l.length 0 k (by omega) hk
theorem rd34_map (l : List (ByteArray × Int)) (i : Int) (h : i.toNat < l.length) : rd_T34 (l.map w34) i = w34 l[i.toNat] := by
  unfold rd_T34
  rw [List.getD_eq_getElem?_getD, List.getElem?_map, List.getElem?_eq_getElem h]; rfl
theorem rd48_map (l : List (ByteArray × Int)) (i : Int) (h : i.toNat < l.length) : rd_T48 (l.map w48) i = w48 l[i.toNat] := by
  unfold rd_T48
  rw [List.getD_eq_getElem?_getD, List.getElem?_map, List.getElem?_eq_getElem h]; rfl
theorem sameWords_loop (l : List (ByteArray × Int)) (hl : l.length ≤ 1048577) : ∀ (n i k : Nat), i + n = l.length → n + 1 ≤ k → endonymlaw5_sameWords.l0 k (l.map w34) (l.map w48) (i : Int) = some true := by
  intro n
  induction n with
  | zero =>
    intro i k hi hk
    obtain ⟨k, rfl⟩ : ∃ m, k = m + 1 := ⟨k - 1, by omega⟩
    rw [endonymlaw5_sameWords.l0, if_neg (by rw [List.length_map]; omega)]
  | succ n ih =>
    intro i k hi hk
    obtain ⟨k, rfl⟩ : ∃ m, k = m + 1 := ⟨k - 1, by omega⟩
    have h : ((i : Nat) : Int).toNat < l.length := by omega
    rw [endonymlaw5_sameWords.l0, if_pos (by rw [List.length_map]; omega), if_pos (by omega), if_pos (by rw [List.length_map]; omega), rd34_map l i h, rd48_map l i h, if_pos (by rfl), if_pos (by rfl), wsucc i (by omega)]
    exact ih (i + 1) k (by omega) (by omega)
theorem sameWords_ok (l : List (ByteArray × Int)) (hl : l.length ≤ 1048577) (k : Nat) (hk : l.length + 1 ≤ k) : endonymlaw5_sameWords.f k (l.map w34) (l.map w48) = some true := by
  unfold endonymlaw5_sameWords.f
  rw [if_pos (by rw [List.length_map, List.length_map])]
  exact sameWords_loop l hl l.length 0 k (by omega) hk
theorem setall_loop (a : ByteArray) (l m w : List ByteArray) (x6 : Int) (y : List S48) (z : List S34) (r : Bool) (K : Nat)
    (h : ∀ k, K ≤ k → (if 0 ≤ x6 then (if x6 < (l.length : Int) then ((endonymlaw5_sameWords.f k z y).bind fun t193 => (if t193 = true then (endonymlaw5_ScanLines.l0 k a (l.set (x6 : Int).toNat (⟨#[63]⟩ : ByteArray)) m w (wrap64 (x6 + 1))) else (some false))) else (none)) else (none)) = some r) :
    ∀ (n i : Nat) (x : List S34), i + n = x.length → x.length ≤ 1048577 → ∀ k, K + n + 1 ≤ k → endonymlaw5_ScanLines.l1 k a l m w x6 x y z (i : Int) = some r := by
  intro n
  induction n with
  | zero =>
    intro i x hi hx k hk
    obtain ⟨k, rfl⟩ : ∃ m, k = m + 1 := ⟨k - 1, by omega⟩
    rw [endonymlaw5_ScanLines.l1, if_neg (by omega)]
    exact h k (by omega)
  | succ n ih =>
    intro i x hi hx k hk
    obtain ⟨k, rfl⟩ : ∃ m, k = m + 1 := ⟨k - 1, by omega⟩
    rw [endonymlaw5_ScanLines.l1, if_pos (by omega), if_pos (by omega), wsucc i (by omega)]
    exact ih (i + 1) _ (by rw [List.length_set]; omega) (by rw [List.length_set]; omega) k (by omega)
theorem SL_step (a : ByteArray) (ha : a.size ≤ 1048576) (m l : List ByteArray) (hm : m.length ≤ a.size + 1) (i : Nat) (hi : i < m.length) (hl : l.length = m.length) (hs : (rdOf ByteArray.empty m (i : Int)).size ≤ a.size)
    (hj : rdOf ByteArray.empty l (i : Int) = rdOf ByteArray.empty m (i : Int)) (K : Nat) (h : ∀ k, K ≤ k → endonymlaw5_ScanLines.l0 k a (l.set i (⟨#[63]⟩ : ByteArray)) m m ((i + 1 : Nat) : Int) = some true) :
    ∀ k, K + 8 * a.size + 100 ≤ k → endonymlaw5_ScanLines.l0 k a l m m (i : Int) = some true := by
  intro k hk
  obtain ⟨k, rfl⟩ : ∃ m, k = m + 1 := ⟨k - 1, by omega⟩
  rw [endonymlaw5_ScanLines.l0, if_pos (by omega), if_pos (by omega), hj]
  generalize rdOf ByteArray.empty m (i : Int) = t at hs
  have hlen := bw_len t t.size 0 (-1) []
  rw [scanWords_ok t (by omega) k (by omega), refWords_ok t (by omega) k (by omega)]
  generalize bw t t.size 0 (-1) [] = B at hlen
  obtain ⟨ws, e⟩ := B
  simp only [List.length_nil] at hlen
  simp only [Option.bind_some, if_pos (show (i : Int) < (m.length : Int) from by omega), sameWords_ok ws (by omega) k (by omega), if_true, bne_self_eq_false]
  obtain ⟨k, rfl⟩ : ∃ m, k = m + 1 := ⟨k - 1, by omega⟩
  rw [endonymlaw5_ScanLines.j2, if_neg (by decide)]
  have hstep : ∀ k, K + a.size + 10 ≤ k → (if 0 ≤ (i : Int) then (if (i : Int) < (l.length : Int) then ((endonymlaw5_sameWords.f k (ws.map w34) (ws.map w48)).bind fun t193 => (if t193 = true then (endonymlaw5_ScanLines.l0 k a (l.set (i : Int).toNat (⟨#[63]⟩ : ByteArray)) m m (wrap64 ((i : Int) + 1))) else (some false))) else (none)) else (none)) = some true := by
    intro k hk
    rw [if_pos (by omega), if_pos (by omega), sameWords_ok ws (by omega) k (by omega), Option.bind_some, if_pos rfl, wsucc i (by omega)]
    exact h k (by omega)
  exact setall_loop a l m m (i : Int) (ws.map w48) (ws.map w34) true (K + a.size + 10) hstep ws.length 0 (ws.map w34) (by rw [List.length_map]; omega) (by rw [List.length_map]; omega) k (by omega)
theorem SL_loop (a : ByteArray) (ha : a.size ≤ 1048576) (m : List ByteArray) (hm : m.length ≤ a.size + 1) (hx : ∀ x ∈ m, x.size ≤ a.size) (hL : ∀ k, a.size + 1 ≤ k → scan_Lines.f k a = some m) : ∀ (n i : Nat) (l : List ByteArray), i + n = m.length → l.length = m.length → (∀ j : Nat, i ≤ j → rdOf ByteArray.empty l (j : Int) = rdOf ByteArray.empty m (j : Int)) →
    ∃ K, ∀ k, K ≤ k → endonymlaw5_ScanLines.l0 k a l m m (i : Int) = some true := by
  intro n
  induction n with
  | zero =>
    intro i l hi hl hj
    refine ⟨a.size + 10, fun k hk => ?_⟩
    obtain ⟨k, rfl⟩ : ∃ m, k = m + 1 := ⟨k - 1, by omega⟩
    rw [endonymlaw5_ScanLines.l0, if_neg (by omega), sameTexts_ok m (by omega) k (by omega), Option.bind_some, if_pos rfl, hL k (by omega), Option.bind_some, sameTexts_ok m (by omega) k (by omega), Option.bind_some]
  | succ n ih =>
    intro i l hi hl hj
    have hs : (rdOf ByteArray.empty m (i : Int)).size ≤ a.size := by
      unfold rdOf
      rw [Int.toNat_natCast, List.getD_eq_getElem?_getD, List.getElem?_eq_getElem (show i < m.length by omega)]
      exact hx _ (List.getElem_mem _)
    obtain ⟨K, hK⟩ := ih (i + 1) (l.set i (⟨#[63]⟩ : ByteArray)) (by omega) (by rw [List.length_set]; exact hl) (fun j hj2 => by
      rw [← hj j (by omega)]
      unfold rdOf
      rw [List.getD_eq_getElem?_getD, List.getD_eq_getElem?_getD, List.getElem?_set_ne (by omega)])
    exact ⟨_, SL_step a ha m l hm i (by omega) hl hs (hj i (Nat.le_refl _)) K hK⟩
theorem ScanLines_ok (a : ByteArray) (ha : a.size ≤ 1048576) : ∃ k, endonymlaw5_ScanLines.f k a = some true := by
  obtain ⟨m, h1, h2, h⟩ := Lines_ok a ha
  obtain ⟨K, hK⟩ := SL_loop a ha m h1 h2 (fun k hk => (h k hk).1) m.length 0 m (by omega) rfl (fun _ _ => rfl)
  refine ⟨K + a.size + 50 + 1, ?_⟩
  have hl1 := (h (K + a.size + 50 + 1) (by omega)).1
  have hl2 := (h (K + a.size + 50 + 1) (by omega)).2
  have ht := told5_ok (K + a.size + 50 + 1) (by omega)
  have hs := sameTexts_ok m (by omega) (K + a.size + 50 + 1) (by omega)
  have hf := hK (K + a.size + 50) (by omega)
  generalize K + a.size + 50 = k at *
  unfold endonymlaw5_ScanLines.f
  rw [hl1, hl2, ht]
  simp only [Option.bind_some, if_true, hs, Bool.not_true]
  rw [endonymlaw5_ScanLines.j0, if_neg (by decide)]
  exact hf
end Go.Proofs.Ytplnakmpogepmab.Plain
