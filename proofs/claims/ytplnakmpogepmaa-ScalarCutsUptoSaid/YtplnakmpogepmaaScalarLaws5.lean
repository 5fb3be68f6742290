import Derived.Test.YtplnakmpogepmaaScalarLaws4
import Derived.Test.YtplnakmpogepmaaAx9
import Derived.Test.YtplnakmpogepmaaAx8
import Derived.Test.YtplnakmpogepmaaAx2
/-! Split, Join; ScalarCuts. -/
namespace Go.Proofs.Ytplnakmpogepmaa.Plain
open Go.RowKit Go.Proofs.YtplnakmpogepmaaW.PrintWords Go.Proofs.YtplnakmpogepmaaW.PrintLast Go.Proofs.YtplnakmpogepmaaW.PrintMore Go.Proofs.Ytplnakmpogepmaa.A
set_option linter.unusedVariables false
set_option linter.unusedSimpArgs false

def headC (p : List Int) : List (List Int) → List (List Int)
  | [] => [p]
  | h :: t => (p ++ h) :: t
def splitS : List Int → List (List Int)
  | [] => [[]]
  | c :: cs => if c = 46 then [] :: splitS cs else headC [c] (splitS cs)
def joinT (l : List (List Int)) : List Int := l.flatMap (fun p => 46 :: p)
def joinS : List (List Int) → List Int
  | [] => []
  | p :: r => p ++ joinT r
theorem splitS_ne (l : List Int) : splitS l ≠ [] := by
  cases l with
  | nil => simp [splitS]
  | cons c cs =>
    simp only [splitS]
    split
    · simp
    · cases splitS cs <;> simp [headC]
theorem headC_headC (p q : List Int) (l : List (List Int)) : headC p (headC q l) = headC (p ++ q) l := by cases l <;> simp [headC]
theorem headC_nil {l : List (List Int)} (h : l ≠ []) : headC [] l = l := by cases l with | nil => exact absurd rfl h | cons a b => simp [headC]
theorem splitS_len : ∀ l : List Int, (splitS l).length ≤ l.length + 1
  | [] => by simp [splitS]
  | c :: cs => by
    have := splitS_len cs
    simp only [splitS]
    split
    · simp; omega
    · cases h : splitS cs with
      | nil => simp [headC]
      | cons a b => rw [h] at this; simp [headC] at this ⊢; omega
theorem cut_take (x : List Int) (a i : Nat) (h : a ≤ i) (hi : i < x.length) : (x.take (i + 1)).drop a = (x.take i).drop a ++ [rd x (i : Int)] := by
  rw [take_rd x i hi, List.drop_append_of_le_length (by rw [List.length_take]; omega)]
theorem split_prog (x : List Int) (hx : x.length ≤ 4194304) : ∀ (n i a : Nat) (acc : List (List Int)) (k : Nat), i + n = x.length → a ≤ i → acc.length ≤ i → n + 1 ≤ k →
    scalar_Split.l0 k x acc (a : Int) x (x.length : Int) (i : Int) = some (acc ++ headC ((x.take i).drop a) (splitS (x.drop i))) := by
  intro n
  induction n with
  | zero =>
    intro i a acc k hi ha hc hk
    obtain ⟨k, rfl⟩ : ∃ m, k = m + 1 := ⟨k - 1, by omega⟩
    rw [drop_all _ i (by omega), List.take_of_length_le (by omega), scalar_Split.l0, if_neg (by omega), if_pos (by omega), if_pos (by omega), Int.toNat_natCast, if_pos (by simp; omega), if_pos (by omega)]
    simp [splitS, headC]
  | succ n ih =>
    intro i a acc k hi ha hc hk
    obtain ⟨k, rfl⟩ : ∃ m, k = m + 1 := ⟨k - 1, by omega⟩
    have e : wrap64 ((i : Int) + 1) = ((i + 1 : Nat) : Int) := by rw [w64 (by omega) (by omega)]; rfl
    rw [drop_rd x i (by omega), scalar_Split.l0, if_pos (by omega), if_pos (by omega), if_pos (by omega), e]
    simp only [splitS]
    by_cases h : rd x (i : Int) = 46
    · rw [if_pos h, if_pos h, if_pos (by omega), if_pos (by omega), if_pos (by omega), Int.toNat_natCast, Int.toNat_natCast, if_pos (by simp; omega), if_pos (by omega), List.nil_append]
      have e1 : (x.take (i + 1)).drop (i + 1) = [] := List.drop_eq_nil_of_le (by rw [List.length_take]; omega)
      rw [ih (i + 1) (i + 1) _ k (by omega) (by omega) (by simp; omega) (by omega), e1, headC_nil (splitS_ne (x.drop (i + 1)))]
      simp [headC]
    · rw [if_neg h, if_neg h, headC_headC, ← cut_take x a i ha (by omega)]
      exact ih (i + 1) a acc k (by omega) (by omega) (by omega) (by omega)
theorem Split_ok (x : List Int) (hx : x.length ≤ 4194304) (k : Nat) (hk : x.length + 1 ≤ k) : scalar_Split.f k x = some (splitS x) := by
  unfold scalar_Split.f
  have h := split_prog x hx x.length 0 0 [] k (by omega) (by omega) (by simp) hk
  simpa [headC_nil (splitS_ne x)] using h
theorem split_ref (x : List Int) (hx : x.length ≤ 4194304) : ∀ (n i : Nat) (acc : List (List Int)) (cur : List Int) (k : Nat), i + n = x.length → acc.length ≤ i → cur.length ≤ i → n + 1 ≤ k →
    endonymref3_Split.l0 k x acc cur (i : Int) = some (acc ++ headC cur (splitS (x.drop i))) := by
  intro n
  induction n with
  | zero =>
    intro i acc cur k hi hc hu hk
    obtain ⟨k, rfl⟩ : ∃ m, k = m + 1 := ⟨k - 1, by omega⟩
    rw [drop_all _ i (by omega), endonymref3_Split.l0, if_neg (by omega), if_pos (by omega)]
    simp [splitS, headC]
  | succ n ih =>
    intro i acc cur k hi hc hu hk
    obtain ⟨k, rfl⟩ : ∃ m, k = m + 1 := ⟨k - 1, by omega⟩
    have e : wrap64 ((i : Int) + 1) = ((i + 1 : Nat) : Int) := by rw [w64 (by omega) (by omega)]; rfl
    rw [drop_rd x i (by omega), endonymref3_Split.l0, if_pos (by omega), if_pos (by omega), e]
    simp only [splitS]
    by_cases h : rd x (i : Int) = 46
    · rw [if_pos h, if_pos h, if_pos (by omega), ih (i + 1) _ _ k (by omega) (by simp; omega) (by simp) (by omega), headC_nil (splitS_ne _)]
      simp [headC]
    · rw [if_neg h, if_neg h, headC_headC, if_pos (by omega)]
      exact ih (i + 1) acc _ k (by omega) (by omega) (by simp; omega) (by omega)
theorem SplitR_ok (x : List Int) (hx : x.length ≤ 4194304) (k : Nat) (hk : x.length + 1 ≤ k) : endonymref3_Split.f k x = some (splitS x) := by
  unfold endonymref3_Split.f
  have h := split_ref x hx x.length 0 [] [] k (by omega) (by simp) (by simp) hk
  simpa [headC_nil (splitS_ne x)] using h
/-- A sequence's elements, and one for each. -/
def weight (l : List (List Int)) : Nat := (l.map fun r => r.length + 1).sum
theorem joinT_len : ∀ l : List (List Int), (joinT l).length = weight l
  | [] => rfl
  | p :: r => by
    have h := joinT_len r
    simp only [joinT, weight] at h ⊢
    rw [List.flatMap_cons, List.length_append, h]
    simp
theorem rdL (l : List (List Int)) (i : Nat) (h : i < l.length) : rd_L1 l (i : Int) = l[i] := by
  simp [rd_L1, List.getD_eq_getElem?_getD, List.getElem?_eq_getElem h]
theorem drop_rdL (l : List (List Int)) (i : Nat) (h : i < l.length) : l.drop i = rd_L1 l (i : Int) :: l.drop (i + 1) := by
  rw [rdL l i h]; exact List.drop_eq_getElem_cons h
theorem weight_cons (p : List Int) (r : List (List Int)) : weight (p :: r) = p.length + 1 + weight r := by simp [weight]
theorem weight_append (a b : List (List Int)) : weight (a ++ b) = weight a + weight b := by simp [weight]
theorem weight_at (l : List (List Int)) (i : Nat) (hi : i < l.length) : (rd_L1 l (i : Int)).length + 1 ≤ weight l := by
  have h2 := weight_append (l.take i) (l.drop i)
  rw [List.take_append_drop, drop_rdL l i hi, weight_cons] at h2
  omega
theorem len_weight (l : List (List Int)) : l.length ≤ weight l := by
  induction l with
  | nil => simp [weight]
  | cons p r ih => rw [weight_cons]; simp; omega
theorem join_prog (l : List (List Int)) (hl : weight l ≤ 4194304) : ∀ (n i : Nat) (acc : List Int) (k : Nat), i + n = l.length → acc.length + weight (l.drop i) ≤ 4194304 → n + 1 ≤ k →
    scalar_Join.l0 k acc l (l.length : Int) (i : Int) = some (acc ++ if i = 0 then joinS (l.drop i) else joinT (l.drop i)) := by
  have hll := len_weight l
  intro n
  induction n with
  | zero =>
    intro i acc k hi hc hk
    obtain ⟨k, rfl⟩ : ∃ m, k = m + 1 := ⟨k - 1, by omega⟩
    rw [drop_all _ i (by omega), scalar_Join.l0, if_neg (by omega)]
    split <;> simp [joinS, joinT]
  | succ n ih =>
    intro i acc k hi hc hk
    obtain ⟨k, rfl⟩ : ∃ m, k = m + 1 := ⟨k - 1, by omega⟩
    have e : wrap64 ((i : Int) + 1) = ((i + 1 : Nat) : Int) := by rw [w64 (by omega) (by omega)]; rfl
    rw [drop_rdL l i (by omega), weight_cons] at hc
    rw [drop_rdL l i (by omega), scalar_Join.l0, if_pos (by omega), if_pos (by omega), if_pos (by omega), e]
    by_cases h : i = 0
    · rw [if_neg (by omega), if_pos (by omega), ih (i + 1) _ k (by omega) (by simp; omega) (by omega), if_neg (by omega), if_pos h]
      simp [joinS]
    · rw [if_pos (by omega), if_pos (by omega)]
      simp only [Option.bind_some]
      rw [if_pos (by simp; omega), ih (i + 1) _ k (by omega) (by simp; omega) (by omega), if_neg (by omega), if_neg h]
      simp [joinT]
theorem Join_ok (l : List (List Int)) (hl : weight l ≤ 2097152) (k : Nat) (hk : l.length + 1 ≤ k) : scalar_Join.f k l = some (joinS l) := by
  unfold scalar_Join.f
  have h := join_prog l (by omega) l.length 0 [] k (by omega) (by simp; omega) hk
  rw [List.drop_zero, if_pos rfl, List.nil_append] at h
  exact h
theorem joinT_headC (p : List Int) (l : List (List Int)) (h : l ≠ []) : joinS (headC p l) = p ++ joinS l := by
  cases l with
  | nil => exact absurd rfl h
  | cons a b => simp [headC, joinS]
theorem joinT_eq {l : List (List Int)} (h : l ≠ []) : joinT l = 46 :: joinS l := by
  cases l with
  | nil => exact absurd rfl h
  | cons a b => simp [joinT, joinS]
theorem join_split : ∀ x : List Int, joinS (splitS x) = x
  | [] => rfl
  | c :: cs => by
    have ih := join_split cs
    simp only [splitS]
    by_cases h : c = 46
    · rw [if_pos h, joinS, joinT_eq (splitS_ne cs), ih, h]; rfl
    · rw [if_neg h, joinT_headC _ _ (splitS_ne cs), ih]; rfl
theorem split_app : ∀ (p : List Int), (∀ c ∈ p, c ≠ 46) → ∀ v : List Int, splitS (p ++ v) = headC p (splitS v)
  | [], _, v => (headC_nil (splitS_ne v)).symm
  | c :: p, h, v => by
    rw [List.cons_append]
    simp only [splitS]
    rw [if_neg (h c (by simp)), split_app p (fun d hd => h d (by simp [hd])) v, headC_headC]
    rfl
theorem split_join : ∀ l : List (List Int), l ≠ [] → (∀ p ∈ l, ∀ c ∈ p, c ≠ 46) → splitS (joinS l) = l
  | [], h, _ => absurd rfl h
  | [p], _, hp => by
    have h := split_app p (hp p (by simp)) []
    simpa [joinS, joinT, splitS, headC] using h
  | p :: q :: r, _, hp => by
    have ih := split_join (q :: r) (by simp) (fun x hx => hp x (by simp [hx]))
    rw [joinS, joinT_eq (by simp), split_app p (hp p (by simp)), splitS, if_pos rfl, ih]
    simp [headC]
theorem weight_split : ∀ x : List Int, weight (splitS x) = x.length + 1
  | [] => rfl
  | c :: cs => by
    have ih := weight_split cs
    simp only [splitS]
    by_cases h : c = 46
    · rw [if_pos h, weight_cons, ih]; simp; omega
    · rw [if_neg h]
      cases hs : splitS cs with
      | nil => exact absurd hs (splitS_ne cs)
      | cons a b => rw [hs] at ih; rw [headC]; rw [weight_cons] at ih ⊢; simp; omega
theorem sameAll_loop (l : List (List Int)) (hl : weight l ≤ 16777216) : ∀ (n i k : Nat), i + n = l.length → n + weight l + 2 ≤ k → endonymref3_SameAll.l0 k l l (i : Int) = some true := by
  have hll := len_weight l
  intro n
  induction n with
  | zero =>
    intro i k hi hk
    obtain ⟨k, rfl⟩ : ∃ m, k = m + 1 := ⟨k - 1, by omega⟩
    rw [endonymref3_SameAll.l0, if_neg (by omega)]
  | succ n ih =>
    intro i k hi hk
    obtain ⟨k, rfl⟩ : ∃ m, k = m + 1 := ⟨k - 1, by omega⟩
    have e : wrap64 ((i : Int) + 1) = ((i + 1 : Nat) : Int) := by rw [w64 (by omega) (by omega)]; rfl
    have hw := weight_at l i (by omega)
    rw [endonymref3_SameAll.l0, if_pos (by omega), if_pos (by omega), if_pos (by omega), Same_eq _ (by omega) _ (by omega), Option.bind_some, if_pos rfl, e]
    exact ih (i + 1) k (by omega) (by omega)
theorem SameAll_eq (l : List (List Int)) (hl : weight l ≤ 16777216) (k : Nat) (hk : 2 * weight l + 2 ≤ k) : endonymref3_SameAll.f k l l = some true := by
  have hll := len_weight l
  unfold endonymref3_SameAll.f
  rw [if_pos rfl]
  exact sameAll_loop l hl l.length 0 k (by omega) (by omega)
/-- A sequence without its full stops. -/
def bare (p : List Int) : List Int := p.filter fun c => decide (c ≠ 46)
theorem bare_clean (p : List Int) : ∀ c ∈ bare p, c ≠ 46 := by
  intro c hc
  have := (List.mem_filter.1 hc).2
  simpa using this
theorem weight_bare (l : List (List Int)) : weight (l.map bare) ≤ weight l := by
  induction l with
  | nil => simp
  | cons p r ih =>
    rw [List.map_cons, weight_cons, weight_cons]
    have : (bare p).length ≤ p.length := List.length_filter_le _ _
    omega
theorem cuts_end (l : List (List Int)) (hl : weight l ≤ 1048576) (k : Nat) (hk : 4 * weight l + 20 ≤ k) : endonymlaw3_ScalarCuts.l0 (k + 1) l (l.map bare) (l.length : Int) = some true := by
  have hw := weight_bare l
  have hll := len_weight l
  rw [endonymlaw3_ScalarCuts.l0, if_neg (by omega), List.length_map]
  by_cases h0 : (l.length : Int) = 0
  · rw [if_pos h0]
  · rw [if_neg h0, Join_ok (l.map bare) (by omega) _ (by rw [List.length_map]; omega), Option.bind_some]
    have hne : l.map bare ≠ [] := by intro h; have h3 := congrArg List.length h; rw [List.length_map] at h3; simp only [List.length_nil] at h3; omega
    have hjl : (joinS (l.map bare)).length ≤ weight (l.map bare) := by
      have h1 := joinT_len (l.map bare)
      rw [joinT_eq hne] at h1
      simp at h1; omega
    rw [Split_ok (joinS (l.map bare)) (by omega) _ (by omega), Option.bind_some, split_join _ hne (fun p hp => by obtain ⟨q, _, rfl⟩ := List.mem_map.1 hp; exact bare_clean q), SameAll_eq (l.map bare) (by omega) _ (by omega)]
    rfl
theorem cuts_inner (l : List (List Int)) (hl : weight l ≤ 1048576) (m : List (List Int)) (i : Nat) (hi : i < l.length) (hm : m.length ≤ i) (k0 : Nat) (r : Option Bool) (hr : endonymlaw3_ScalarCuts.l0 k0 l (m ++ [bare (rd_L1 l (i : Int))]) ((i + 1 : Nat) : Int) = some true) :
    ∀ (n j k : Nat), j + n = (rd_L1 l (i : Int)).length → k0 + n + 1 ≤ k → endonymlaw3_ScalarCuts.l1 k l m (i : Int) (bare ((rd_L1 l (i : Int)).take j)) (j : Int) = some true := by
  have hll := len_weight l
  have hw := weight_at l i hi
  have hbl : ∀ j, (bare ((rd_L1 l (i : Int)).take j)).length ≤ (rd_L1 l (i : Int)).length := fun j => by
    have h1 : (bare ((rd_L1 l (i : Int)).take j)).length ≤ ((rd_L1 l (i : Int)).take j).length := List.length_filter_le _ _
    rw [List.length_take] at h1
    omega
  intro n
  induction n with
  | zero =>
    intro j k hj hk
    obtain ⟨k, rfl⟩ : ∃ m, k = m + 1 := ⟨k - 1, by omega⟩
    have e : wrap64 ((i : Int) + 1) = ((i + 1 : Nat) : Int) := by rw [w64 (by omega) (by omega)]; rfl
    rw [endonymlaw3_ScalarCuts.l1, if_pos (by omega), if_pos (by omega), if_neg (by omega), if_pos (by omega), e, List.take_of_length_le (by omega)]
    exact at_rounds (fun k => (endonymlaw3_ScalarCuts.mono_l k).2.1 _ _ _) (by omega) hr
  | succ n ih =>
    intro j k hj hk
    obtain ⟨k, rfl⟩ : ∃ m, k = m + 1 := ⟨k - 1, by omega⟩
    have e : wrap64 ((j : Int) + 1) = ((j + 1 : Nat) : Int) := by rw [w64 (by omega) (by omega)]; rfl
    have hb := hbl j
    rw [endonymlaw3_ScalarCuts.l1, if_pos (by omega), if_pos (by omega), if_pos (by omega), if_pos (by omega), e]
    have ht := take_rd (rd_L1 l (i : Int)) j (by omega)
    have h2 := ih (j + 1) k (by omega) (by omega)
    rw [ht, bare, List.filter_append] at h2
    by_cases h : rd (rd_L1 l (i : Int)) (j : Int) = 46
    · rw [if_pos h]
      rw [h] at h2
      simpa [bare] using h2
    · rw [if_neg h, if_pos (by omega)]
      simpa [bare, h] using h2
theorem cuts_outer (l : List (List Int)) (hl : weight l ≤ 1048576) : ∀ (n i : Nat), i + n = l.length → ∃ k, endonymlaw3_ScalarCuts.l0 k l ((l.take i).map bare) (i : Int) = some true := by
  intro n
  induction n with
  | zero =>
    intro i hi
    refine ⟨4 * weight l + 21, ?_⟩
    rw [List.take_of_length_le (by omega)]
    obtain rfl : i = l.length := by omega
    exact cuts_end l hl _ (Nat.le_refl _)
  | succ n ih =>
    intro i hi
    obtain ⟨k0, hk0⟩ := ih (i + 1) (by omega)
    have ht : l.take (i + 1) = l.take i ++ [rd_L1 l (i : Int)] := by rw [rdL l i (by omega)]; exact (List.take_append_getElem (by omega)).symm
    rw [ht, List.map_append] at hk0
    have hin := cuts_inner l hl ((l.take i).map bare) i (by omega) (by simp; omega) k0 none hk0 (rd_L1 l (i : Int)).length 0 (k0 + (rd_L1 l (i : Int)).length + 1) (by omega) (Nat.le_refl _)
    refine ⟨k0 + (rd_L1 l (i : Int)).length + 2, ?_⟩
    rw [endonymlaw3_ScalarCuts.l0, if_pos (by omega)]
    exact hin
theorem law_cuts (s t : ByteArray) (x : List Int) (l : List (List Int)) (hb : s.size + t.size + x.length + weight l ≤ 1048576) : ∃ k, endonymlaw3_ScalarCuts.f k s t x l = some true := by
  have hs := sz s
  have ht := sz t
  obtain ⟨K, hK⟩ := cuts_outer l (by omega) l.length 0 (by omega)
  have mono := fun k => (endonymlaw3_ScalarCuts.mono_l k)
  have hj0 : ∀ k, K + 8 * x.length + 40 ≤ k → endonymlaw3_ScalarCuts.j0 (k + 1) x l false = some true := by
    intro k hk
    rw [endonymlaw3_ScalarCuts.j0, if_neg (by decide), Split_ok x (by omega) _ (by omega), Option.bind_some, Join_ok _ (by rw [weight_split]; omega) _ (by have := splitS_len x; omega), Option.bind_some, join_split, Same_eq _ (by omega) _ (by omega), Option.bind_some, if_pos rfl]
    exact at_rounds (fun k => (mono k).2.1 _ _ _) (by omega) hK
  refine ⟨K + 8 * (s.size + t.size + x.length) + 60, ?_⟩
  obtain ⟨k, hk⟩ : ∃ k, K + 8 * (s.size + t.size + x.length) + 60 = k + 1 := ⟨K + 8 * (s.size + t.size + x.length) + 59, by omega⟩
  have hst : (s ++ t).size = s.size + t.size := ByteArray.size_append
  unfold endonymlaw3_ScalarCuts.f
  rw [Decode_ok s (by omega) _ (by omega), Option.bind_some, Decode_ok t (by omega) _ (by omega), Option.bind_some, if_pos (by omega), Decode_ok (s ++ t) (by omega) _ (by omega), Option.bind_some, told_ok _ (by omega), Option.bind_some, if_pos rfl, bytesOf_append, hk]
  have l1 := (dec_len (bytesOf s)).1
  have l2 := (dec_len (bytesOf t)).1
  rcases dec_cases (bytesOf s) with ⟨o1, lo, hi, c, hf1, hd1⟩ | ⟨q, hf1, hq, hd1⟩ | ⟨m, lo, hi, c, o1, hf1, hd1⟩
  · rw [hd1] at l1 ⊢
    rw [if_pos rfl]
    rcases dec_cases (bytesOf t) with ⟨o2, lo2, hi2, c2, hf2, hd2⟩ | ⟨q, hf2, hq, hd2⟩ | ⟨m, lo2, hi2, c2, o2, hf2, hd2⟩
    · rw [hd2] at l2 ⊢
      rw [if_pos rfl]
      have hshift : ∀ (bs : List Int) (m : Nat) (lo hi c : Int) (p q : Nat) (st : Nat × Int × Int × Int) (out : List Int), feed m lo hi c bs p = .inr (st, out) → feed m lo hi c bs q = .inr (st, out) := by
        intro bs
        induction bs with
        | nil => intro m lo hi c p q st out h; simpa [feed] using h
        | cons b bs ih =>
          intro m lo hi c p q st out h
          cases m with
          | zero =>
            simp only [feed] at h ⊢
            cases hL : leadS b with
            | none => rw [hL] at h; cases h
            | some r =>
              obtain ⟨m2, lo2, hi2, c2⟩ := r
              rw [hL] at h
              cases m2 with
              | zero =>
                simp only at h ⊢
                cases hr : feed 0 0 0 0 bs (p + 1) with
                | inl z => rw [hr] at h; cases h
                | inr z => rw [hr] at h; rw [ih 0 0 0 0 (p + 1) (q + 1) z.1 z.2 hr]; exact h
              | succ m2 => simp only at h ⊢; exact ih _ _ _ _ _ _ _ _ h
          | succ m =>
            by_cases hn : b < lo ∨ hi < b
            · rw [feed_bad _ _ _ _ _ _ _ hn] at h; cases h
            · rw [feed_succ _ _ _ _ _ _ _ hn] at h ⊢
              cases m with
              | zero =>
                simp only at h ⊢
                cases hr : feed 0 0 0 0 bs (p + 1) with
                | inl z => rw [hr] at h; cases h
                | inr z => rw [hr] at h; rw [ih 0 0 0 0 (p + 1) (q + 1) z.1 z.2 hr]; exact h
              | succ m => simp only at h ⊢; exact ih _ _ _ _ _ _ _ _ h
      have hz : ∀ (q : Nat), ∃ lo3 hi3 c3, feed 0 lo hi c (bytesOf t) q = .inr ((0, lo3, hi3, c3), o2) := by
        intro q
        cases hbt : bytesOf t with
        | nil =>
          rw [hbt] at hf2
          simp only [feed, Sum.inr.injEq, Prod.mk.injEq] at hf2
          exact ⟨lo, hi, c, by rw [← hf2.2]; rfl⟩
        | cons b bs =>
          rw [feed_zero lo hi c _ q (by simp), ← hbt]
          exact ⟨_, _, _, hshift _ _ _ _ _ _ q _ _ hf2⟩
      have hd3 : dec (bytesOf s ++ bytesOf t) = (o1 ++ o2, 0, 0) := by
        obtain ⟨lo3, hi3, c3, h3⟩ := hz (0 + (bytesOf s).length)
        unfold dec
        rw [feed_append, hf1]
        simp only [after]
        rw [h3]
        simp [emits, fin]
      simp only at l1 l2
      rw [hd3, if_pos rfl]
      simp only
      rw [if_pos (by omega), Same_eq _ (by simp; omega) _ (by simp; omega), Option.bind_some]
      exact hj0 k (by omega)
    · rw [hd2]; simp only; rw [if_neg (by decide)]; exact hj0 k (by omega)
    · rw [hd2]; simp only; rw [if_neg (by decide)]; exact hj0 k (by omega)
  · rw [hd1]; simp only; rw [if_neg (by decide)]; exact hj0 k (by omega)
  · rw [hd1]; simp only; rw [if_neg (by decide)]; exact hj0 k (by omega)
end Go.Proofs.Ytplnakmpogepmaa.Plain
