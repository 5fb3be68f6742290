import Derived.Test.YtkgapabnokmkeaaBaseP
import Derived.Test.YtkgapabnokmkeaaAx3
import Derived.Test.YtkgapabnokmkeaaAx1
import Derived.Test.YtkgapabnokmkeaaAx2
namespace Go.Proofs.Ytkgapabnokmkeaa.Plain
open Go.RowKit Go.Proofs.YtkgapabnokmkeaaW.PrintWords Go.Proofs.YtkgapabnokmkeaaW.PrintLast Go.Proofs.YtkgapabnokmkeaaW.PrintMore Go.Proofs.Ytkgapabnokmkeaa.A
set_option linter.unusedVariables false
set_option linter.unusedSimpArgs false
theorem same_loop (l : List Int) (hl : l.length ≤ 16777216) : ∀ (n i k : Nat), i + n = l.length → n + 1 ≤ k → endonymref3_Same.l0 k l l (i : Int) = some true := by
 intro n
 induction n with
 | zero =>
  intro i k hi hk
  obtain ⟨k, rfl⟩ : ∃ m, k = m + 1 := ⟨k - 1, by omega⟩
  rw [endonymref3_Same.l0, if_neg (by omega)]
 | succ n ih =>
  intro i k hi hk
  obtain ⟨k, rfl⟩ : ∃ m, k = m + 1 := ⟨k - 1, by omega⟩
  have e : wrap64 ((i : Int) + 1) = ((i + 1 : Nat) : Int) := by rw [w64 (by omega) (by omega)]; rfl
  rw [endonymref3_Same.l0, if_pos (by omega), if_pos (by omega), if_pos (by omega), if_pos rfl, e]
  exact ih (i + 1) k (by omega) (by omega)
theorem Same_eq (l : List Int) (hl : l.length ≤ 16777216) (k : Nat) (hk : l.length + 1 ≤ k) : endonymref3_Same.f k l l = some true := by
 unfold endonymref3_Same.f
 rw [if_pos rfl]
 exact same_loop l hl l.length 0 k (by omega) hk
theorem told_ok (k : Nat) (hk : 20 ≤ k) : endonymlaw3_told.f k = some true := at_rounds endonymlaw3_told.mono hk (by decide +kernel)
theorem roomy_eq (l : List Int) (hl : l.length ≤ 16777216) : endonymlaw3_roomy.f l = some l := by
 unfold endonymlaw3_roomy.f
 rw [if_pos (by simp; omega)]
 simp only [List.nil_append, Option.bind_some]
 rw [if_pos (by simp; omega), if_pos (by omega), if_pos (by simp; omega)]
 simp
def headC (p : List Int) : List (List Int) → List (List Int)
 | [] => [p]
 | h :: t => (p ++ h) :: t
def splitS : List Int → List (List Int)
 | [] => [[]]
 | c :: cs => if c = 46 then [] :: splitS cs else headC [c] (splitS cs)
theorem splitS_ne (l : List Int) : splitS l ≠ [] := by
 cases l with
 | nil => simp [splitS]
 | cons c cs =>
  simp only [splitS]
  split
  ·simp
  ·cases splitS cs <;> simp [headC]
theorem headC_headC (p q : List Int) (l : List (List Int)) : headC p (headC q l) = headC (p ++ q) l := by cases l <;> simp [headC]
theorem headC_nil {l : List (List Int)} (h : l ≠ []) : headC [] l = l := by cases l with | nil => exact absurd rfl h | cons a b => simp [headC]
theorem splitS_len : ∀ l : List Int, (splitS l).length ≤ l.length + 1
 | [] => by simp [splitS]
 | c :: cs => by
  have := splitS_len cs
  simp only [splitS]
  split
  ·simp; omega
  ·cases h : splitS cs with
   | nil => simp [headC]
   | cons a b => rw [h] at this; simp [headC] at this ⊢; omega
theorem cut_take (x : List Int) (a i : Nat) (h : a ≤ i) (hi : i < x.length) : (x.take (i + 1)).drop a = (x.take i).drop a ++ [rd x (i : Int)] := by
 rw [take_rd x i hi, List.drop_append_of_le_length (by rw [List.length_take]; omega)]
theorem split_prog (x : List Int) (hx : x.length ≤ 4194304) : ∀ (n i a : Nat) (acc : List (List Int)) (k : Nat), i + n = x.length → a ≤ i → acc.length ≤ i → n + 1 ≤ k →
  scalar_Split.l0 k x acc (a : Int) x (x.length : Int) (i : Int) = some (acc ++ headC ((x.take i).drop a) (splitS (x.drop i))) := by
 intro n
 induction n with
 | zero =>
  intro i a acc k hi ha hc hk
  obtain ⟨k, rfl⟩ : ∃ m, k = m + 1 := ⟨k - 1, by omega⟩
  rw [drop_all _ i (by omega), List.take_of_length_le (by omega), scalar_Split.l0, if_neg (by omega), if_pos (by omega), if_pos (by omega), Int.toNat_natCast, if_pos (by simp; omega), if_pos (by omega)]
  simp [splitS, headC]
 | succ n ih =>
  intro i a acc k hi ha hc hk
  obtain ⟨k, rfl⟩ : ∃ m, k = m + 1 := ⟨k - 1, by omega⟩
  have e : wrap64 ((i : Int) + 1) = ((i + 1 : Nat) : Int) := by rw [w64 (by omega) (by omega)]; rfl
  rw [drop_rd x i (by omega), scalar_Split.l0, if_pos (by omega), if_pos (by omega), if_pos (by omega), e]
  simp only [splitS]
  by_cases h : rd x (i : Int) = 46
  ·rw [if_pos h, if_pos h, if_pos (by omega), if_pos (by omega), if_pos (by omega), Int.toNat_natCast, Int.toNat_natCast, if_pos (by simp; omega), if_pos (by omega), List.nil_append]
   have e1 : (x.take (i + 1)).drop (i + 1) = [] := List.drop_eq_nil_of_le (by rw [List.length_take]; omega)
   rw [ih (i + 1) (i + 1) _ k (by omega) (by omega) (by simp; omega) (by omega), e1, headC_nil (splitS_ne (x.drop (i + 1)))]
   simp [headC]
  ·rw [if_neg h, if_neg h, headC_headC, ← cut_take x a i ha (by omega)]
   exact ih (i + 1) a acc k (by omega) (by omega) (by omega) (by omega)
theorem Split_ok (x : List Int) (hx : x.length ≤ 4194304) (k : Nat) (hk : x.length + 1 ≤ k) : scalar_Split.f k x = some (splitS x) := by
 unfold scalar_Split.f
 have h := split_prog x hx x.length 0 0 [] k (by omega) (by omega) (by simp) hk
 simpa [headC_nil (splitS_ne x)] using h
theorem split_ref (x : List Int) (hx : x.length ≤ 4194304) : ∀ (n i : Nat) (acc : List (List Int)) (cur : List Int) (k : Nat), i + n = x.length → acc.length ≤ i → cur.length ≤ i → n + 1 ≤ k →
  endonymref3_Split.l0 k x acc cur (i : Int) = some (acc ++ headC cur (splitS (x.drop i))) := by
 intro n
 induction n with
 | zero =>
  intro i acc cur k hi hc hu hk
  obtain ⟨k, rfl⟩ : ∃ m, k = m + 1 := ⟨k - 1, by omega⟩
  rw [drop_all _ i (by omega), endonymref3_Split.l0, if_neg (by omega), if_pos (by omega)]
  simp [splitS, headC]
 | succ n ih =>
  intro i acc cur k hi hc hu hk
  obtain ⟨k, rfl⟩ : ∃ m, k = m + 1 := ⟨k - 1, by omega⟩
  have e : wrap64 ((i : Int) + 1) = ((i + 1 : Nat) : Int) := by rw [w64 (by omega) (by omega)]; rfl
  rw [drop_rd x i (by omega), endonymref3_Split.l0, if_pos (by omega), if_pos (by omega), e]
  simp only [splitS]
  by_cases h : rd x (i : Int) = 46
  ·rw [if_pos h, if_pos h, if_pos (by omega), ih (i + 1) _ _ k (by omega) (by simp; omega) (by simp) (by omega), headC_nil (splitS_ne _)]
   simp [headC]
  ·rw [if_neg h, if_neg h, headC_headC, if_pos (by omega)]
   exact ih (i + 1) acc _ k (by omega) (by omega) (by simp; omega) (by omega)
theorem SplitR_ok (x : List Int) (hx : x.length ≤ 4194304) (k : Nat) (hk : x.length + 1 ≤ k) : endonymref3_Split.f k x = some (splitS x) := by
 unfold endonymref3_Split.f
 have h := split_ref x hx x.length 0 [] [] k (by omega) (by simp) (by simp) hk
 simpa [headC_nil (splitS_ne x)] using h
def weight (l : List (List Int)) : Nat := (l.map fun r => r.length + 1).sum
theorem rdL (l : List (List Int)) (i : Nat) (h : i < l.length) : rd_L1 l (i : Int) = l[i] := by
 simp [rd_L1, List.getD_eq_getElem?_getD, List.getElem?_eq_getElem h]
theorem drop_rdL (l : List (List Int)) (i : Nat) (h : i < l.length) : l.drop i = rd_L1 l (i : Int) :: l.drop (i + 1) := by
 rw [rdL l i h]; exact List.drop_eq_getElem_cons h
theorem weight_cons (p : List Int) (r : List (List Int)) : weight (p :: r) = p.length + 1 + weight r := by simp [weight]
theorem weight_append (a b : List (List Int)) : weight (a ++ b) = weight a + weight b := by simp [weight]
theorem weight_at (l : List (List Int)) (i : Nat) (hi : i < l.length) : (rd_L1 l (i : Int)).length + 1 ≤ weight l := by
 have h2 := weight_append (l.take i) (l.drop i)
 rw [List.take_append_drop, drop_rdL l i hi, weight_cons] at h2
 omega
theorem len_weight (l : List (List Int)) : l.length ≤ weight l := by
 induction l with
 | nil => simp [weight]
 | cons p r ih => rw [weight_cons]; simp; omega
theorem weight_split : ∀ x : List Int, weight (splitS x) = x.length + 1
 | [] => rfl
 | c :: cs => by
  have ih := weight_split cs
  simp only [splitS]
  by_cases h : c = 46
  ·rw [if_pos h, weight_cons, ih]; simp; omega
  ·rw [if_neg h]
   cases hs : splitS cs with
   | nil => exact absurd hs (splitS_ne cs)
   | cons a b => rw [hs] at ih; rw [headC]; rw [weight_cons] at ih ⊢; simp; omega
theorem sameAll_loop (l : List (List Int)) (hl : weight l ≤ 16777216) : ∀ (n i k : Nat), i + n = l.length → n + weight l + 2 ≤ k → endonymref3_SameAll.l0 k l l (i : Int) = some true := by
 have hll := len_weight l
 intro n
 induction n with
 | zero =>
  intro i k hi hk
  obtain ⟨k, rfl⟩ : ∃ m, k = m + 1 := ⟨k - 1, by omega⟩
  rw [endonymref3_SameAll.l0, if_neg (by omega)]
 | succ n ih =>
  intro i k hi hk
  obtain ⟨k, rfl⟩ : ∃ m, k = m + 1 := ⟨k - 1, by omega⟩
  have e : wrap64 ((i : Int) + 1) = ((i + 1 : Nat) : Int) := by rw [w64 (by omega) (by omega)]; rfl
  have hw := weight_at l i (by omega)
  rw [endonymref3_SameAll.l0, if_pos (by omega), if_pos (by omega), if_pos (by omega), Same_eq _ (by omega) _ (by omega), Option.bind_some, if_pos rfl, e]
  exact ih (i + 1) k (by omega) (by omega)
theorem SameAll_eq (l : List (List Int)) (hl : weight l ≤ 16777216) (k : Nat) (hk : 2 * weight l + 2 ≤ k) : endonymref3_SameAll.f k l l = some true := by
 have hll := len_weight l
 unfold endonymref3_SameAll.f
 rw [if_pos rfl]
 exact sameAll_loop l hl l.length 0 k (by omega) (by omega)
def fin (p : List Int) : List Int := List.replicate p.length (-9) ++ [-9, -9]
theorem at_mid (m r : List (List Int)) (p : List Int) : rd_L1 (m ++ p :: r) (m.length : Int) = p := by simp [rd_L1]
theorem set_mid (m r : List (List Int)) (p q : List Int) : (m ++ p :: r).set (m.length : Int).toNat q = m ++ q :: r := by simp [List.set_append]
theorem splits_inner (m r : List (List Int)) (hm : m.length ≤ 4194304) : ∀ (s : List Int) (j k : Nat), j + s.length ≤ 4194304 → Splits1.l1 (k + s.length + 1) (m ++ (List.replicate j (-9) ++ s) :: r) (m.length : Int) (j : Int) = Splits1.l0 k (m ++ (List.replicate (j + s.length) (-9) ++ [-9, -9]) :: r) ((m.length + 1 : Nat) : Int) := by
 intro s
 have e : wrap64 ((m.length : Int) + 1) = ((m.length + 1 : Nat) : Int) := by rw [w64 (by omega) (by omega)]; rfl
 induction s with
 | nil =>
  intro j k hj
  simp only [List.append_nil, List.length_nil, Nat.add_zero]
  rw [Splits1.l1, if_pos (by omega), if_pos (by simp; omega), at_mid, if_neg (by simp), Option.bind_some, if_pos (by simp at hj ⊢; omega), set_mid, e]
 | cons c s ih =>
  intro j k hj
  have e2 : wrap64 ((j : Int) + 1) = ((j + 1 : Nat) : Int) := by rw [w64 (by omega) (by simp at hj; omega)]; rfl
  have h1 : (List.replicate j (-9 : Int) ++ c :: s).set (j : Int).toNat (-9) = List.replicate (j + 1) (-9) ++ s := by
   rw [List.replicate_succ']
   simp [List.set_append]
  rw [Splits1.l1, if_pos (by omega), if_pos (by simp; omega), at_mid, if_pos (by simp; omega), if_pos (by omega), set_mid, h1, e2]
  simp only [List.length_cons] at hj ⊢
  rw [show k + (s.length + 1) = k + s.length + 1 by omega, ih (j + 1) k (by omega), show j + 1 + s.length = j + (s.length + 1) by omega]
theorem splits_outer : ∀ (r m : List (List Int)) (k : Nat), m.length + weight r ≤ 4194304 → 2 * weight r + 1 ≤ k → Splits1.l0 k (m ++ r) (m.length : Int) = some (m ++ r.map fin) := by
 intro r
 induction r with
 | nil =>
  intro m k hm hk
  obtain ⟨k, rfl⟩ : ∃ m, k = m + 1 := ⟨k - 1, by omega⟩
  rw [Splits1.l0, if_neg (by simp)]
  rfl
 | cons p r ih =>
  intro m k hm hk
  rw [weight_cons] at hm hk
  obtain ⟨k, rfl⟩ : ∃ m, k = m + p.length + 1 + 1 := ⟨k - p.length - 1 - 1, by omega⟩
  have h := splits_inner m r (by omega) p 0 k (by omega)
  rw [show List.replicate 0 (-9 : Int) ++ p = p from rfl, Nat.zero_add] at h
  rw [Splits1.l0, if_pos (by simp; omega)]
  refine Eq.trans h ?_
  have h2 := ih (m ++ [fin p]) k (by simp; omega) (by omega)
  rw [List.length_append, List.length_singleton, List.append_assoc] at h2
  simpa [fin] using h2
theorem fin_len (p : List Int) : (fin p).length = p.length + 2 := by simp [fin]
theorem fin_at (p : List Int) : rd (fin p) (p.length : Int) = -9 := by
 rw [rd_nat _ _ (by rw [fin_len]; omega)]
 simp [fin]
theorem splits_two (x : List Int) (hx : x.length ≤ 1048576) : ∀ (n i k : Nat), i + n = (splitS x).length → n + 4 * x.length + 10 ≤ k → endonymlaw3_ScalarSplits.l0 k x x ((splitS x).map fin) (splitS x) (i : Int) = some true := by
 have hs := splitS_len x
 have hw := weight_split x
 intro n
 induction n with
 | zero =>
  intro i k hi hk
  obtain ⟨k, rfl⟩ : ∃ m, k = m + 1 := ⟨k - 1, by omega⟩
  rw [endonymlaw3_ScalarSplits.l0, if_neg (by rw [List.length_map]; omega), endonymlaw3_whole.f, Same_eq x (by omega) k (by omega), Option.bind_some, Option.bind_some, if_pos rfl, Split_ok x (by omega) k (by omega), Option.bind_some,
   SameAll_eq _ (by omega) k (by omega), Option.bind_some]
 | succ n ih =>
  intro i k hi hk
  obtain ⟨k, rfl⟩ : ∃ m, k = m + 1 := ⟨k - 1, by omega⟩
  have e : wrap64 ((i : Int) + 1) = ((i + 1 : Nat) : Int) := by rw [w64 (by omega) (by omega)]; rfl
  have hr := weight_at (splitS x) i (by omega)
  have h1 : rd_L1 ((splitS x).map fin) (i : Int) = fin (rd_L1 (splitS x) (i : Int)) := by
   rw [rdL _ i (by rw [List.length_map]; omega), rdL _ i (by omega), List.getElem_map]
  rw [endonymlaw3_ScalarSplits.l0, if_pos (by rw [List.length_map]; omega), if_pos (by omega), if_pos (by omega), h1, fin_len, w64 (by omega) (by omega), if_pos (by omega), if_pos (by omega), if_pos (by omega), if_pos (fin_at _), e]
  exact ih (i + 1) k (by omega) (by omega)
theorem law_splits (x : List Int) (hx : x.length ≤ 1048576) : ∃ k, endonymlaw3_ScalarSplits.f k x = some true := by
 have hs := splitS_len x
 have hw := weight_split x
 refine ⟨(8 * x.length + 40) + 1, ?_⟩
 unfold endonymlaw3_ScalarSplits.f
 rw [roomy_eq x (by omega), Option.bind_some, Split_ok x (by omega) _ (by omega), Option.bind_some, SplitR_ok x (by omega) _ (by omega), Option.bind_some, told_ok _ (by omega), Option.bind_some, if_pos rfl,
  SameAll_eq _ (by omega) _ (by omega), Option.bind_some, if_pos rfl, endonymlaw3_whole.f, Same_eq x (by omega) _ (by omega), Option.bind_some, Option.bind_some, endonymlaw3_ScalarSplits.j0, if_neg (by decide)]
 have h1 := splits_outer (splitS x) [] (8 * x.length + 40) (by simp; omega) (by omega)
 rw [List.nil_append, List.nil_append] at h1
 refine (congrArg (Option.bind · _) h1).trans ?_
 rw [Option.bind_some]
 exact splits_two x hx (splitS x).length 0 _ (by omega) (by omega)
end Go.Proofs.Ytkgapabnokmkeaa.Plain
