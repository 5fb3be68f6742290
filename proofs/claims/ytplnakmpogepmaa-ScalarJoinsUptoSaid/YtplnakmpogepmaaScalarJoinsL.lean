import Derived.Test.YtplnakmpogepmaaBaseP
import Derived.Test.YtplnakmpogepmaaAx3
import Derived.Test.YtplnakmpogepmaaAx2
namespace Go.Proofs.Ytplnakmpogepmaa.Plain
open Go.RowKit Go.Proofs.YtplnakmpogepmaaW.PrintWords Go.Proofs.YtplnakmpogepmaaW.PrintLast Go.Proofs.YtplnakmpogepmaaW.PrintMore Go.Proofs.Ytplnakmpogepmaa.A
set_option linter.unusedVariables false
set_option linter.unusedSimpArgs false
theorem same_loop (l : List Int) (hl : l.length ≤ 16777216) : ∀ (n i k : Nat), i + n = l.length → n + 1 ≤ k → endonymref3_Same.l0 k l l (i : Int) = some true := by
 intro n
 induction n with
 | zero =>
  intro i k hi hk
  obtain ⟨k, rfl⟩ : ∃ m, k = m + 1 := ⟨k - 1, by omega⟩
  rw [endonymref3_Same.l0, if_neg (by omega)]
 | succ n ih =>
  intro i k hi hk
  obtain ⟨k, rfl⟩ : ∃ m, k = m + 1 := ⟨k - 1, by omega⟩
  have e : wrap64 ((i : Int) + 1) = ((i + 1 : Nat) : Int) := by rw [w64 (by omega) (by omega)]; rfl
  rw [endonymref3_Same.l0, if_pos (by omega), if_pos (by omega), if_pos (by omega), if_pos rfl, e]
  exact ih (i + 1) k (by omega) (by omega)
theorem Same_eq (l : List Int) (hl : l.length ≤ 16777216) (k : Nat) (hk : l.length + 1 ≤ k) : endonymref3_Same.f k l l = some true := by
 unfold endonymref3_Same.f
 rw [if_pos rfl]
 exact same_loop l hl l.length 0 k (by omega) hk
theorem told_ok (k : Nat) (hk : 20 ≤ k) : endonymlaw3_told.f k = some true := at_rounds endonymlaw3_told.mono hk (by decide +kernel)
theorem roomy_eq (l : List Int) (hl : l.length ≤ 16777216) : endonymlaw3_roomy.f l = some l := by
 unfold endonymlaw3_roomy.f
 rw [if_pos (by simp; omega)]
 simp only [List.nil_append, Option.bind_some]
 rw [if_pos (by simp; omega), if_pos (by omega), if_pos (by simp; omega)]
 simp
def joinT (l : List (List Int)) : List Int := l.flatMap (fun p => 46 :: p)
def joinS : List (List Int) → List Int
 | [] => []
 | p :: r => p ++ joinT r
def weight (l : List (List Int)) : Nat := (l.map fun r => r.length + 1).sum
theorem joinT_len : ∀ l : List (List Int), (joinT l).length = weight l
 | [] => rfl
 | p :: r => by
  have h := joinT_len r
  simp only [joinT, weight] at h ⊢
  rw [List.flatMap_cons, List.length_append, h]
  simp
theorem rdL (l : List (List Int)) (i : Nat) (h : i < l.length) : rd_L1 l (i : Int) = l[i] := by
 simp [rd_L1, List.getD_eq_getElem?_getD, List.getElem?_eq_getElem h]
theorem drop_rdL (l : List (List Int)) (i : Nat) (h : i < l.length) : l.drop i = rd_L1 l (i : Int) :: l.drop (i + 1) := by
 rw [rdL l i h]; exact List.drop_eq_getElem_cons h
theorem weight_cons (p : List Int) (r : List (List Int)) : weight (p :: r) = p.length + 1 + weight r := by simp [weight]
theorem weight_append (a b : List (List Int)) : weight (a ++ b) = weight a + weight b := by simp [weight]
theorem weight_at (l : List (List Int)) (i : Nat) (hi : i < l.length) : (rd_L1 l (i : Int)).length + 1 ≤ weight l := by
 have h2 := weight_append (l.take i) (l.drop i)
 rw [List.take_append_drop, drop_rdL l i hi, weight_cons] at h2
 omega
theorem len_weight (l : List (List Int)) : l.length ≤ weight l := by
 induction l with
 | nil => simp [weight]
 | cons p r ih => rw [weight_cons]; simp; omega
theorem join_prog (l : List (List Int)) (hl : weight l ≤ 4194304) : ∀ (n i : Nat) (acc : List Int) (k : Nat), i + n = l.length → acc.length + weight (l.drop i) ≤ 4194304 → n + 1 ≤ k →
  scalar_Join.l0 k acc l (l.length : Int) (i : Int) = some (acc ++ if i = 0 then joinS (l.drop i) else joinT (l.drop i)) := by
 have hll := len_weight l
 intro n
 induction n with
 | zero =>
  intro i acc k hi hc hk
  obtain ⟨k, rfl⟩ : ∃ m, k = m + 1 := ⟨k - 1, by omega⟩
  rw [drop_all _ i (by omega), scalar_Join.l0, if_neg (by omega)]
  split <;> simp [joinS, joinT]
 | succ n ih =>
  intro i acc k hi hc hk
  obtain ⟨k, rfl⟩ : ∃ m, k = m + 1 := ⟨k - 1, by omega⟩
  have e : wrap64 ((i : Int) + 1) = ((i + 1 : Nat) : Int) := by rw [w64 (by omega) (by omega)]; rfl
  rw [drop_rdL l i (by omega), weight_cons] at hc
  rw [drop_rdL l i (by omega), scalar_Join.l0, if_pos (by omega), if_pos (by omega), if_pos (by omega), e]
  by_cases h : i = 0
  ·rw [if_neg (by omega), if_pos (by omega), ih (i + 1) _ k (by omega) (by simp; omega) (by omega), if_neg (by omega), if_pos h]
   simp [joinS]
  ·rw [if_pos (by omega), if_pos (by omega)]
   simp only [Option.bind_some]
   rw [if_pos (by simp; omega), ih (i + 1) _ k (by omega) (by simp; omega) (by omega), if_neg (by omega), if_neg h]
   simp [joinT]
theorem Join_ok (l : List (List Int)) (hl : weight l ≤ 2097152) (k : Nat) (hk : l.length + 1 ≤ k) : scalar_Join.f k l = some (joinS l) := by
 unfold scalar_Join.f
 have h := join_prog l (by omega) l.length 0 [] k (by omega) (by simp; omega) hk
 rw [List.drop_zero, if_pos rfl, List.nil_append] at h
 exact h
theorem join_ref (l : List (List Int)) (hl : weight l ≤ 4194304) : ∀ (n i : Nat) (acc : List Int) (k : Nat), i + n = l.length → acc.length + weight (l.drop i) ≤ 4194304 → n + 1 ≤ k →
  endonymref3_Join.l0 k l acc (i : Int) = some (acc ++ if i = 0 then joinS (l.drop i) else joinT (l.drop i)) := by
 have hll := len_weight l
 intro n
 induction n with
 | zero =>
  intro i acc k hi hc hk
  obtain ⟨k, rfl⟩ : ∃ m, k = m + 1 := ⟨k - 1, by omega⟩
  rw [drop_all _ i (by omega), endonymref3_Join.l0, if_neg (by omega)]
  split <;> simp [joinS, joinT]
 | succ n ih =>
  intro i acc k hi hc hk
  obtain ⟨k, rfl⟩ : ∃ m, k = m + 1 := ⟨k - 1, by omega⟩
  have e : wrap64 ((i : Int) + 1) = ((i + 1 : Nat) : Int) := by rw [w64 (by omega) (by omega)]; rfl
  rw [drop_rdL l i (by omega), weight_cons] at hc
  rw [drop_rdL l i (by omega), endonymref3_Join.l0, if_pos (by omega), e]
  by_cases h : i = 0
  ·rw [if_neg (by omega), if_pos (by omega), if_pos (by omega), ih (i + 1) _ k (by omega) (by simp; omega) (by omega), if_neg (by omega), if_pos h]
   simp [joinS]
  ·rw [if_pos (by omega), if_pos (by omega)]
   simp only [Option.bind_some]
   rw [if_pos (by omega), if_pos (by simp; omega), ih (i + 1) _ k (by omega) (by simp; omega) (by omega), if_neg (by omega), if_neg h]
   simp [joinT]
theorem JoinR_ok (l : List (List Int)) (hl : weight l ≤ 2097152) (k : Nat) (hk : l.length + 1 ≤ k) : endonymref3_Join.f k l = some (joinS l) := by
 unfold endonymref3_Join.f
 have h := join_ref l (by omega) l.length 0 [] k (by omega) (by simp; omega) hk
 rw [List.drop_zero, if_pos rfl, List.nil_append] at h
 exact h
theorem take_rdL (l : List (List Int)) (i : Nat) (h : i < l.length) : l.take (i + 1) = l.take i ++ [rd_L1 l (i : Int)] := by
 rw [rdL l i h]; exact (List.take_append_getElem h).symm
theorem joinS_len (l : List (List Int)) : (joinS l).length ≤ weight l := by
 cases l with
 | nil => simp [joinS]
 | cons p r => rw [weight_cons, joinS, List.length_append, joinT_len]; omega
theorem joins_l2 (l : List (List Int)) (hl : weight l ≤ 1048576) : ∀ (n i k : Nat), i + n = l.length → n + weight l + 2 ≤ k → endonymlaw3_ScalarJoins.l2 k l l (i : Int) = some true := by
 have hll := len_weight l
 intro n
 induction n with
 | zero =>
  intro i k hi hk
  obtain ⟨k, rfl⟩ : ∃ m, k = m + 1 := ⟨k - 1, by omega⟩
  rw [endonymlaw3_ScalarJoins.l2, if_neg (by omega)]
 | succ n ih =>
  intro i k hi hk
  obtain ⟨k, rfl⟩ : ∃ m, k = m + 1 := ⟨k - 1, by omega⟩
  have e : wrap64 ((i : Int) + 1) = ((i + 1 : Nat) : Int) := by rw [w64 (by omega) (by omega)]; rfl
  have hw := weight_at l i (by omega)
  rw [endonymlaw3_ScalarJoins.l2, if_pos (by omega), if_pos (by omega), if_pos (by omega), endonymlaw3_whole.f, Same_eq _ (by omega) _ (by omega), Option.bind_some, Option.bind_some, if_pos rfl, e]
  exact ih (i + 1) k (by omega) (by omega)
theorem joins_l1 (l : List (List Int)) (hl : weight l ≤ 1048576) : ∀ (n i : Nat) (x : List Int) (k : Nat), x.length ≤ weight l → i + n = x.length → n + 2 * weight l + 3 ≤ k → endonymlaw3_ScalarJoins.l1 k l l x (i : Int) = some true := by
 have hll := len_weight l
 intro n
 induction n with
 | zero =>
  intro i x k hx hi hk
  obtain ⟨k, rfl⟩ : ∃ m, k = m + 1 := ⟨k - 1, by omega⟩
  rw [endonymlaw3_ScalarJoins.l1, if_neg (by omega)]
  exact joins_l2 l hl l.length 0 k (by omega) (by omega)
 | succ n ih =>
  intro i x k hx hi hk
  obtain ⟨k, rfl⟩ : ∃ m, k = m + 1 := ⟨k - 1, by omega⟩
  have e : wrap64 ((i : Int) + 1) = ((i + 1 : Nat) : Int) := by rw [w64 (by omega) (by omega)]; rfl
  rw [endonymlaw3_ScalarJoins.l1, if_pos (by omega), if_pos (by omega), e]
  exact ih (i + 1) _ k (by simpa using hx) (by simp; omega) (by omega)
theorem joins_l0 (l : List (List Int)) (hl : weight l ≤ 1048576) : ∀ (n i k : Nat), i + n = l.length → n + 4 * weight l + 30 ≤ k → endonymlaw3_ScalarJoins.l0 k l (l.take i) (i : Int) = some true := by
 have hll := len_weight l
 intro n
 induction n with
 | zero =>
  intro i k hi hk
  obtain ⟨k, rfl⟩ : ∃ m, k = m + 1 := ⟨k - 1, by omega⟩
  have hj := joinS_len l
  rw [endonymlaw3_ScalarJoins.l0, if_neg (by omega), List.take_of_length_le (by omega), Join_ok l (by omega) k (by omega), Option.bind_some, told_ok k (by omega), Option.bind_some, if_pos rfl,
   JoinR_ok l (by omega) k (by omega), Option.bind_some, Same_eq _ (by omega) _ (by omega), Option.bind_some]
  obtain ⟨k, rfl⟩ : ∃ m, k = m + 1 := ⟨k - 1, by omega⟩
  rw [endonymlaw3_ScalarJoins.j1, if_neg (by decide)]
  exact joins_l1 l hl (joinS l).length 0 _ k hj (by omega) (by omega)
 | succ n ih =>
  intro i k hi hk
  obtain ⟨k, rfl⟩ : ∃ m, k = m + 1 := ⟨k - 1, by omega⟩
  have e : wrap64 ((i : Int) + 1) = ((i + 1 : Nat) : Int) := by rw [w64 (by omega) (by omega)]; rfl
  have hw := weight_at l i (by omega)
  rw [endonymlaw3_ScalarJoins.l0, if_pos (by omega), if_pos (by omega), roomy_eq _ (by omega), Option.bind_some, if_pos (by rw [List.length_take]; omega), ← take_rdL l i (by omega), e]
  exact ih (i + 1) k (by omega) (by omega)
theorem law_joins (l : List (List Int)) (hl : weight l ≤ 1048576) : ∃ k, endonymlaw3_ScalarJoins.f k l = some true :=
 ⟨l.length + 4 * weight l + 30, by unfold endonymlaw3_ScalarJoins.f; exact joins_l0 l hl l.length 0 _ (by omega) (by omega)⟩
end Go.Proofs.Ytplnakmpogepmaa.Plain
