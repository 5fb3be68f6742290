import Derived.Test.YtnoppeocbfapdaaGreatDoorBaseP
import Derived.Test.YtnoppeocbfapdaaGreatDoorUptoRec
import Derived.Test.YtnoppeocbfapdaaGreatDoorTx1
import Derived.Test.YtnoppeocbfapdaaGreatDoorTx17
import Derived.Test.YtnoppeocbfapdaaGreatDoorTx5
import Derived.Test.YtnoppeocbfapdaaGreatDoorTx16
import Derived.Test.YtnoppeocbfapdaaGreatDoorTx14
import Derived.Test.YtnoppeocbfapdaaGreatDoorTx15
namespace Go.Proofs.YtnoppeocbfapdaaGreatDoor.Plain
open Go.RowKit Go.Proofs.YtnoppeocbfapdaaGreatDoorW.PrintWords Go.Proofs.YtnoppeocbfapdaaGreatDoorW.PrintLast Go.Proofs.YtnoppeocbfapdaaGreatDoorW.PrintMore Go.Proofs.YtnoppeocbfapdaaGreatDoor.T
set_option linter.unusedVariables false
set_option linter.unusedSimpArgs false
theorem wf_i64 {x : Int} (h : (Lit.int .i64 x).wf = true) : -9223372036854775808 ≤ x ∧ x ≤ 9223372036854775807 := by
 simpa only [Lit.wf, Bool.and_eq_true, decide_eq_true_eq, show IntKind.i64.min = -9223372036854775808 from by decide, show IntKind.i64.max = 9223372036854775807 from by decide] using h
theorem wf_i32 {x : Int} (h : (Lit.int .i32 x).wf = true) : -2147483648 ≤ x ∧ x ≤ 2147483647 := by
 simpa only [Lit.wf, Bool.and_eq_true, decide_eq_true_eq, show IntKind.i32.min = -2147483648 from by decide, show IntKind.i32.max = 2147483647 from by decide] using h
theorem rd_rec (l : List S25) (i : Nat) (h : i < l.length) : rd_T25 l (i : Int) = l[i] := by
 unfold rd_T25
 rw [Int.toNat_natCast, List.getD_eq_getElem?_getD, List.getElem?_eq_getElem h]; rfl
theorem copied_ok : ∀ (d : Nat) (l acc : List S25) (i k : Nat), l.length = i + d → l.length ≤ 1000000 → acc.length = i → (∀ x ∈ l, x.f4.length < 1000000000000) → d < k → endonymref6_Copied.l0 k l acc (i : Int) = some (acc ++ l.drop i) := by
 intro d
 induction d with
 | zero =>
  intro l acc i k hl hb ha hs hk
  obtain ⟨k, rfl⟩ : ∃ m, k = m + 1 := ⟨k - 1, by omega⟩
  rw [endonymref6_Copied.l0, if_neg (by omega), List.drop_eq_nil_of_le (by omega), List.append_nil]
 | succ d ih =>
  intro l acc i k hl hb ha hs hk
  obtain ⟨k, rfl⟩ : ∃ m, k = m + 1 := ⟨k - 1, by omega⟩
  have hil : i < l.length := by omega
  have hx := hs l[i] (List.getElem_mem hil)
  rw [endonymref6_Copied.l0, if_pos (by omega), if_pos (by omega), rd_rec l i hil, if_pos (by simp; omega), if_pos (by omega)]
  rw [show wrap64 ((i : Int) + 1) = ((i + 1 : Nat) : Int) by unfold wrap64; omega]
  rw [ih l _ (i + 1) k (by omega) hb (by simp [ha]) hs (by omega), List.append_assoc]
  congr 2
  rw [List.drop_eq_getElem_cons hil]
  rfl
theorem few_ok (l : List S25) (m k : Nat) (hm : m ≤ 1000) (hs : ∀ x ∈ l, x.f4.length < 1000000000000) (hk : m < k) : endonymlaw6_few.f k l (m : Int) = some (l.take m) := by
 unfold endonymlaw6_few.f
 rw [if_pos ⟨hs, by omega⟩]
 have e : mn (l.length : Int) (m : Int) = ((min l.length m : Nat) : Int) := by unfold mn; omega
 rw [e, if_pos (by omega), if_pos (by omega), Int.toNat_natCast]
 unfold endonymref6_Copied.f
 have hl : (l.take (min l.length m)).length = min l.length m := by rw [List.length_take]; omega
 have := copied_ok (min l.length m) (l.take (min l.length m)) [] 0 k (by rw [hl]; omega) (by rw [hl]; omega) rfl (fun x hx => hs x (List.mem_of_mem_take hx)) (by omega)
 rw [show ((0 : Nat) : Int) = 0 from rfl] at this
 rw [this, Option.bind_some, List.drop_zero, List.nil_append]
 congr 1
 by_cases h : m ≤ l.length
 ·rw [Nat.min_eq_right h]
 ·rw [Nat.min_eq_left (by omega), List.take_of_length_le (Nat.le_refl _), List.take_of_length_le (by omega)]
def fam (a : Int) : Int := if 1 ≤ a ∧ a ≤ 5 then 1 else if a = 6 then 2 else if a = 7 ∨ a = 8 then 3 else if 9 ≤ a ∧ a ≤ 15 then a - 5 else 0
theorem fam_le (a : Int) : 0 ≤ fam a ∧ fam a ≤ 10 := by unfold fam; omega
theorem fam15 : fam 15 = 10 := by decide
theorem kinds (a : Int) : (a < 1 ∨ 15 < a) ∨ a = 1 ∨ a = 2 ∨ a = 3 ∨ a = 4 ∨ a = 5 ∨ a = 6 ∨ a = 7 ∨ a = 8 ∨ a = 9 ∨ a = 10 ∨ a = 11 ∨ a = 12 ∨ a = 13 ∨ a = 14 ∨ a = 15 := by omega
theorem fam_prog (a : Int) (k : Nat) (hk : 2 ≤ k) : table_Family.f k a = some (fam a) := by
 obtain ⟨k, rfl⟩ : ∃ m, k = m + 2 := ⟨k - 2, by omega⟩
 rcases kinds a with h | rfl | rfl | rfl | rfl | rfl | rfl | rfl | rfl | rfl | rfl | rfl | rfl | rfl | rfl | rfl
 ·have e : fam a = 0 := by unfold fam; omega
  have h5 : (a == 5) = false := by rw [beq_eq_false_iff_ne]; omega
  have h8 : (a == 8) = false := by rw [beq_eq_false_iff_ne]; omega
  unfold table_Family.f
  rw [if_neg (by omega), if_neg (by omega), if_neg (by omega), if_neg (by omega), h5, table_Family.j0, if_neg (by decide), if_neg (by omega), if_neg (by omega), h8, table_Family.j1, if_neg (by decide), if_neg (by omega), if_neg (by omega), if_neg (by omega), if_neg (by omega), if_neg (by omega), if_neg (by omega), if_neg (by omega), e]
 all_goals first | rfl | (simp [table_Family.f, table_Family.j0, table_Family.j1, fam, wrap64])
theorem fam_ref (a : Int) : endonymref6_Family.f a = some (fam a) := by
 rcases kinds a with h | rfl | rfl | rfl | rfl | rfl | rfl | rfl | rfl | rfl | rfl | rfl | rfl | rfl | rfl | rfl
 ·have e : fam a = 0 := by unfold fam; omega
  rw [e]
  unfold endonymref6_Family.f
  rcases h with h | h
  ·rw [if_pos h]
  ·rw [if_neg (by omega), if_pos (by omega)]
 all_goals rfl
theorem speaks_eq (x : S25) (hx : Upto.WfRec x) (h15 : x.f0 ≠ 15) (c : Int) : ∃ b, table_speaks.f x.f0 x.f1 x.f2 x.f3 x.f4 x.f5 x.f6 x.f7 c = some b ∧ endonymref6_Speaks.f x.f0 x.f1 x.f2 x.f3 x.f4 x.f5 x.f6 x.f7 c = some b := by
 have w3 := wf_i64 hx.f3
 unfold table_speaks.f endonymref6_Speaks.f endonymref6_step.f
 have leaf : ∀ (P Q : Option Bool) (b : Bool), P = some b → Q = some b → ∃ b, P = some b ∧ Q = some b := fun P Q b h1 h2 => ⟨b, h1, h2⟩
 by_cases h4 : x.f0 = 4
 ·by_cases h3 : 0 < x.f3
  ·have em : (if x.f0 = 4 then some (mx x.f3 0) else some 1) = some x.f3 := by rw [if_pos h4]; unfold mx; rw [if_neg (by omega)]
   have hw : ¬ IntKind.u64.wrap x.f3 = 0 := by rw [wu64 (by omega) (by omega)]; omega
   have h3' : x.f3 > 0 := h3
   rw [em, Option.bind_some]
   simp only [if_neg h15, if_pos h3', if_pos h4, if_neg hw]
   by_cases c1 : c < x.f1
   ·exact leaf _ _ false (by simp only [if_pos c1]) (by simp only [if_neg (show ¬ c ≥ x.f1 by omega), ite_self])
   ·by_cases c2 : c > x.f2
    ·exact leaf _ _ false (by simp only [if_neg c1, if_pos c2]) (by simp only [if_neg (show ¬ c ≤ x.f2 by omega), ite_self])
    ·by_cases c3 : c < 0
     ·exact leaf _ _ false (by simp only [if_neg c1, if_neg c2, if_pos c3]) (by simp only [if_neg (show ¬ c ≥ 0 by omega)])
     ·by_cases c4 : c > 1114111
      ·exact leaf _ _ false (by simp only [if_neg c1, if_neg c2, if_neg c3, if_pos c4]) (by simp only [if_neg (show ¬ c ≤ 1114111 by omega), ite_self])
      ·exact leaf _ _ _ (by simp only [if_neg c1, if_neg c2, if_neg c3, if_neg c4]; rfl) (by simp only [if_pos (show c ≥ 0 by omega), if_pos (show c ≤ 1114111 by omega), if_pos (show c ≥ x.f1 by omega), if_pos (show c ≤ x.f2 by omega)])
  ·have em : (if x.f0 = 4 then some (mx x.f3 0) else some 1) = some 0 := by rw [if_pos h4]; unfold mx; by_cases h : x.f3 < 0; (rw [if_pos h]); (rw [if_neg h]; congr 1; omega)
   have h3' : ¬ x.f3 > 0 := h3
   rw [em, Option.bind_some]
   exact leaf _ _ false (by simp only [if_pos h4, if_neg h3', ite_self]) (by simp only [if_neg h15, if_neg (show ¬ (0 : Int) > 0 by decide)])
 ·rw [show (if x.f0 = 4 then some (mx x.f3 0) else some 1) = some 1 from if_neg h4, Option.bind_some]
  have hw : ¬ IntKind.u64.wrap 1 = 0 := by decide
  have hm : ∀ y : Int, (Int.tmod y (IntKind.u64.wrap 1) == 0) = true := fun y => by rw [show IntKind.u64.wrap 1 = 1 by decide, Int.tmod_one]; rfl
  simp only [if_neg h15, if_neg h4, if_neg hw, hm, if_pos (show (1 : Int) > 0 by decide)]
  by_cases c1 : c < x.f1
  ·exact leaf _ _ false (by simp only [if_pos c1]) (by simp only [if_neg (show ¬ c ≥ x.f1 by omega), ite_self])
  ·by_cases c2 : c > x.f2
   ·exact leaf _ _ false (by simp only [if_neg c1, if_pos c2]) (by simp only [if_neg (show ¬ c ≤ x.f2 by omega), ite_self])
   ·by_cases c3 : c < 0
    ·exact leaf _ _ false (by simp only [if_neg c1, if_neg c2, if_pos c3]) (by simp only [if_neg (show ¬ c ≥ 0 by omega)])
    ·by_cases c4 : c > 1114111
     ·exact leaf _ _ false (by simp only [if_neg c1, if_neg c2, if_neg c3, if_pos c4]) (by simp only [if_neg (show ¬ c ≤ 1114111 by omega), ite_self])
     ·exact leaf _ _ _ (by simp only [if_neg c1, if_neg c2, if_neg c3, if_neg c4]; rfl) (by simp only [if_pos (show c ≥ 0 by omega), if_pos (show c ≤ 1114111 by omega), if_pos (show c ≥ x.f1 by omega), if_pos (show c ≤ x.f2 by omega)])
theorem find_loop (l : List S25) (hw : ∀ x ∈ l, Upto.WfRec x) (f c : Int) (h1 : 1 ≤ f) (h9 : f ≤ 9) (hc : wrap64 c = c) (hb : l.length ≤ 1000000) :
  ∀ (d i k k' : Nat), l.length = i + d → d + 3 ≤ k → d + 1 ≤ k' → ∃ v, table_Find.l0 k f c l (l.length : Int) (i : Int) = some v ∧ endonymref6_Find.l0 k' l f c (i : Int) = some v := by
 intro d
 induction d with
 | zero =>
  intro i k k' hl hk hk'
  obtain ⟨k, rfl⟩ : ∃ m, k = m + 1 := ⟨k - 1, by omega⟩
  obtain ⟨k', rfl⟩ : ∃ m, k' = m + 1 := ⟨k' - 1, by omega⟩
  exact ⟨-1, by rw [table_Find.l0, if_neg (by omega)], by rw [endonymref6_Find.l0, if_neg (by omega)]⟩
 | succ d ih =>
  intro i k k' hl hk hk'
  obtain ⟨k, rfl⟩ : ∃ m, k = m + 1 := ⟨k - 1, by omega⟩
  obtain ⟨k', rfl⟩ : ∃ m, k' = m + 1 := ⟨k' - 1, by omega⟩
  have hil : i < l.length := by omega
  obtain ⟨v, g1, g2⟩ := ih (i + 1) k k' (by omega) (by omega) (by omega)
  have e : wrap64 ((i : Int) + 1) = ((i + 1 : Nat) : Int) := by unfold wrap64; omega
  rw [table_Find.l0, endonymref6_Find.l0, if_pos (by omega), if_pos (by omega), if_pos (by omega), if_pos (by omega), if_pos (by omega), rd_rec l i hil, hc, e, fam_prog _ k (by omega), fam_ref, Option.bind_some, Option.bind_some]
  by_cases hf : fam l[i].f0 = f
  ·have h15 : l[i].f0 ≠ 15 := fun h => by rw [h, fam15] at hf; omega
   obtain ⟨b, s1, s2⟩ := speaks_eq l[i] (hw _ (List.getElem_mem hil)) h15 c
   rw [if_pos hf, if_pos hf, s1, s2, Option.bind_some, Option.bind_some]
   by_cases hb : b = true
   ·rw [if_pos hb, if_pos hb]; exact ⟨_, rfl, rfl⟩
   ·rw [if_neg hb, if_neg hb]; exact ⟨v, g1, g2⟩
  ·rw [if_neg hf, if_neg hf]; exact ⟨v, g1, g2⟩
theorem find_none (l : List S25) (f c : Int) (h : f < 0 ∨ 10 < f) (hb : l.length ≤ 1000000) : ∀ (d i k : Nat), l.length = i + d → d + 1 ≤ k → endonymref6_Find.l0 k l f c (i : Int) = some (-1) := by
 intro d
 induction d with
 | zero =>
  intro i k hl hk
  obtain ⟨k, rfl⟩ : ∃ m, k = m + 1 := ⟨k - 1, by omega⟩
  rw [endonymref6_Find.l0, if_neg (by omega)]
 | succ d ih =>
  intro i k hl hk
  obtain ⟨k, rfl⟩ : ∃ m, k = m + 1 := ⟨k - 1, by omega⟩
  have hil : i < l.length := by omega
  have e : wrap64 ((i : Int) + 1) = ((i + 1 : Nat) : Int) := by unfold wrap64; omega
  have hf := fam_le l[i].f0
  rw [endonymref6_Find.l0, if_pos (by omega), if_pos (by omega), rd_rec l i hil, fam_ref, Option.bind_some, if_neg (by omega), e]
  exact ih (i + 1) k (by omega) (by omega)
theorem find_eq (l : List S25) (hw : ∀ x ∈ l, Upto.WfRec x) (f c : Int) (hc : wrap64 c = c) (hb : l.length ≤ 1000000) (k : Nat) (hk : l.length + 5 ≤ k) : ∃ v, table_Find.f k l f c = some v ∧ endonymref6_Find.f k l f c = some v := by
 obtain ⟨k, rfl⟩ : ∃ m, k = m + 1 := ⟨k - 1, by omega⟩
 unfold table_Find.f endonymref6_Find.f
 by_cases h10 : f = 10
 ·subst h10
  exact ⟨-1, by rw [if_neg (by decide), show decide ((10 : Int) > 9) = true from rfl, table_Find.j0, if_pos rfl], by rw [if_pos rfl, endonymref6_Find.j0, if_pos rfl]⟩
 ·rw [if_neg h10]
  by_cases h0 : f = 0
  ·subst h0
   exact ⟨-1, by rw [if_pos (by decide), table_Find.j0, if_pos rfl], by rw [show ((0 : Int) == 0) = true from rfl, endonymref6_Find.j0, if_pos rfl]⟩
  ·have e0 : (f == 0) = false := by rw [beq_eq_false_iff_ne]; exact h0
   rw [e0, endonymref6_Find.j0, if_neg (show ¬ (false = true) by decide)]
   by_cases h1 : 1 ≤ f ∧ f ≤ 9
   ·obtain ⟨v, g1, g2⟩ := find_loop l hw f c h1.1 h1.2 hc hb l.length 0 k k (by omega) (by omega) (by omega)
    refine ⟨v, ?_, g2⟩
    rw [if_neg (by omega), show decide (f > 9) = false from decide_eq_false (by omega), table_Find.j0, if_neg (show ¬ (false = true) by decide)]
    exact g1
   ·refine ⟨-1, ?_, find_none l f c (by omega) hb l.length 0 k (by omega) (by omega)⟩
    by_cases h2 : f < 1
    ·rw [if_pos h2, table_Find.j0, if_pos rfl]
    ·rw [if_neg h2, show decide (f > 9) = true from decide_eq_true (by omega), table_Find.j0, if_pos rfl]
/- a list is the same as itself -/
theorem same3_loop (l : List Int) (hb : l.length ≤ 1000000000000) : ∀ (d i k : Nat), l.length = i + d → d + 1 ≤ k → endonymref3_Same.l0 k l l (i : Int) = some true := by
 intro d
 induction d with
 | zero =>
  intro i k hl hk
  obtain ⟨k, rfl⟩ : ∃ m, k = m + 1 := ⟨k - 1, by omega⟩
  rw [endonymref3_Same.l0, if_neg (by omega)]
 | succ d ih =>
  intro i k hl hk
  obtain ⟨k, rfl⟩ : ∃ m, k = m + 1 := ⟨k - 1, by omega⟩
  have e : wrap64 ((i : Int) + 1) = ((i + 1 : Nat) : Int) := by unfold wrap64; omega
  rw [endonymref3_Same.l0, if_pos (by omega), if_pos (by omega), if_pos (by omega), if_pos rfl, e]
  exact ih (i + 1) k (by omega) (by omega)
theorem same3_self (l : List Int) (hb : l.length ≤ 1000000000000) (k : Nat) (hk : l.length + 1 ≤ k) : endonymref3_Same.f k l l = some true := by
 unfold endonymref3_Same.f
 rw [if_pos rfl]
 exact same3_loop l hb l.length 0 k (by omega) hk
theorem sameRec_self (x : S25) (hb : x.f4.length ≤ 1000000000000) (k : Nat) (hk : x.f4.length + 1 ≤ k) : endonymref6_SameRecord.f k x.f0 x.f1 x.f2 x.f3 x.f4 x.f5 x.f6 x.f7 x.f0 x.f1 x.f2 x.f3 x.f4 x.f5 x.f6 x.f7 = some true := by
 unfold endonymref6_SameRecord.f
 rw [if_pos rfl, if_pos rfl, if_pos rfl, if_pos rfl, same3_self _ hb k hk, Option.bind_some, if_pos rfl, if_pos rfl, if_pos rfl]
 unfold api_Bits.f
 simp
theorem same6_loop (l : List S25) (M : Nat) (hM : ∀ x ∈ l, x.f4.length ≤ M) (hM2 : M ≤ 1000000000000) (hb : l.length ≤ 1000000) : ∀ (d i k : Nat), l.length = i + d → d + M + 2 ≤ k → endonymref6_Same.l0 k l l (i : Int) = some true := by
 intro d
 induction d with
 | zero =>
  intro i k hl hk
  obtain ⟨k, rfl⟩ : ∃ m, k = m + 1 := ⟨k - 1, by omega⟩
  rw [endonymref6_Same.l0, if_neg (by omega)]
 | succ d ih =>
  intro i k hl hk
  obtain ⟨k, rfl⟩ : ∃ m, k = m + 1 := ⟨k - 1, by omega⟩
  have hil : i < l.length := by omega
  have e : wrap64 ((i : Int) + 1) = ((i + 1 : Nat) : Int) := by unfold wrap64; omega
  have hx := hM l[i] (List.getElem_mem hil)
  rw [endonymref6_Same.l0, if_pos (by omega), if_pos (by omega), if_pos (by omega), rd_rec l i hil, sameRec_self _ (by omega) k (by omega), Option.bind_some, if_pos rfl, e]
  exact ih (i + 1) k (by omega) (by omega)
theorem take_min (n : Nat) (l : List S25) : l.take (min n l.length) = l.take n := by
 by_cases h : n ≤ l.length
 ·rw [Nat.min_eq_left h]
 ·rw [Nat.min_eq_right (by omega), List.take_of_length_le (Nat.le_refl _), List.take_of_length_le (by omega)]
theorem whole_ok (l m : List S25) (n M k : Nat) (hm : m = l.take n) (hn : n ≤ 1000) (hM : ∀ x ∈ l, x.f4.length ≤ M) (hM2 : M < 1000000000000) (hk : n + M + 2 ≤ k) : endonymlaw6_whole.f k m l = some true := by
 have hlen : m.length ≤ n := by rw [hm, List.length_take]; omega
 have hl2 : m.length ≤ l.length := by rw [hm, List.length_take]; omega
 have hmem : ∀ x ∈ m, x ∈ l := fun x hx => by rw [hm] at hx; exact List.mem_of_mem_take hx
 have e : m = l.take m.length := by rw [hm, List.length_take]; exact (take_min n l).symm
 have hs : endonymref6_Same.f k m m = some true := by
  unfold endonymref6_Same.f
  rw [if_pos rfl]
  exact same6_loop m M (fun x hx => hM x (hmem x hx)) (by omega) (by omega) m.length 0 k (by omega) (by omega)
 unfold endonymlaw6_whole.f
 rw [if_pos ⟨e, hl2, hs, fun x hx => Nat.lt_of_le_of_lt (hM x (hmem x hx)) hM2, by omega⟩]
end Go.Proofs.YtnoppeocbfapdaaGreatDoor.Plain
