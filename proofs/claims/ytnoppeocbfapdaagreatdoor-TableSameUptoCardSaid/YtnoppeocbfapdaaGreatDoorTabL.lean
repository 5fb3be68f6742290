import Derived.Test.YtnoppeocbfapdaaGreatDoorBaseP
import Derived.Test.YtnoppeocbfapdaaGreatDoorUptoRec
import Derived.Test.YtnoppeocbfapdaaGreatDoorTx1
import Derived.Test.YtnoppeocbfapdaaGreatDoorTx14
import Derived.Test.YtnoppeocbfapdaaGreatDoorTx15
import Derived.Test.YtnoppeocbfapdaaGreatDoorTx16
namespace Go.Proofs.YtnoppeocbfapdaaGreatDoor.Plain
open Go.RowKit Go.Proofs.YtnoppeocbfapdaaGreatDoorW.PrintWords Go.Proofs.YtnoppeocbfapdaaGreatDoorW.PrintLast Go.Proofs.YtnoppeocbfapdaaGreatDoorW.PrintMore Go.Proofs.YtnoppeocbfapdaaGreatDoor.T
set_option linter.unusedVariables false
set_option linter.unusedSimpArgs false
theorem wf_i64 {x : Int} (h : (Lit.int .i64 x).wf = true) : -9223372036854775808 ≤ x ∧ x ≤ 9223372036854775807 := by
 simpa only [Lit.wf, Bool.and_eq_true, decide_eq_true_eq, show IntKind.i64.min = -9223372036854775808 from by decide, show IntKind.i64.max = 9223372036854775807 from by decide] using h
theorem wf_i32 {x : Int} (h : (Lit.int .i32 x).wf = true) : -2147483648 ≤ x ∧ x ≤ 2147483647 := by
 simpa only [Lit.wf, Bool.and_eq_true, decide_eq_true_eq, show IntKind.i32.min = -2147483648 from by decide, show IntKind.i32.max = 2147483647 from by decide] using h
theorem rd_rec (l : List S25) (i : Nat) (h : i < l.length) : rd_T25 l (i : Int) = l[i] := by
 unfold rd_T25
 rw [Int.toNat_natCast, List.getD_eq_getElem?_getD, List.getElem?_eq_getElem h]; rfl
theorem copied_ok : ∀ (d : Nat) (l acc : List S25) (i k : Nat), l.length = i + d → l.length ≤ 1000000 → acc.length = i → (∀ x ∈ l, x.f4.length < 1000000000000) → d < k → endonymref6_Copied.l0 k l acc (i : Int) = some (acc ++ l.drop i) := by
 intro d
 induction d with
 | zero =>
  intro l acc i k hl hb ha hs hk
  obtain ⟨k, rfl⟩ : ∃ m, k = m + 1 := ⟨k - 1, by omega⟩
  rw [endonymref6_Copied.l0, if_neg (by omega), List.drop_eq_nil_of_le (by omega), List.append_nil]
 | succ d ih =>
  intro l acc i k hl hb ha hs hk
  obtain ⟨k, rfl⟩ : ∃ m, k = m + 1 := ⟨k - 1, by omega⟩
  have hil : i < l.length := by omega
  have hx := hs l[i] (List.getElem_mem hil)
  rw [endonymref6_Copied.l0, if_pos (by omega), if_pos (by omega), rd_rec l i hil, if_pos (by simp; omega), if_pos (by omega)]
  rw [show wrap64 ((i : Int) + 1) = ((i + 1 : Nat) : Int) by unfold wrap64; omega]
  rw [ih l _ (i + 1) k (by omega) hb (by simp [ha]) hs (by omega), List.append_assoc]
  congr 2
  rw [List.drop_eq_getElem_cons hil]
  rfl
theorem few_ok (l : List S25) (m k : Nat) (hm : m ≤ 1000) (hs : ∀ x ∈ l, x.f4.length < 1000000000000) (hk : m < k) : endonymlaw6_few.f k l (m : Int) = some (l.take m) := by
 unfold endonymlaw6_few.f
 rw [if_pos ⟨hs, by omega⟩]
 have e : mn (l.length : Int) (m : Int) = ((min l.length m : Nat) : Int) := by unfold mn; omega
 rw [e, if_pos (by omega), if_pos (by omega), Int.toNat_natCast]
 unfold endonymref6_Copied.f
 have hl : (l.take (min l.length m)).length = min l.length m := by rw [List.length_take]; omega
 have := copied_ok (min l.length m) (l.take (min l.length m)) [] 0 k (by rw [hl]; omega) (by rw [hl]; omega) rfl (fun x hx => hs x (List.mem_of_mem_take hx)) (by omega)
 rw [show ((0 : Nat) : Int) = 0 from rfl] at this
 rw [this, Option.bind_some, List.drop_zero, List.nil_append]
 congr 1
 by_cases h : m ≤ l.length
 ·rw [Nat.min_eq_right h]
 ·rw [Nat.min_eq_left (by omega), List.take_of_length_le (Nat.le_refl _), List.take_of_length_le (by omega)]
/- a list is the same as itself -/
theorem same3_loop (l : List Int) (hb : l.length ≤ 1000000000000) : ∀ (d i k : Nat), l.length = i + d → d + 1 ≤ k → endonymref3_Same.l0 k l l (i : Int) = some true := by
 intro d
 induction d with
 | zero =>
  intro i k hl hk
  obtain ⟨k, rfl⟩ : ∃ m, k = m + 1 := ⟨k - 1, by omega⟩
  rw [endonymref3_Same.l0, if_neg (by omega)]
 | succ d ih =>
  intro i k hl hk
  obtain ⟨k, rfl⟩ : ∃ m, k = m + 1 := ⟨k - 1, by omega⟩
  have e : wrap64 ((i : Int) + 1) = ((i + 1 : Nat) : Int) := by unfold wrap64; omega
  rw [endonymref3_Same.l0, if_pos (by omega), if_pos (by omega), if_pos (by omega), if_pos rfl, e]
  exact ih (i + 1) k (by omega) (by omega)
theorem same3_self (l : List Int) (hb : l.length ≤ 1000000000000) (k : Nat) (hk : l.length + 1 ≤ k) : endonymref3_Same.f k l l = some true := by
 unfold endonymref3_Same.f
 rw [if_pos rfl]
 exact same3_loop l hb l.length 0 k (by omega) hk
theorem sameRec_self (x : S25) (hb : x.f4.length ≤ 1000000000000) (k : Nat) (hk : x.f4.length + 1 ≤ k) : endonymref6_SameRecord.f k x.f0 x.f1 x.f2 x.f3 x.f4 x.f5 x.f6 x.f7 x.f0 x.f1 x.f2 x.f3 x.f4 x.f5 x.f6 x.f7 = some true := by
 unfold endonymref6_SameRecord.f
 rw [if_pos rfl, if_pos rfl, if_pos rfl, if_pos rfl, same3_self _ hb k hk, Option.bind_some, if_pos rfl, if_pos rfl, if_pos rfl]
 unfold api_Bits.f
 simp
theorem same6_loop (l : List S25) (M : Nat) (hM : ∀ x ∈ l, x.f4.length ≤ M) (hM2 : M ≤ 1000000000000) (hb : l.length ≤ 1000000) : ∀ (d i k : Nat), l.length = i + d → d + M + 2 ≤ k → endonymref6_Same.l0 k l l (i : Int) = some true := by
 intro d
 induction d with
 | zero =>
  intro i k hl hk
  obtain ⟨k, rfl⟩ : ∃ m, k = m + 1 := ⟨k - 1, by omega⟩
  rw [endonymref6_Same.l0, if_neg (by omega)]
 | succ d ih =>
  intro i k hl hk
  obtain ⟨k, rfl⟩ : ∃ m, k = m + 1 := ⟨k - 1, by omega⟩
  have hil : i < l.length := by omega
  have e : wrap64 ((i : Int) + 1) = ((i + 1 : Nat) : Int) := by unfold wrap64; omega
  have hx := hM l[i] (List.getElem_mem hil)
  rw [endonymref6_Same.l0, if_pos (by omega), if_pos (by omega), if_pos (by omega), rd_rec l i hil, sameRec_self _ (by omega) k (by omega), Option.bind_some, if_pos rfl, e]
  exact ih (i + 1) k (by omega) (by omega)
theorem take_min (n : Nat) (l : List S25) : l.take (min n l.length) = l.take n := by
 by_cases h : n ≤ l.length
 ·rw [Nat.min_eq_left h]
 ·rw [Nat.min_eq_right (by omega), List.take_of_length_le (Nat.le_refl _), List.take_of_length_le (by omega)]
theorem sum_le (l : List S25) (x : S25) (hx : x ∈ l) : x.f4.length ≤ (l.map fun x => x.f4.length + x.f5.size + x.f6.size + 1).sum := by
 induction l with
 | nil => simp at hx
 | cons y l ih =>
  rw [List.map_cons, List.sum_cons]
  rcases List.mem_cons.1 hx with rfl | h
  ·omega
  ·have := ih h; omega
end Go.Proofs.YtnoppeocbfapdaaGreatDoor.Plain
