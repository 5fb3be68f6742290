import Derived.Test.YtnoppeocbfapdaaGreatDoorBaseP
import Derived.Test.YtnoppeocbfapdaaGreatDoorUptoRec
import Derived.Test.YtnoppeocbfapdaaGreatDoorTx1
import Derived.Test.YtnoppeocbfapdaaGreatDoorTx16
import Derived.Test.YtnoppeocbfapdaaGreatDoorTx17
import Derived.Test.YtnoppeocbfapdaaGreatDoorTx18
import Derived.Test.YtnoppeocbfapdaaGreatDoorTx2
import Derived.Test.YtnoppeocbfapdaaGreatDoorTx3
import Derived.Test.YtnoppeocbfapdaaGreatDoorTx4
import Derived.Test.YtnoppeocbfapdaaGreatDoorTx5
import Derived.Test.YtnoppeocbfapdaaGreatDoorTx6
import Ieee.Arith
import Derived.Test.YtnoppeocbfapdaaGreatDoorTx19
import Derived.Test.YtnoppeocbfapdaaGreatDoorTx20
import Derived.Test.YtnoppeocbfapdaaGreatDoorTx21
import Derived.Test.YtnoppeocbfapdaaGreatDoorTx22
import Derived.Test.YtnoppeocbfapdaaGreatDoorTx7
import Derived.Test.YtnoppeocbfapdaaGreatDoorTx23
import Derived.Test.YtnoppeocbfapdaaGreatDoorTx24
namespace Go.Proofs.YtnoppeocbfapdaaGreatDoor.Plain
open Go.RowKit Go.Proofs.YtnoppeocbfapdaaGreatDoorW.PrintWords Go.Proofs.YtnoppeocbfapdaaGreatDoorW.PrintLast Go.Proofs.YtnoppeocbfapdaaGreatDoorW.PrintMore Go.Proofs.YtnoppeocbfapdaaGreatDoor.T
set_option linter.unusedVariables false
set_option linter.unusedSimpArgs false
theorem wf_i64 {x : Int} (h : (Lit.int .i64 x).wf = true) : -9223372036854775808 ≤ x ∧ x ≤ 9223372036854775807 := by
 simpa only [Lit.wf, Bool.and_eq_true, decide_eq_true_eq, show IntKind.i64.min = -9223372036854775808 from by decide, show IntKind.i64.max = 9223372036854775807 from by decide] using h
theorem wf_i32 {x : Int} (h : (Lit.int .i32 x).wf = true) : -2147483648 ≤ x ∧ x ≤ 2147483647 := by
 simpa only [Lit.wf, Bool.and_eq_true, decide_eq_true_eq, show IntKind.i32.min = -2147483648 from by decide, show IntKind.i32.max = 2147483647 from by decide] using h
theorem rd_rec (l : List S25) (i : Nat) (h : i < l.length) : rd_T25 l (i : Int) = l[i] := by
 unfold rd_T25
 rw [Int.toNat_natCast, List.getD_eq_getElem?_getD, List.getElem?_eq_getElem h]; rfl
theorem copied_ok : ∀ (d : Nat) (l acc : List S25) (i k : Nat), l.length = i + d → l.length ≤ 1000000 → acc.length = i → (∀ x ∈ l, x.f4.length < 1000000000000) → d < k → endonymref6_Copied.l0 k l acc (i : Int) = some (acc ++ l.drop i) := by
 intro d
 induction d with
 | zero =>
  intro l acc i k hl hb ha hs hk
  obtain ⟨k, rfl⟩ : ∃ m, k = m + 1 := ⟨k - 1, by omega⟩
  rw [endonymref6_Copied.l0, if_neg (by omega), List.drop_eq_nil_of_le (by omega), List.append_nil]
 | succ d ih =>
  intro l acc i k hl hb ha hs hk
  obtain ⟨k, rfl⟩ : ∃ m, k = m + 1 := ⟨k - 1, by omega⟩
  have hil : i < l.length := by omega
  have hx := hs l[i] (List.getElem_mem hil)
  rw [endonymref6_Copied.l0, if_pos (by omega), if_pos (by omega), rd_rec l i hil, if_pos (by simp; omega), if_pos (by omega)]
  rw [show wrap64 ((i : Int) + 1) = ((i + 1 : Nat) : Int) by unfold wrap64; omega]
  rw [ih l _ (i + 1) k (by omega) hb (by simp [ha]) hs (by omega), List.append_assoc]
  congr 2
  rw [List.drop_eq_getElem_cons hil]
  rfl
theorem few_ok (l : List S25) (m k : Nat) (hm : m ≤ 1000) (hs : ∀ x ∈ l, x.f4.length < 1000000000000) (hk : m < k) : endonymlaw6_few.f k l (m : Int) = some (l.take m) := by
 unfold endonymlaw6_few.f
 rw [if_pos ⟨hs, by omega⟩]
 have e : mn (l.length : Int) (m : Int) = ((min l.length m : Nat) : Int) := by unfold mn; omega
 rw [e, if_pos (by omega), if_pos (by omega), Int.toNat_natCast]
 unfold endonymref6_Copied.f
 have hl : (l.take (min l.length m)).length = min l.length m := by rw [List.length_take]; omega
 have := copied_ok (min l.length m) (l.take (min l.length m)) [] 0 k (by rw [hl]; omega) (by rw [hl]; omega) rfl (fun x hx => hs x (List.mem_of_mem_take hx)) (by omega)
 rw [show ((0 : Nat) : Int) = 0 from rfl] at this
 rw [this, Option.bind_some, List.drop_zero, List.nil_append]
 congr 1
 by_cases h : m ≤ l.length
 ·rw [Nat.min_eq_right h]
 ·rw [Nat.min_eq_left (by omega), List.take_of_length_le (Nat.le_refl _), List.take_of_length_le (by omega)]
theorem take_min (n : Nat) (l : List S25) : l.take (min n l.length) = l.take n := by
 by_cases h : n ≤ l.length
 ·rw [Nat.min_eq_left h]
 ·rw [Nat.min_eq_right (by omega), List.take_of_length_le (Nat.le_refl _), List.take_of_length_le (by omega)]
theorem sum_le (l : List S25) (x : S25) (hx : x ∈ l) : x.f4.length ≤ (l.map fun x => x.f4.length + x.f5.size + x.f6.size + 1).sum := by
 induction l with
 | nil => simp at hx
 | cons y l ih =>
  rw [List.map_cons, List.sum_cons]
  rcases List.mem_cons.1 hx with rfl | h
  ·omega
  ·have := ih h; omega
end Go.Proofs.YtnoppeocbfapdaaGreatDoor.Plain
namespace Go.Proofs.YtnoppeocbfapdaaGreatDoor.Plain
open Go.RowKit Go.Proofs.YtnoppeocbfapdaaGreatDoorW.PrintWords Go.Proofs.YtnoppeocbfapdaaGreatDoorW.PrintLast Go.Proofs.YtnoppeocbfapdaaGreatDoorW.PrintMore Go.Proofs.YtnoppeocbfapdaaGreatDoor.T
set_option linter.unusedVariables false
set_option linter.unusedSimpArgs false
/- a list is the same as itself -/
theorem same3_loop (l : List Int) (hb : l.length ≤ 1000000000000) : ∀ (d i k : Nat), l.length = i + d → d + 1 ≤ k → endonymref3_Same.l0 k l l (i : Int) = some true := by
 intro d
 induction d with
 | zero =>
  intro i k hl hk
  obtain ⟨k, rfl⟩ : ∃ m, k = m + 1 := ⟨k - 1, by omega⟩
  rw [endonymref3_Same.l0, if_neg (by omega)]
 | succ d ih =>
  intro i k hl hk
  obtain ⟨k, rfl⟩ : ∃ m, k = m + 1 := ⟨k - 1, by omega⟩
  have e : wrap64 ((i : Int) + 1) = ((i + 1 : Nat) : Int) := by unfold wrap64; omega
  rw [endonymref3_Same.l0, if_pos (by omega), if_pos (by omega), if_pos (by omega), if_pos rfl, e]
  exact ih (i + 1) k (by omega) (by omega)
theorem same3_self (l : List Int) (hb : l.length ≤ 1000000000000) (k : Nat) (hk : l.length + 1 ≤ k) : endonymref3_Same.f k l l = some true := by
 unfold endonymref3_Same.f
 rw [if_pos rfl]
 exact same3_loop l hb l.length 0 k (by omega) hk
theorem sameRec_self (x : S25) (hb : x.f4.length ≤ 1000000000000) (k : Nat) (hk : x.f4.length + 1 ≤ k) : endonymref6_SameRecord.f k x.f0 x.f1 x.f2 x.f3 x.f4 x.f5 x.f6 x.f7 x.f0 x.f1 x.f2 x.f3 x.f4 x.f5 x.f6 x.f7 = some true := by
 unfold endonymref6_SameRecord.f
 rw [if_pos rfl, if_pos rfl, if_pos rfl, if_pos rfl, same3_self _ hb k hk, Option.bind_some, if_pos rfl, if_pos rfl, if_pos rfl]
 unfold api_Bits.f
 simp
theorem same6_loop (l : List S25) (M : Nat) (hM : ∀ x ∈ l, x.f4.length ≤ M) (hM2 : M ≤ 1000000000000) (hb : l.length ≤ 1000000) : ∀ (d i k : Nat), l.length = i + d → d + M + 2 ≤ k → endonymref6_Same.l0 k l l (i : Int) = some true := by
 intro d
 induction d with
 | zero =>
  intro i k hl hk
  obtain ⟨k, rfl⟩ : ∃ m, k = m + 1 := ⟨k - 1, by omega⟩
  rw [endonymref6_Same.l0, if_neg (by omega)]
 | succ d ih =>
  intro i k hl hk
  obtain ⟨k, rfl⟩ : ∃ m, k = m + 1 := ⟨k - 1, by omega⟩
  have hil : i < l.length := by omega
  have e : wrap64 ((i : Int) + 1) = ((i + 1 : Nat) : Int) := by unfold wrap64; omega
  have hx := hM l[i] (List.getElem_mem hil)
  rw [endonymref6_Same.l0, if_pos (by omega), if_pos (by omega), if_pos (by omega), rd_rec l i hil, sameRec_self _ (by omega) k (by omega), Option.bind_some, if_pos rfl, e]
  exact ih (i + 1) k (by omega) (by omega)
end Go.Proofs.YtnoppeocbfapdaaGreatDoor.Plain
namespace Go.Proofs.YtnoppeocbfapdaaGreatDoor.Plain
open Go.RowKit Go.Proofs.YtnoppeocbfapdaaGreatDoorW.PrintWords Go.Proofs.YtnoppeocbfapdaaGreatDoorW.PrintLast Go.Proofs.YtnoppeocbfapdaaGreatDoorW.PrintMore Go.Proofs.YtnoppeocbfapdaaGreatDoor.T
set_option linter.unusedVariables false
set_option linter.unusedSimpArgs false
theorem whole_ok (l m : List S25) (n M k : Nat) (hm : m = l.take n) (hn : n ≤ 1000) (hM : ∀ x ∈ l, x.f4.length ≤ M) (hM2 : M < 1000000000000) (hk : n + M + 2 ≤ k) : endonymlaw6_whole.f k m l = some true := by
 have hlen : m.length ≤ n := by rw [hm, List.length_take]; omega
 have hl2 : m.length ≤ l.length := by rw [hm, List.length_take]; omega
 have hmem : ∀ x ∈ m, x ∈ l := fun x hx => by rw [hm] at hx; exact List.mem_of_mem_take hx
 have e : m = l.take m.length := by rw [hm, List.length_take]; exact (take_min n l).symm
 have hs : endonymref6_Same.f k m m = some true := by
  unfold endonymref6_Same.f
  rw [if_pos rfl]
  exact same6_loop m M (fun x hx => hM x (hmem x hx)) (by omega) (by omega) m.length 0 k (by omega) (by omega)
 unfold endonymlaw6_whole.f
 rw [if_pos ⟨e, hl2, hs, fun x hx => Nat.lt_of_le_of_lt (hM x (hmem x hx)) hM2, by omega⟩]
end Go.Proofs.YtnoppeocbfapdaaGreatDoor.Plain
namespace Go.Proofs.YtnoppeocbfapdaaGreatDoor.Plain
open Go.RowKit Go.Proofs.YtnoppeocbfapdaaGreatDoorW.PrintWords Go.Proofs.YtnoppeocbfapdaaGreatDoorW.PrintLast Go.Proofs.YtnoppeocbfapdaaGreatDoorW.PrintMore Go.Proofs.YtnoppeocbfapdaaGreatDoor.T
set_option linter.unusedVariables false
set_option linter.unusedSimpArgs false
def fam (a : Int) : Int := if 1 ≤ a ∧ a ≤ 5 then 1 else if a = 6 then 2 else if a = 7 ∨ a = 8 then 3 else if 9 ≤ a ∧ a ≤ 15 then a - 5 else 0
theorem kinds (a : Int) : (a < 1 ∨ 15 < a) ∨ a = 1 ∨ a = 2 ∨ a = 3 ∨ a = 4 ∨ a = 5 ∨ a = 6 ∨ a = 7 ∨ a = 8 ∨ a = 9 ∨ a = 10 ∨ a = 11 ∨ a = 12 ∨ a = 13 ∨ a = 14 ∨ a = 15 := by omega
theorem fam_prog (a : Int) (k : Nat) (hk : 2 ≤ k) : table_Family.f k a = some (fam a) := by
 obtain ⟨k, rfl⟩ : ∃ m, k = m + 2 := ⟨k - 2, by omega⟩
 rcases kinds a with h | rfl | rfl | rfl | rfl | rfl | rfl | rfl | rfl | rfl | rfl | rfl | rfl | rfl | rfl | rfl
 ·have e : fam a = 0 := by unfold fam; omega
  have h5 : (a == 5) = false := by rw [beq_eq_false_iff_ne]; omega
  have h8 : (a == 8) = false := by rw [beq_eq_false_iff_ne]; omega
  unfold table_Family.f
  rw [if_neg (by omega), if_neg (by omega), if_neg (by omega), if_neg (by omega), h5, table_Family.j0, if_neg (by decide), if_neg (by omega), if_neg (by omega), h8, table_Family.j1, if_neg (by decide), if_neg (by omega), if_neg (by omega), if_neg (by omega), if_neg (by omega), if_neg (by omega), if_neg (by omega), if_neg (by omega), e]
 all_goals first | rfl | (simp [table_Family.f, table_Family.j0, table_Family.j1, fam, wrap64])
end Go.Proofs.YtnoppeocbfapdaaGreatDoor.Plain
namespace Go.Proofs.YtnoppeocbfapdaaGreatDoor.Plain
open Go.RowKit Go.Proofs.YtnoppeocbfapdaaGreatDoorW.PrintWords Go.Proofs.YtnoppeocbfapdaaGreatDoorW.PrintLast Go.Proofs.YtnoppeocbfapdaaGreatDoorW.PrintMore Go.Proofs.YtnoppeocbfapdaaGreatDoor.T
set_option linter.unusedVariables false
set_option linter.unusedSimpArgs false
def Tk {α : Type} (F : Nat → Option α) (M : Nat) : Prop := ∃ v, ∀ k, M ≤ k → F k = some v
theorem Tk.pure {α : Type} (v : α) (M : Nat) : Tk (fun _ => some v) M := ⟨v, fun _ _ => rfl⟩
theorem Tk.le {α : Type} {F : Nat → Option α} {M M' : Nat} (h : Tk F M) (hm : M ≤ M') : Tk F M' := by
 obtain ⟨v, h⟩ := h
 exact ⟨v, fun k hk => h k (Nat.le_trans hm hk)⟩
theorem Tk.bind {α β : Type} {F : Nat → Option α} {G : α → Nat → Option β} {M : Nat} (hF : Tk F M) (hG : ∀ v, Tk (G v) M) : Tk (fun k => (F k).bind fun v => G v k) M := by
 obtain ⟨v, h⟩ := hF
 obtain ⟨u, g⟩ := hG v
 exact ⟨u, fun k hk => by show (F k).bind _ = _; rw [h k hk, Option.bind_some]; exact g k hk⟩
theorem Tk.ite {α : Type} {F G : Nat → Option α} {c : Prop} [Decidable c] {M : Nat} (hF : Tk F M) (hG : Tk G M) : Tk (fun k => if c then F k else G k) M := by
 by_cases h : c
 ·obtain ⟨v, g⟩ := hF; exact ⟨v, fun k hk => by show (if c then _ else _) = _; rw [if_pos h]; exact g k hk⟩
 ·obtain ⟨v, g⟩ := hG; exact ⟨v, fun k hk => by show (if c then _ else _) = _; rw [if_neg h]; exact g k hk⟩
theorem Tk.of {α : Type} {F : Option α} (h : ∃ v, F = some v) (M : Nat) : Tk (fun _ => F) M := h.imp fun _ h _ _ => h
theorem Tk.succ {α : Type} {F G : Nat → Option α} {M : Nat} (h : Tk G M) (e : ∀ k, F (k + 1) = G k) : Tk F (M + 1) := by
 obtain ⟨v, h⟩ := h
 refine ⟨v, fun k hk => ?_⟩
 obtain ⟨k, rfl⟩ : ∃ m, k = m + 1 := ⟨k - 1, by omega⟩
 rw [e]; exact h k (by omega)
theorem nothing_t (s0 s1 s2 s3 : Bool) (a0 a1 a2 a3 : Int) (l : List Int) (a5 a6 : ByteArray) (a7 : Nat) : ∃ b, table_spare_nothing.f s0 s1 s2 s3 a0 a1 a2 a3 l a5 a6 a7 = some b := by
 unfold table_spare_nothing.f api_Bits.f
 simp only [Option.bind_some]
 repeat' split
 all_goals exact ⟨_, rfl⟩
theorem name_loop (s : ByteArray) (hs : s.size = 4) : ∀ (d i : Nat), 4 = i + d → Tk (fun k => scan_Name.l0 k s (i : Int)) (d + 1) := by
 intro d
 induction d with
 | zero => intro i hl; exact Tk.succ (Tk.pure true 0) fun k => by rw [scan_Name.l0, if_neg (by omega)]
 | succ d ih =>
  intro i hl
  have e : wrap64 ((i : Int) + 1) = ((i + 1 : Nat) : Int) := by unfold wrap64; omega
  refine Tk.succ (G := fun k => if bt s (i : Int) < 97 then some false else if bt s (i : Int) > 122 then some false else scan_Name.l0 k s ((i + 1 : Nat) : Int)) (Tk.ite (Tk.pure _ _) (Tk.ite (Tk.pure _ _) (ih (i + 1) (by omega)))) fun k => by rw [scan_Name.l0, if_pos (by omega), if_pos (by omega), if_pos (by omega), e]
theorem name_t (s : ByteArray) (M : Nat) (hM : 20 ≤ M) : Tk (fun k => scan_Name.f k s) M := by
 refine Tk.le (M := 6) ?_ (by omega)
 unfold scan_Name.f
 have hf : Tk (fun k => scan_Name.j0 k s true) 6 := (Tk.succ (Tk.pure false 0) fun k => by rw [scan_Name.j0, if_pos rfl]).le (by omega)
 by_cases h4 : (s.size : Int) = 4
 ·have hn : Tk (fun k => scan_Name.j0 k s false) 6 := (Tk.succ (name_loop s (by omega) 3 1 (by omega)) fun k => by rw [scan_Name.j0, if_neg (by decide)]; rfl).le (by omega)
  have key : ∀ b, Tk (fun k => scan_Name.j0 k s b) 6 := fun b => by cases b; exact hn; exact hf
  simp only [if_pos h4, if_pos (show 0 < (s.size : Int) by omega)]
  exact Tk.ite hf (key _)
 ·simp only [if_neg h4]; exact hf
theorem fits_shift {k : Nat} {a1 a2 a3 : Int} {l : List Int} {a5 a6 : ByteArray} {a7 : Nat} (h : table_fits.f k 4 a1 a2 a3 l a5 a6 a7 = some true) : 1 ≤ a3 := by
 unfold table_fits.f at h
 rw [if_neg (by decide), if_pos rfl] at h
 obtain ⟨b, hn⟩ := nothing_t false false true true 4 a1 a2 a3 l a5 a6 a7
 rw [hn, Option.bind_some] at h
 cases b with
 | false => rw [if_neg (by decide)] at h; cases h
 | true =>
  rw [if_pos rfl] at h
  unfold table_shifts.f table_between.f at h
  by_cases c : a3 ≥ 1
  ·exact c
  ·rw [if_neg c, Option.bind_some, if_neg (by decide), Option.bind_some] at h; cases h
theorem right_shift {k : Nat} {a1 a2 a3 : Int} {l : List Int} {a5 a6 : ByteArray} {a7 : Nat} (hk : 2 ≤ k) (h : table_Right.f k 4 a1 a2 a3 l a5 a6 a7 = some 0) : 1 ≤ a3 := by
 unfold table_Right.f at h
 rw [fam_prog _ k hk, Option.bind_some, if_neg (by decide)] at h
 have key : ∀ b, table_Right.j0 k b 4 a1 a2 a3 l a5 a6 a7 = some 0 → 1 ≤ a3 := fun b hj => by
  obtain ⟨k, rfl⟩ : ∃ m, k = m + 1 := ⟨k - 1, by omega⟩
  rw [table_Right.j0, if_neg (by decide)] at hj
  by_cases hb : b = true
  ·rw [if_pos hb] at hj
   cases hf : table_fits.f k 4 a1 a2 a3 l a5 a6 a7 with
   | none => rw [hf] at hj; cases hj
   | some v =>
    rw [hf, Option.bind_some] at hj
    cases v with
    | false => rw [if_neg (by decide)] at hj; cases hj
    | true => exact fits_shift hf
  ·rw [if_neg hb] at hj; cases hj
 split at h
 ·split at h
  ·exact key _ h
  ·exact key _ h
 ·exact key _ h
/- meet -/
theorem speaks_t (x : S25) (hx : Upto.WfRec x) (c : Int) : ∃ b, table_speaks.f x.f0 x.f1 x.f2 x.f3 x.f4 x.f5 x.f6 x.f7 c = some b := by
 have w3 := wf_i64 hx.f3
 unfold table_speaks.f
 by_cases h3 : x.f3 > 0
 ·have hw : ¬ IntKind.u64.wrap x.f3 = 0 := by rw [wu64 (by omega) (by omega)]; omega
  rw [if_neg hw]
  repeat' split
  all_goals exact ⟨_, rfl⟩
 ·rw [if_neg h3]
  repeat' split
  all_goals exact ⟨_, rfl⟩
theorem meet_loop (x y : S25) (hy : Upto.WfRec y) (hi : Int) : ∀ (d i : Nat) (c : Int), 64 = i + d → Tk (fun k => table_meet.l0 k hi c (i : Int) x.f0 x.f1 x.f2 x.f3 x.f4 x.f5 x.f6 x.f7 y.f0 y.f1 y.f2 y.f3 y.f4 y.f5 y.f6 y.f7) (d + 1) := by
 intro d
 induction d with
 | zero => intro i c hl; exact Tk.succ (Tk.pure false 0) fun k => by rw [table_meet.l0, if_neg (by omega)]
 | succ d ih =>
  intro i c hl
  obtain ⟨b, hv⟩ := speaks_t y hy c
  have e : wrap64 ((i : Int) + 1) = ((i + 1 : Nat) : Int) := by unfold wrap64; omega
  refine Tk.succ (G := fun k => if c > hi then some false else if b = true then some true else table_meet.l0 k hi (wrap64 (c + x.f3)) ((i + 1 : Nat) : Int) x.f0 x.f1 x.f2 x.f3 x.f4 x.f5 x.f6 x.f7 y.f0 y.f1 y.f2 y.f3 y.f4 y.f5 y.f6 y.f7) (Tk.ite (Tk.pure _ _) (Tk.ite (Tk.pure _ _) (ih (i + 1) _ (by omega)))) fun k => by rw [table_meet.l0, if_pos (by omega), hv, Option.bind_some, e]
theorem meetg_t (x y : S25) (hy : Upto.WfRec y) (hx : x.f0 = 4 → 1 ≤ x.f3) : Tk (fun k => table_meet.g k x.f0 x.f1 x.f2 x.f3 x.f4 x.f5 x.f6 x.f7 y.f0 y.f1 y.f2 y.f3 y.f4 y.f5 y.f6 y.f7) 66 := by
 unfold table_meet.g
 have jt : Tk (fun k => table_meet.j0 k (mx x.f1 y.f1) (mn x.f2 y.f2) true x.f0 x.f1 x.f2 x.f3 x.f4 x.f5 x.f6 x.f7 y.f0 y.f1 y.f2 y.f3 y.f4 y.f5 y.f6 y.f7) 66 := (Tk.succ (Tk.pure _ 0) fun k => by rw [table_meet.j0, if_pos rfl]).le (by omega)
 by_cases h4 : x.f0 = 4
 ·simp only [if_pos h4]
  have h3 : ¬ x.f3 = 0 := by have := hx h4; omega
  have jf : Tk (fun k => table_meet.j0 k (mx x.f1 y.f1) (mn x.f2 y.f2) false x.f0 x.f1 x.f2 x.f3 x.f4 x.f5 x.f6 x.f7 y.f0 y.f1 y.f2 y.f3 y.f4 y.f5 y.f6 y.f7) 66 := by
   refine Tk.succ (meet_loop x y hy (mn x.f2 y.f2) 64 0 _ (by omega)) fun k => by rw [table_meet.j0, if_neg (by decide), if_neg h3]; rfl
  have key : ∀ b, Tk (fun k => table_meet.j0 k (mx x.f1 y.f1) (mn x.f2 y.f2) b x.f0 x.f1 x.f2 x.f3 x.f4 x.f5 x.f6 x.f7 y.f0 y.f1 y.f2 y.f3 y.f4 y.f5 y.f6 y.f7) 66 := fun b => by cases b; exact jf; exact jt
  exact key _
 ·simp only [if_neg h4]
  exact jt
def Ok (x : S25) : Prop := Upto.WfRec x ∧ (x.f0 = 4 → 1 ≤ x.f3)
def MF (k : Nat) (o x : S25) : Option Bool := table_meet.f k o.f0 o.f1 o.f2 o.f3 o.f4 o.f5 o.f6 o.f7 x.f0 x.f1 x.f2 x.f3 x.f4 x.f5 x.f6 x.f7
def RF (k : Nat) (x : S25) : Option Int := table_Right.f k x.f0 x.f1 x.f2 x.f3 x.f4 x.f5 x.f6 x.f7
theorem meet_t (o x : S25) (ho : Ok o) (hx : Ok x) : Tk (fun k => MF k o x) 66 := by
 unfold MF table_meet.f
 exact Tk.ite (meetg_t o x hx.1 ho.2) (meetg_t x o ho.1 hx.2)
open Classical in
noncomputable def mv (o x : S25) : Bool := decide (∃ K, ∀ k, K ≤ k → MF k o x = some true)
open Classical in
noncomputable def rv (x : S25) : Bool := decide (∃ K, ∀ k, K ≤ k → RF k x = some 0)
theorem mv_is {o x : S25} (ho : Ok o) (hx : Ok x) : ∀ k, 66 ≤ k → MF k o x = some (mv o x) := by
 obtain ⟨v, h⟩ := meet_t o x ho hx
 have e : mv o x = v := by
  unfold mv
  cases v with
  | true => exact @decide_eq_true _ (_) ⟨66, h⟩
  | false =>
   refine @decide_eq_false _ (_) fun ⟨K, g⟩ => ?_
   have := (g (max K 66) (Nat.le_max_left _ _)).symm.trans (h (max K 66) (Nat.le_max_right _ _))
   cases this
 intro k hk
 rw [e]; exact h k hk
theorem rv_ok {x : S25} (hx : Upto.WfRec x) (hr : rv x = true) : Ok x := by
 refine ⟨hx, fun h4 => ?_⟩
 obtain ⟨K, g⟩ := @of_decide_eq_true _ (_) hr
 have := g (max K 2) (Nat.le_max_left _ _)
 unfold RF at this
 rw [h4] at this
 exact right_shift (Nat.le_max_right _ _) this
end Go.Proofs.YtnoppeocbfapdaaGreatDoor.Plain
namespace Go.Proofs.YtnoppeocbfapdaaGreatDoor.Plain
open Go.RowKit Go.Proofs.YtnoppeocbfapdaaGreatDoorW.PrintWords Go.Proofs.YtnoppeocbfapdaaGreatDoorW.PrintLast Go.Proofs.YtnoppeocbfapdaaGreatDoorW.PrintMore
set_option linter.unusedVariables false
set_option linter.unusedSimpArgs false
theorem read64 (x : Nat) : FloatKind.f64.format.read x =
  if x % 9223372036854775808 < 4503599627370496 then .number (x / 9223372036854775808 % 2 == 1) (x % 9223372036854775808) (-1074)
  else if x % 9223372036854775808 < 9218868437227405312 then .number (x / 9223372036854775808 % 2 == 1) (4503599627370496 + x % 9223372036854775808 % 4503599627370496) (-1074 + ((x % 9223372036854775808 / 4503599627370496 - 1 : Nat) : Int))
  else if x % 9223372036854775808 = 9218868437227405312 then .infinity (x / 9223372036854775808 % 2 == 1)
  else .nan (x / 9223372036854775808 % 2 == 1) (x % 9223372036854775808 - 9218868437227405312) := rfl
theorem nan_order (x y : Nat) (h : 9218868437227405312 < x % 9223372036854775808) : FloatKind.f64.format.order x y = none := by
 unfold Ieee.Format.order
 rw [read64 x, if_neg (by omega), if_neg (by omega), if_neg (by omega)]
 cases FloatKind.f64.format.read y <;> rfl
theorem compare_self (a : Int) : compare a a = .eq := by simp [compare, compareOfLessAndEq]
theorem fin_order_self (x : Nat) (h : x % 9223372036854775808 ≤ 9218868437227405312) : FloatKind.f64.format.order x x = some .eq := by
 unfold Ieee.Format.order
 rw [read64 x]
 by_cases h1 : x % 9223372036854775808 < 4503599627370496
 ·rw [if_pos h1]; simp only [Ieee.Datum.order, compare_self]
 ·rw [if_neg h1]
  by_cases h2 : x % 9223372036854775808 < 9218868437227405312
  ·rw [if_pos h2]; simp only [Ieee.Datum.order, compare_self]
  ·rw [if_neg h2, if_pos (by omega)]; simp [Ieee.Datum.order, compare, compareOfLessAndEq]
theorem isnan_false {x : Nat} (h : x % 9223372036854775808 ≤ 9218868437227405312) : (FloatKind.f64.format.order x x != some .eq) = false := by rw [fin_order_self x h]; rfl
end Go.Proofs.YtnoppeocbfapdaaGreatDoor.Plain
namespace Go.Proofs.YtnoppeocbfapdaaGreatDoor.Plain
open Go.RowKit Go.Proofs.YtnoppeocbfapdaaGreatDoorW.PrintWords Go.Proofs.YtnoppeocbfapdaaGreatDoorW.PrintLast Go.Proofs.YtnoppeocbfapdaaGreatDoorW.PrintMore Go.Proofs.YtnoppeocbfapdaaGreatDoor.T
set_option linter.unusedVariables false
set_option linter.unusedSimpArgs false
def validV (c : Int) : Bool := decide (0 ≤ c ∧ c ≤ 1114111 ∧ (c < 55296 ∨ 57343 < c))
theorem valid_v (c : Int) : scalar_Valid.f c = some (validV c) := by
 unfold scalar_Valid.f validV
 by_cases h1 : c ≥ 0
 ·rw [if_pos h1]
  by_cases h2 : c ≤ 1114111
  ·rw [if_pos h2]
   by_cases h3 : c < 55296
   ·rw [if_pos h3, decide_eq_true (by omega)]
   ·rw [if_neg h3]; congr 1; rw [decide_eq_decide]; omega
  ·rw [if_neg h2, decide_eq_false (by omega)]
 ·rw [if_neg h1, decide_eq_false (by omega)]
theorem rvalid_v (c : Int) : endonymref3_Valid.f c = some (validV c) := by
 unfold endonymref3_Valid.f validV
 have h3 : (if c ≥ 57344 then some (decide (c ≤ 1114111)) else some false) = some (decide (57344 ≤ c ∧ c ≤ 1114111)) := by
  by_cases h : c ≥ 57344
  ·rw [if_pos h]; congr 1; rw [decide_eq_decide]; omega
  ·rw [if_neg h, decide_eq_false (by omega)]
 rw [h3]
 by_cases h1 : c ≥ 0
 ·rw [if_pos h1]
  by_cases h2 : c ≤ 55295
  ·rw [if_pos h2, decide_eq_true (by omega)]
  ·rw [if_neg h2]; congr 1; rw [decide_eq_decide]; omega
 ·rw [if_neg h1]; congr 1; rw [decide_eq_decide]; omega
theorem sound_is (l : List Int) (hb : l.length ≤ 1000000000000) : ∀ (d i : Nat), l.length = i + d → ∀ k, d + 1 ≤ k → scalar_Sound.l0 k l (l.length : Int) (i : Int) = some ((l.drop i).all validV) ∧ endonymref3_Sound.l0 k l (i : Int) = some ((l.drop i).all validV) := by
 intro d
 induction d with
 | zero =>
  intro i hl k hk
  obtain ⟨k, rfl⟩ : ∃ m, k = m + 1 := ⟨k - 1, by omega⟩
  rw [scalar_Sound.l0, if_neg (by omega), endonymref3_Sound.l0, if_neg (by omega), List.drop_eq_nil_of_le (by omega)]
  exact ⟨rfl, rfl⟩
 | succ d ih =>
  intro i hl k hk
  obtain ⟨k, rfl⟩ : ∃ m, k = m + 1 := ⟨k - 1, by omega⟩
  have e : wrap64 ((i : Int) + 1) = ((i + 1 : Nat) : Int) := by unfold wrap64; omega
  obtain ⟨g1, g2⟩ := ih (i + 1) (by omega) k (by omega)
  have hd : (l.drop i).all validV = (validV (rd l (i : Int)) && (l.drop (i + 1)).all validV) := by rw [drop_rd l i (by omega), List.all_cons]
  constructor
  ·rw [scalar_Sound.l0, if_pos (by omega), if_pos (by omega), if_pos (by omega), valid_v, Option.bind_some, e, g1, hd]
   cases validV (rd l (i : Int)) <;> rfl
  ·rw [endonymref3_Sound.l0, if_pos (by omega), if_pos (by omega), rvalid_v, Option.bind_some, e, g2, hd]
   cases validV (rd l (i : Int)) <;> rfl
def listV (l : List Int) (x y : Int) : Bool := decide (x ≤ (l.length : Int) ∧ (l.length : Int) ≤ y) && l.all validV
theorem list_if (l : List Int) (x y : Int) (F : Option Bool) (h : F = some (l.all validV)) : (if (l.length : Int) ≥ x then (if (l.length : Int) ≤ y then (F.bind fun t => some t) else some false) else some false) = some (listV l x y) := by
 unfold listV
 rw [h, Option.bind_some]
 by_cases h1 : (l.length : Int) ≥ x
 ·rw [if_pos h1]
  by_cases h2 : (l.length : Int) ≤ y
  ·rw [if_pos h2, decide_eq_true ⟨h1, h2⟩, Bool.true_and]
  ·rw [if_neg h2, decide_eq_false (fun h => h2 h.2), Bool.false_and]
 ·rw [if_neg h1, decide_eq_false (fun h => h1 h.1), Bool.false_and]
theorem sound_v (a0 a1 a2 a3 : Int) (l : List Int) (a5 a6 : ByteArray) (a7 : Nat) (x y : Int) (hb : l.length ≤ 1000000000000) (k : Nat) (hk : l.length + 20 ≤ k) : table_sound.f k a0 a1 a2 a3 l a5 a6 a7 x y = some (listV l x y) := by
 unfold table_sound.f scalar_Sound.f
 exact list_if l x y _ (by have := (sound_is l hb l.length 0 (by omega) k (by omega)).1; rw [List.drop_zero] at this; exact this)
theorem list_v (l : List Int) (x y : Int) (hb : l.length ≤ 1000000000000) (k : Nat) (hk : l.length + 10 ≤ k) : endonymref6_list.f k l x y = some (listV l x y) := by
 unfold endonymref6_list.f endonymref3_Sound.f
 exact list_if l x y _ (by have := (sound_is l hb l.length 0 (by omega) k (by omega)).2; rw [List.drop_zero] at this; exact this)
def nameV (s : ByteArray) : Bool := (scan_Name.f 20 s).getD false
theorem name_v (s : ByteArray) (k : Nat) (hk : 20 ≤ k) : scan_Name.f k s = some (nameV s) := by
 obtain ⟨v, h⟩ := name_t s 20 (Nat.le_refl _)
 have h20 : scan_Name.f 20 s = some v := h 20 (Nat.le_refl _)
 have hkk : scan_Name.f k s = some v := h k hk
 unfold nameV
 rw [hkk, h20]; rfl
theorem rname_l (s : ByteArray) : ∀ (k : Nat) (i : Int), endonymref5_Name.l0 k s i = scan_Name.l0 k s i := by
 intro k
 induction k with
 | zero => intro i; rfl
 | succ k ih => intro i; rw [endonymref5_Name.l0, scan_Name.l0, ih]
theorem rname_v (s : ByteArray) (k : Nat) (hk : 20 ≤ k) : endonymref5_Name.f k s = some (nameV s) := by
 rw [← name_v s k hk]
 have hj : ∀ (k : Nat) b, endonymref5_Name.j0 k s b = scan_Name.j0 k s b := fun k b => by
  cases k with
  | zero => rfl
  | succ k => rw [endonymref5_Name.j0, scan_Name.j0, rname_l]
 unfold endonymref5_Name.f scan_Name.f
 simp only [hj]
def weightV (a : Nat) : Bool := decide (a ≤ 9218868437227405312)
theorem rweight_v (a : Nat) : endonymref6_weight.f a = some (weightV a) := by
 unfold endonymref6_weight.f weightV api_Bits.f
 rw [Option.bind_some]
 congr 1
 rw [decide_eq_decide]
 omega
theorem weighs_v (a0 a1 a2 a3 : Int) (l : List Int) (a5 a6 : ByteArray) (a7 : Nat) (h7 : a7 < 18446744073709551616) : table_weighs.f a0 a1 a2 a3 l a5 a6 a7 = some (weightV a7) := by
 unfold table_weighs.f weightV
 by_cases hn : a7 % 9223372036854775808 ≤ 9218868437227405312
 ·have e0 : weigh_rank.f 0 = some 0 := by
   unfold weigh_rank.f api_Bits.f
   rw [if_neg (by rw [isnan_false (by decide)]; decide), Option.bind_some, show wrap64 ((0 : Nat) : Int) = 0 by unfold wrap64; omega, if_neg (by decide)]
  rw [if_pos (by rw [fin_order_self a7 hn]; rfl)]
  unfold weigh_Order.f
  rw [e0]
  have eb : api_Bits.f a7 = some (a7 : Int) := rfl
  by_cases hs : a7 < 9223372036854775808
  ·have e1 : weigh_rank.f a7 = some (a7 : Int) := by
    unfold weigh_rank.f
    rw [if_neg (by rw [isnan_false hn]; decide), eb, Option.bind_some, show wrap64 ((a7 : Nat) : Int) = (a7 : Int) by unfold wrap64; omega, if_neg (by omega)]
   rw [e1, Option.bind_some, Option.bind_some, if_neg (by omega), decide_eq_true (show a7 ≤ 9218868437227405312 by omega)]
   split <;> rfl
  ·have e1 : ∃ z : Int, z < 0 ∧ weigh_rank.f a7 = some z := by
    refine ⟨wrap64 (wrap64 (-9223372036854775808 - wrap64 ((a7 : Nat) : Int)) - 1), by unfold wrap64; omega, ?_⟩
    unfold weigh_rank.f
    rw [if_neg (by rw [isnan_false hn]; decide), eb, Option.bind_some, if_pos (by unfold wrap64; omega)]
   obtain ⟨z, hz, e1⟩ := e1
   rw [e1, Option.bind_some, Option.bind_some, if_pos hz, decide_eq_false (show ¬ a7 ≤ 9218868437227405312 by omega)]
   rfl
 ·rw [if_neg (by rw [nan_order a7 a7 (by omega)]; decide), decide_eq_false (show ¬ a7 ≤ 9218868437227405312 by omega)]
def bareV (b0 b1 b2 b3 b4 : Bool) (a3 : Int) (l : List Int) (a5 a6 : ByteArray) (a7 : Nat) : Bool := (b0 || decide (a3 = 0)) && ((b1 || decide (l.length = 0)) && ((b2 || decide (a5.toList = [])) && ((b3 || decide (a6.toList = [])) && (b4 || decide (a7 = 0)))))
theorem bitz (a : Nat) : ((a : Int) == 0) = decide (a = 0) := by
 by_cases h : a = 0
 ·subst h; rfl
 ·rw [decide_eq_false h, beq_eq_false_iff_ne]; omega
theorem bitn (a : Nat) : (!((a : Int) != 0)) = decide (a = 0) := by
 rw [← bitz a]; cases h : ((a : Int) == 0) <;> simp [bne, h]
theorem nothing_v (s0 s1 s2 s3 : Bool) (a0 a1 a2 a3 : Int) (l : List Int) (a5 a6 : ByteArray) (a7 : Nat) : table_spare_nothing.f s0 s1 s2 s3 a0 a1 a2 a3 l a5 a6 a7 = some (bareV (!s0) (!s1) (!s2) (decide (a0 = 15)) (!s3) a3 l a5 a6 a7) := by
 unfold table_spare_nothing.f api_Bits.f bareV
 have hl : ((l.length : Int) > 0) = ¬ (l.length = 0) := propext (by omega)
 simp only [Option.bind_some, bitn, hl]
 by_cases h3 : a3 = 0 <;> by_cases h4 : l.length = 0 <;> by_cases h5 : a5.toList = [] <;> by_cases h6 : a6.toList = [] <;> by_cases h15 : a0 = 15 <;> cases s0 <;> cases s1 <;> cases s2 <;> cases s3 <;> simp only [h3, h4, h5, h6, h15, ↓reduceIte, Bool.not_true, Bool.not_false, decide_true, decide_false, Bool.true_or, Bool.false_or, Bool.or_true, Bool.or_false, Bool.true_and, Bool.and_true, Bool.false_and, Bool.and_false, Bool.false_eq_true, not_true, not_false_eq_true]
theorem bare_v (b0 b1 b2 b3 b4 : Bool) (a0 a1 a2 a3 : Int) (l : List Int) (a5 a6 : ByteArray) (a7 : Nat) : endonymref6_bare.f a0 a1 a2 a3 l a5 a6 a7 b0 b1 b2 b3 b4 = some (bareV b0 b1 b2 b3 b4 a3 l a5 a6 a7) := by
 unfold endonymref6_bare.f api_Bits.f bareV
 have hl : ((l.length : Int) = 0) = (l.length = 0) := propext (by omega)
 simp only [Option.bind_some, bitz, hl]
 by_cases h3 : a3 = 0 <;> by_cases h4 : l.length = 0 <;> by_cases h5 : a5.toList = [] <;> by_cases h6 : a6.toList = [] <;> cases b0 <;> cases b1 <;> cases b2 <;> cases b3 <;> cases b4 <;> simp only [h3, h4, h5, h6, ↓reduceIte, decide_true, decide_false, Bool.true_or, Bool.false_or, Bool.or_true, Bool.or_false, Bool.true_and, Bool.and_true, Bool.false_and, Bool.and_false, Bool.false_eq_true]
end Go.Proofs.YtnoppeocbfapdaaGreatDoor.Plain
namespace Go.Proofs.YtnoppeocbfapdaaGreatDoor.Plain
open Go.RowKit Go.Proofs.YtnoppeocbfapdaaGreatDoorW.PrintWords Go.Proofs.YtnoppeocbfapdaaGreatDoorW.PrintLast Go.Proofs.YtnoppeocbfapdaaGreatDoorW.PrintMore Go.Proofs.YtnoppeocbfapdaaGreatDoor.T
set_option linter.unusedVariables false
set_option linter.unusedSimpArgs false
theorem andO {a b : Bool} {F : Option Bool} (h : F = some b) : (if a = true then F else some false) = some (a && b) := by
 cases a
 ·rfl
 ·rw [if_pos rfl, h]; rfl
theorem bindI {F : Option Bool} {b : Bool} (h : F = some b) : (F.bind fun t => some t) = some b := by rw [h]; rfl
theorem bindA {F G : Option Bool} {a b : Bool} (h : F = some a) (g : G = some b) : (F.bind fun t => if t = true then G else some false) = some (a && b) := by rw [h, Option.bind_some]; exact andO g
theorem famR (a : Int) : endonymref6_Family.f a = some (fam a) := by
 rcases kinds a with h | rfl | rfl | rfl | rfl | rfl | rfl | rfl | rfl | rfl | rfl | rfl | rfl | rfl | rfl | rfl
 ·have e : fam a = 0 := by unfold fam; omega
  rw [e]
  unfold endonymref6_Family.f
  rcases h with h | h
  ·rw [if_pos h]
  ·rw [if_neg (by omega), if_pos (by omega)]
 all_goals rfl
def betV (a3 x y : Int) : Bool := decide (x ≤ a3 ∧ a3 ≤ y)
def oneV (a1 a2 : Int) : Bool := decide (a1 = a2) && validV a1
def shV (a1 a2 : Int) (l : List Int) : Bool := decide (rd l 0 + a2 - a1 ≤ 1114111 ∧ (rd l 0 + a2 - a1 < 55296 ∨ 57343 < rd l 0))
def kv (a0 a1 a2 a3 : Int) (l : List Int) (a5 a6 : ByteArray) (a7 : Nat) : Bool :=
 if a0 = 3 then bareV false true false false false a3 l a5 a6 a7 && listV l 1 24
 else if a0 = 4 then bareV true true false false false a3 l a5 a6 a7 && (betV a3 1 64 && (listV l 1 1 && shV a1 a2 l))
 else if a0 = 5 then bareV false true false false false a3 l a5 a6 a7 && (oneV a1 a2 && listV l 0 24)
 else if a0 = 6 then bareV true false false false false a3 l a5 a6 a7 && betV a3 1 254
 else if a0 = 7 then bareV false true false false false a3 l a5 a6 a7 && (oneV a1 a2 && listV l 2 2)
 else if a0 = 8 then bareV false true false false false a3 l a5 a6 a7 && (oneV a1 a2 && listV l 1 2)
 else if a0 = 9 then bareV true false false false false a3 l a5 a6 a7 && betV a3 0 10
 else if a0 = 10 then bareV true false false false false a3 l a5 a6 a7 && betV a3 0 5
 else if a0 = 12 then bareV false false true false false a3 l a5 a6 a7 && nameV a5
 else if a0 = 13 then bareV false true false false false a3 l a5 a6 a7 && (oneV a1 a2 && listV l 1 24)
 else if a0 = 14 then bareV false false false false true a3 l a5 a6 a7 && weightV a7
 else if a0 = 15 then bareV false false true true true a3 l a5 a6 a7 && (nameV a5 && (nameV a6 && (!decide (a5.toList = a6.toList) && weightV a7)))
 else bareV false false false false false a3 l a5 a6 a7
theorem bet_v (a0 a1 a2 a3 : Int) (l : List Int) (a5 a6 : ByteArray) (a7 : Nat) (x y : Int) : table_between.f a0 a1 a2 a3 l a5 a6 a7 x y = some (betV a3 x y) := by
 unfold table_between.f betV
 by_cases h : a3 ≥ x
 ·rw [if_pos h]; congr 1; rw [decide_eq_decide]; omega
 ·rw [if_neg h, decide_eq_false (by omega)]
section
variable {a0 a1 a2 a3 : Int} {l : List Int} {a5 a6 : ByteArray} {a7 : Nat} (hb : l.length ≤ 1000000000000) (h7 : a7 < 18446744073709551616) (s1 : 0 ≤ a1) (s2 : a1 ≤ a2) (s3 : a2 ≤ 1114111)
include s1 s2 s3
theorem one_v : table_one.f a0 a1 a2 a3 l a5 a6 a7 = some (oneV a1 a2) := by
 unfold table_one.f oneV
 rw [show wrap32 a1 = a1 by unfold wrap32; omega, valid_v, Option.bind_some]
 by_cases h : a1 = a2
 ·rw [if_pos h, decide_eq_true h, Bool.true_and]
 ·rw [if_neg h, decide_eq_false h, Bool.false_and]
theorem shifts_v : table_shifts.f a0 a1 a2 a3 l a5 a6 a7 = some (betV a3 1 64 && (listV l 1 1 && shV a1 a2 l)) := by
 unfold table_shifts.f
 refine bindA (bet_v _ _ _ _ _ _ _ _ _ _) ?_
 by_cases h1 : (l.length : Int) = 1
 ·obtain ⟨h, rfl⟩ : ∃ h, l = [h] := List.length_eq_one_iff.1 (by omega)
  have eh : rd [h] 0 = h := rfl
  rw [if_pos h1, if_pos (show 0 < (([h] : List Int).length : Int) by simp), eh, valid_v, Option.bind_some]
  have el : listV [h] 1 1 = validV h := by unfold listV; simp
  rw [el]
  by_cases hv : validV h = true
  ·rw [if_pos hv, hv, Bool.true_and]
   have hv2 : 0 ≤ h ∧ h ≤ 1114111 ∧ (h < 55296 ∨ 57343 < h) := of_decide_eq_true hv
   have e : wrap32 (h + wrap32 (wrap64 (a2 - a1))) = h + a2 - a1 := by unfold wrap32 wrap64; omega
   rw [e, valid_v, Option.bind_some]
   unfold shV
   rw [eh]
   by_cases hw : validV (h + a2 - a1) = true
   ·have hw2 : 0 ≤ h + a2 - a1 ∧ h + a2 - a1 ≤ 1114111 ∧ (h + a2 - a1 < 55296 ∨ 57343 < h + a2 - a1) := of_decide_eq_true hw
    rw [if_pos hw]
    by_cases h5 : h < 55296
    ·by_cases h6 : h + a2 - a1 < 55296
     ·rw [decide_eq_true h5, decide_eq_true h6, decide_eq_true (by omega)]; rfl
     ·rw [decide_eq_true h5, decide_eq_false h6, decide_eq_false (by omega)]; rfl
    ·rw [decide_eq_false h5, decide_eq_false (show ¬ h + a2 - a1 < 55296 by omega), decide_eq_true (by omega)]; rfl
   ·have hw2 : ¬ (0 ≤ h + a2 - a1 ∧ h + a2 - a1 ≤ 1114111 ∧ (h + a2 - a1 < 55296 ∨ 57343 < h + a2 - a1)) := fun hh => hw (decide_eq_true hh)
    rw [if_neg hw, decide_eq_false (by omega)]
  ·rw [if_neg hv, Bool.eq_false_iff.2 hv, Bool.false_and]
 ·rw [if_neg h1]
  have : listV l 1 1 = false := by unfold listV; rw [decide_eq_false (by omega), Bool.false_and]
  rw [this, Bool.false_and]
end
theorem fits_v {a0 a1 a2 a3 : Int} {l : List Int} {a5 a6 : ByteArray} {a7 : Nat} (hb : l.length ≤ 1000000000000) (h7 : a7 < 18446744073709551616) (hk : 1 ≤ a0 ∧ a0 ≤ 15) (hs : a0 ≠ 15 → 0 ≤ a1 ∧ a1 ≤ a2 ∧ a2 ≤ 1114111) (k : Nat) (h20 : l.length + 20 ≤ k) : table_fits.f k a0 a1 a2 a3 l a5 a6 a7 = some (kv a0 a1 a2 a3 l a5 a6 a7) := by
 have hso := fun x y => sound_v a0 a1 a2 a3 l a5 a6 a7 x y hb k h20
 have hno := fun s0 s1 s2 s3 => nothing_v s0 s1 s2 s3 a0 a1 a2 a3 l a5 a6 a7
 have hbe := fun x y => bet_v a0 a1 a2 a3 l a5 a6 a7 x y
 have hwe := weighs_v a0 a1 a2 a3 l a5 a6 a7 h7
 have hn5 := name_v a5 k (by omega)
 have hn6 := name_v a6 k (by omega)
 by_cases h15 : a0 = 15
 ·subst h15
  unfold table_fits.f kv
  simp only [Int.reduceEq, ↓reduceIte]
  refine bindA (hno _ _ _ _) (bindA hn5 (bindA hn6 ?_))
  by_cases he : a5.toList = a6.toList
  ·rw [if_pos he, decide_eq_true he]; rfl
  ·rw [if_neg he, decide_eq_false he]; exact bindI hwe
 ·obtain ⟨s1, s2, s3⟩ := hs h15
  have hon : table_one.f a0 a1 a2 a3 l a5 a6 a7 = some (oneV a1 a2) := one_v s1 s2 s3
  have hsh : table_shifts.f a0 a1 a2 a3 l a5 a6 a7 = some (betV a3 1 64 && (listV l 1 1 && shV a1 a2 l)) := shifts_v s1 s2 s3
  rcases kinds a0 with h | rfl | rfl | rfl | rfl | rfl | rfl | rfl | rfl | rfl | rfl | rfl | rfl | rfl | rfl | rfl
  ·omega
  all_goals unfold table_fits.f kv; simp only [Int.reduceEq, ↓reduceIte]
  ·exact bindI (hno _ _ _ _)
  ·exact bindI (hno _ _ _ _)
  ·exact bindA (hno _ _ _ _) (bindI (hso _ _))
  ·exact bindA (hno _ _ _ _) (bindI hsh)
  ·exact bindA (hno _ _ _ _) (bindA hon (bindI (hso _ _)))
  ·exact bindA (hno _ _ _ _) (bindI (hbe _ _))
  ·exact bindA (hno _ _ _ _) (bindA hon (bindI (hso _ _)))
  ·exact bindA (hno _ _ _ _) (bindA hon (bindI (hso _ _)))
  ·exact bindA (hno _ _ _ _) (bindI (hbe _ _))
  ·exact bindA (hno _ _ _ _) (bindI (hbe _ _))
  ·exact bindI (hno _ _ _ _)
  ·exact bindA (hno _ _ _ _) (bindI hn5)
  ·exact bindA (hno _ _ _ _) (bindA hon (bindI (hso _ _)))
  ·exact bindA (hno _ _ _ _) (bindI hwe)
  ·exact absurd rfl h15
def RV (a0 a1 a2 a3 : Int) (l : List Int) (a5 a6 : ByteArray) (a7 : Nat) : Int :=
 if fam a0 = 0 then 60 else if a0 = 15 then (if a1 = 0 ∧ a2 = 0 ∧ kv a0 a1 a2 a3 l a5 a6 a7 = true then 0 else 61) else (if (0 ≤ a1 ∧ a1 ≤ a2 ∧ a2 ≤ 1114111) ∧ kv a0 a1 a2 a3 l a5 a6 a7 = true then 0 else 61)
theorem fam_in {a : Int} (h : ¬ fam a = 0) : 1 ≤ a ∧ a ≤ 15 := by unfold fam at h; omega
theorem right_v (a0 a1 a2 a3 : Int) (l : List Int) (a5 a6 : ByteArray) (a7 : Nat) (hb : l.length ≤ 1000000000000) (h7 : a7 < 18446744073709551616) (k : Nat) (h20 : l.length + 21 ≤ k) : table_Right.f k a0 a1 a2 a3 l a5 a6 a7 = some (RV a0 a1 a2 a3 l a5 a6 a7) := by
 unfold table_Right.f RV
 rw [fam_prog _ k (by omega), Option.bind_some]
 by_cases hf : fam a0 = 0
 ·rw [if_pos hf, if_pos hf]
 rw [if_neg hf, if_neg hf]
 obtain ⟨k, rfl⟩ : ∃ m, k = m + 1 := ⟨k - 1, by omega⟩
 by_cases h15 : a0 = 15
 ·rw [if_pos h15]
  have hj : ∀ b, table_Right.j0 (k + 1) b a0 a1 a2 a3 l a5 a6 a7 = some (if a1 = 0 ∧ a2 = 0 ∧ kv a0 a1 a2 a3 l a5 a6 a7 = true then 0 else 61) := fun b => by
   rw [table_Right.j0, if_pos h15]
   by_cases h1 : a1 = 0
   ·rw [if_pos h1]
    by_cases h2 : a2 = 0
    ·rw [if_pos h2, fits_v hb h7 (fam_in hf) (fun h => absurd h15 h) k (by omega), Option.bind_some]
     cases hv : kv a0 a1 a2 a3 l a5 a6 a7
     ·rw [if_neg (by decide), if_neg (fun h => by cases h.2.2)]
     ·rw [if_pos rfl, if_pos ⟨h1, h2, rfl⟩]
    ·rw [if_neg h2, if_neg (fun h => h2 h.2.1)]
   ·rw [if_neg h1, if_neg (fun h => h1 h.1)]
  split
  ·split
   ·exact hj _
   ·exact hj _
  ·exact hj _
 ·rw [if_neg h15]
  have hj : table_Right.j0 (k + 1) false a0 a1 a2 a3 l a5 a6 a7 = some 61 := by rw [table_Right.j0, if_neg h15, if_neg (by decide)]
  by_cases h1 : a1 ≥ 0
  ·rw [if_pos h1]
   by_cases h2 : a1 ≤ a2
   ·rw [if_pos h2]
    by_cases h3 : a2 ≤ 1114111
    ·rw [decide_eq_true h3, table_Right.j0, if_neg h15, if_pos rfl, fits_v hb h7 (fam_in hf) (fun _ => ⟨h1, h2, h3⟩) k (by omega), Option.bind_some]
     cases hv : kv a0 a1 a2 a3 l a5 a6 a7
     ·rw [if_neg (by decide), if_neg (fun h => by cases h.2)]
     ·rw [if_pos rfl, if_pos ⟨⟨h1, h2, h3⟩, rfl⟩]
    ·rw [decide_eq_false h3, hj, if_neg (fun h => h3 h.1.2.2)]
   ·rw [if_neg h2, hj, if_neg (fun h => h2 h.1.2.1)]
  ·rw [if_neg h1, hj, if_neg (fun h => h1 h.1.1)]
/- the document's -/
theorem two {F : Option Bool} {G : Option Int} {a b : Bool} (h : F = some a) (g : G = some (if b = true then 0 else 61)) : (F.bind fun t => if t = true then G else some 61) = some (if (a && b) = true then (0 : Int) else 61) := by
 rw [h, Option.bind_some]
 cases a
 ·rfl
 ·rw [if_pos rfl, g, Bool.true_and]
theorem two0 {F : Option Bool} {a : Bool} (h : F = some a) : (F.bind fun t => if t = true then some (0 : Int) else some 61) = some (if a = true then (0 : Int) else 61) := by
 rw [h, Option.bind_some]; cases a <;> rfl
theorem two1 {G : Option Int} {a b : Bool} (g : G = some (if b = true then 0 else 61)) : (if a = true then G else some 61) = some (if (a && b) = true then (0 : Int) else 61) := by
 cases a
 ·rfl
 ·rw [if_pos rfl, g, Bool.true_and]
theorem two2 {x y z : Int} : (if z ≥ x then (if z ≤ y then some (0 : Int) else some 61) else some 61) = some (if betV z x y = true then (0 : Int) else 61) := by
 unfold betV
 by_cases h : z ≥ x
 ·rw [if_pos h]
  by_cases h2 : z ≤ y
  ·rw [if_pos h2, decide_eq_true ⟨h, h2⟩]; rfl
  ·rw [if_neg h2, decide_eq_false (fun hh => h2 hh.2)]; rfl
 ·rw [if_neg h, decide_eq_false (fun hh => h hh.1)]; rfl
theorem and21 (a : Nat) (h : a ≤ 1114111) : Go.bits .and .i64 (a : Int) 2097151 = (a : Int) := by
 have e := (bits_nat .i64 63 (by decide) (fun n h0 h1 => by rw [IntKind.wrap_i64]; omega) a 2097151 (by omega) (by omega)).1
 refine e.trans ?_
 rw [show 2097151 = 2 ^ 21 - 1 from rfl, Nat.and_two_pow_sub_one_eq_mod, Nat.mod_eq_of_lt (by omega)]
theorem rright_v (a0 a1 a2 a3 : Int) (l : List Int) (a5 a6 : ByteArray) (a7 : Nat) (hb : l.length ≤ 1000000000000) (hw : ∀ y ∈ l, (Lit.int .i32 y).wf = true) (k : Nat) (h30 : l.length + 40 ≤ k) : endonymref6_Right.f k a0 a1 a2 a3 l a5 a6 a7 = some (RV a0 a1 a2 a3 l a5 a6 a7) := by
 have hba := fun b0 b1 b2 b3 b4 => bare_v b0 b1 b2 b3 b4 a0 a1 a2 a3 l a5 a6 a7
 unfold endonymref6_Right.f RV
 rw [famR, Option.bind_some]
 by_cases hf : fam a0 = 0
 ·rw [if_pos hf, if_pos hf]
 rw [if_neg hf, if_neg hf]
 by_cases h15 : a0 = 15
 ·subst h15
  rw [if_pos rfl, if_pos rfl]
  by_cases h1 : a1 = 0
  ·rw [if_pos h1]
   by_cases h2 : a2 = 0
   ·rw [if_pos h2]
    have key : ((endonymref6_bare.f 15 a1 a2 a3 l a5 a6 a7 false false true true true).bind fun t576 => (if t576 = true then ((endonymref5_Name.f k a5).bind fun t577 => (if t577 = true then ((endonymref5_Name.f k a6).bind fun t578 => (if t578 = true then (if a5.toList = a6.toList then (some 61) else ((endonymref6_weight.f a7).bind fun t579 => (if t579 = true then (some (0 : Int)) else (some 61)))) else (some 61))) else (some 61))) else (some 61))) = some (if kv 15 a1 a2 a3 l a5 a6 a7 = true then (0 : Int) else 61) := by
     unfold kv
     simp only [Int.reduceEq, ↓reduceIte]
     refine two (hba _ _ _ _ _) (two (rname_v a5 k (by omega)) (two (rname_v a6 k (by omega)) ?_))
     by_cases he : a5.toList = a6.toList
     ·rw [if_pos he, decide_eq_true he]; rfl
     ·rw [if_neg he, decide_eq_false he]; exact two0 (rweight_v a7)
    rw [key]
    cases hv : kv 15 a1 a2 a3 l a5 a6 a7
    ·rw [if_neg (by decide), if_neg (fun h => by cases h.2.2)]
    ·rw [if_pos rfl, if_pos ⟨h1, h2, rfl⟩]
   ·rw [if_neg h2, if_neg (fun h => h2 h.2.1)]
  ·rw [if_neg h1, if_neg (fun h => h1 h.1)]
 rw [if_neg h15, if_neg h15]
 obtain ⟨k, rfl⟩ : ∃ m, k = m + 3 := ⟨k - 3, by omega⟩
 have hk := fam_in hf
 have j3 : ∀ k', l.length + 20 ≤ k' → ∀ b : Bool, (b = true → 0 < l.length) → (b = true → (0 ≤ a1 ∧ a1 ≤ a2 ∧ a2 ≤ 1114111)) → endonymref6_Right.j3 k' b a0 a1 a2 a3 l a5 a6 a7 = some (if (b && shV a1 a2 l) = true then (0 : Int) else 61) := fun k' hk' b h0 hsp => by
  obtain ⟨k', rfl⟩ : ∃ m, k' = m + 1 := ⟨k' - 1, by omega⟩
  rw [endonymref6_Right.j3]
  cases b with
  | false => rfl
  | true =>
   have hl := h0 rfl
   obtain ⟨s1, s2, s3⟩ := hsp rfl
   have hr := wf_i32 (hw (rd l 0) (by rw [show (0 : Int) = ((0 : Nat) : Int) from rfl, rd_nat l 0 hl]; exact List.getElem_mem hl))
   have e1 : wrap64 (rd l 0) = rd l 0 := by unfold wrap64; omega
   have e2 : wrap64 (wrap64 (rd l 0 + a2) - a1) = rd l 0 + a2 - a1 := by unfold wrap64; omega
   rw [if_pos rfl, if_pos (by omega), e1, e2, Bool.true_and]
   unfold shV
   by_cases g1 : rd l 0 + a2 - a1 ≤ 1114111
   ·rw [if_pos g1]
    by_cases g2 : rd l 0 + a2 - a1 < 55296
    ·rw [if_pos g2, decide_eq_true (by omega)]; rfl
    ·rw [if_neg g2]
     by_cases g3 : rd l 0 > 57343
     ·rw [if_pos g3, decide_eq_true (by omega)]; rfl
     ·rw [if_neg g3, decide_eq_false (by omega)]; rfl
   ·rw [if_neg g1, decide_eq_false (by omega)]; rfl
 have hli := fun x y => list_v l x y hb
 have j2 : ∀ (k' : Nat) (b c : Bool), l.length + 25 ≤ k' → (b = true → 0 ≤ a1 ∧ a1 ≤ a2 ∧ a2 ≤ 1114111 ∧ c = oneV a1 a2) → endonymref6_Right.j1 k' b c a0 a1 a2 a3 l a5 a6 a7 = some (if (b && kv a0 a1 a2 a3 l a5 a6 a7) = true then (0 : Int) else 61) := fun k' b c hk' hbc => by
  obtain ⟨k', rfl⟩ : ∃ m, k' = m + 2 := ⟨k' - 2, by omega⟩
  cases b with
  | false =>
   have h3f : endonymref6_Right.j3 k' false a0 a1 a2 a3 l a5 a6 a7 = some 61 := j3 k' (by omega) false (fun h => by cases h) (fun h => by cases h)
   have h2f : ∀ (u : Int) (v : Bool), endonymref6_Right.j2 (k' + 1) false c u v a0 a1 a2 a3 l a5 a6 a7 = some 61 := fun u v => by
    rw [endonymref6_Right.j2]
    simp only [Bool.false_eq_true, if_false, h3f, ite_self]
   rw [endonymref6_Right.j1]
   simp only [h2f, ite_self]
   rfl
  | true =>
   obtain ⟨s1, s2, s3, rfl⟩ := hbc rfl
   rw [Bool.true_and]
   rcases kinds a0 with h | rfl | rfl | rfl | rfl | rfl | rfl | rfl | rfl | rfl | rfl | rfl | rfl | rfl | rfl | rfl
   ·omega
   all_goals unfold kv; rw [endonymref6_Right.j1]; simp only [Int.reduceEq, ↓reduceIte, Int.reduceBEq]; rw [endonymref6_Right.j2]; simp only [Int.reduceEq, ↓reduceIte, Bool.false_eq_true]
   ·exact two0 (hba _ _ _ _ _)
   ·exact two0 (hba _ _ _ _ _)
   ·exact two (hba _ _ _ _ _) (two0 (hli _ _ _ (by omega)))
   ·rw [hba, Option.bind_some]
    have jf : endonymref6_Right.j3 k' false 4 a1 a2 a3 l a5 a6 a7 = some 61 := j3 k' (by omega) false (fun h => by cases h) (fun h => by cases h)
    cases bareV true true false false false a3 l a5 a6 a7
    ·exact jf
    ·rw [if_pos rfl, Bool.true_and]
     unfold betV
     by_cases g1 : a3 ≥ 1
     ·rw [if_pos g1]
      by_cases g2 : a3 ≤ 64
      ·rw [if_pos g2, decide_eq_true ⟨g1, g2⟩, Bool.true_and, hli 1 1 k' (by omega), Option.bind_some]
       exact j3 k' (by omega) _ (fun h => by
        unfold listV at h
        rw [Bool.and_eq_true, decide_eq_true_eq] at h
        omega) (fun _ => ⟨s1, s2, s3⟩)
      ·rw [if_neg g2, decide_eq_false (fun h => g2 h.2), Bool.false_and]; exact jf
     ·rw [if_neg g1, decide_eq_false (fun h => g1 h.1), Bool.false_and]; exact jf
   ·exact (two1 (two (hba _ _ _ _ _) (two0 (hli _ _ _ (by omega))))).trans (by rw [← Bool.and_assoc, Bool.and_comm (oneV a1 a2), Bool.and_assoc])
   ·exact two (hba _ _ _ _ _) two2
   ·exact (two1 (two (hba _ _ _ _ _) (two0 (hli _ _ _ (by omega))))).trans (by rw [← Bool.and_assoc, Bool.and_comm (oneV a1 a2), Bool.and_assoc])
   ·exact (two1 (two (hba _ _ _ _ _) (two0 (hli _ _ _ (by omega))))).trans (by rw [← Bool.and_assoc, Bool.and_comm (oneV a1 a2), Bool.and_assoc])
   ·exact two (hba _ _ _ _ _) two2
   ·exact two (hba _ _ _ _ _) two2
   ·exact two0 (hba _ _ _ _ _)
   ·exact two (hba _ _ _ _ _) (two0 (rname_v a5 k' (by omega)))
   ·exact (two1 (two (hba _ _ _ _ _) (two0 (hli _ _ _ (by omega))))).trans (by rw [← Bool.and_assoc, Bool.and_comm (oneV a1 a2), Bool.and_assoc])
   ·exact two (hba _ _ _ _ _) (two0 (rweight_v a7))
   ·exact absurd rfl h15
 have j0 : ∀ b : Bool, (b = true → 0 ≤ a1 ∧ a1 ≤ a2 ∧ a2 ≤ 1114111) → endonymref6_Right.j0 (k + 3) b a0 a1 a2 a3 l a5 a6 a7 = some (if (b && kv a0 a1 a2 a3 l a5 a6 a7) = true then (0 : Int) else 61) := fun b hsp => by
  rw [endonymref6_Right.j0]
  by_cases he : a1 = a2
  ·rw [if_pos he, rvalid_v, Option.bind_some]
   refine j2 _ _ _ (by omega) fun h => ?_
   obtain ⟨s1, s2, s3⟩ := hsp h
   refine ⟨s1, s2, s3, ?_⟩
   obtain ⟨n, rfl⟩ : ∃ n : Nat, a1 = n := ⟨a1.toNat, by omega⟩
   rw [and21 n (by omega), show wrap32 (n : Int) = n by unfold wrap32; omega]
   unfold oneV
   rw [decide_eq_true he, Bool.true_and]
  ·rw [if_neg he]
   refine j2 _ _ _ (by omega) fun h => ?_
   obtain ⟨s1, s2, s3⟩ := hsp h
   exact ⟨s1, s2, s3, by unfold oneV; rw [decide_eq_false he, Bool.false_and]⟩
 have jf : endonymref6_Right.j0 (k + 3) false a0 a1 a2 a3 l a5 a6 a7 = some 61 := j0 false (fun h => by cases h)
 by_cases h1 : a1 ≥ 0
 ·rw [if_pos h1]
  by_cases h2 : a1 ≤ a2
  ·rw [if_pos h2]
   by_cases h3 : a2 ≤ 1114111
   ·rw [decide_eq_true h3, j0 true (fun _ => ⟨h1, h2, h3⟩), Bool.true_and]
    cases hv : kv a0 a1 a2 a3 l a5 a6 a7
    ·rw [if_neg (by decide), if_neg (fun h => by cases h.2)]
    ·rw [if_pos rfl, if_pos ⟨⟨h1, h2, h3⟩, rfl⟩]
   ·rw [decide_eq_false h3, jf, if_neg (fun h => h3 h.1.2.2)]
  ·rw [if_neg h2, jf, if_neg (fun h => h2 h.1.2.1)]
 ·rw [if_neg h1, jf, if_neg (fun h => h1 h.1.1)]
end Go.Proofs.YtnoppeocbfapdaaGreatDoor.Plain
namespace Go.Proofs.YtnoppeocbfapdaaGreatDoor.Plain
open Go.RowKit Go.Proofs.YtnoppeocbfapdaaGreatDoorW.PrintWords Go.Proofs.YtnoppeocbfapdaaGreatDoorW.PrintLast Go.Proofs.YtnoppeocbfapdaaGreatDoorW.PrintMore Go.Proofs.YtnoppeocbfapdaaGreatDoor.T
set_option linter.unusedVariables false
set_option linter.unusedSimpArgs false
def sv (x : S25) (c : Int) : Bool := (table_speaks.f x.f0 x.f1 x.f2 x.f3 x.f4 x.f5 x.f6 x.f7 c).getD false
theorem sv_is (x : S25) (hx : Upto.WfRec x) (c : Int) : table_speaks.f x.f0 x.f1 x.f2 x.f3 x.f4 x.f5 x.f6 x.f7 c = some (sv x c) := by
 obtain ⟨b, h⟩ := speaks_t x hx c
 unfold sv
 rw [h]; rfl
def Sp (x : S25) : Prop := 0 ≤ x.f1 ∧ x.f1 ≤ x.f2 ∧ x.f2 ≤ 1114111 ∧ (x.f0 = 4 → 1 ≤ x.f3 ∧ x.f3 ≤ 64)
theorem fits_64 {k : Nat} {a1 a2 a3 : Int} {l : List Int} {a5 a6 : ByteArray} {a7 : Nat} (h : table_fits.f k 4 a1 a2 a3 l a5 a6 a7 = some true) : a3 ≤ 64 := by
 have h1 := fits_shift h
 unfold table_fits.f at h
 rw [if_neg (by decide), if_pos rfl] at h
 obtain ⟨b, hn⟩ := nothing_t false false true true 4 a1 a2 a3 l a5 a6 a7
 rw [hn, Option.bind_some] at h
 cases b with
 | false => rw [if_neg (by decide)] at h; cases h
 | true =>
  rw [if_pos rfl] at h
  unfold table_shifts.f table_between.f at h
  by_cases c : a3 ≤ 64
  ·exact c
  ·rw [if_pos (show a3 ≥ 1 from h1), Option.bind_some, decide_eq_false c, if_neg (by decide), Option.bind_some] at h; cases h
theorem right_sp {x : S25} {k : Nat} (hk : 2 ≤ k) (h : RF k x = some 0) (h15 : x.f0 ≠ 15) : Sp x := by
 unfold RF table_Right.f at h
 rw [fam_prog _ k hk, Option.bind_some] at h
 have hj : ∀ b, table_Right.j0 k b x.f0 x.f1 x.f2 x.f3 x.f4 x.f5 x.f6 x.f7 = some 0 → b = true ∧ (x.f0 = 4 → 1 ≤ x.f3 ∧ x.f3 ≤ 64) := fun b hb => by
  obtain ⟨k, rfl⟩ : ∃ m, k = m + 1 := ⟨k - 1, by omega⟩
  rw [table_Right.j0, if_neg h15] at hb
  by_cases ht : b = true
  ·refine ⟨ht, fun h4 => ?_⟩
   rw [if_pos ht] at hb
   cases hf : table_fits.f k x.f0 x.f1 x.f2 x.f3 x.f4 x.f5 x.f6 x.f7 with
   | none => rw [hf] at hb; cases hb
   | some v =>
    rw [hf, Option.bind_some] at hb
    cases v with
    | false => rw [if_neg (by decide)] at hb; cases hb
    | true => rw [h4] at hf; exact ⟨fits_shift hf, fits_64 hf⟩
  ·rw [if_neg ht] at hb; cases hb
 split at h
 ·cases h
 ·split at h
  ·rename_i h1
   split at h
   ·rename_i h2
    obtain ⟨g1, g2⟩ := hj _ h
    exact ⟨h1, h2, of_decide_eq_true g1, g2⟩
   ·exact absurd (hj _ h).1 (by decide)
  ·exact absurd (hj _ h).1 (by decide)
theorem rv_sp {x : S25} (hr : rv x = true) (h15 : x.f0 ≠ 15) : Sp x := by
 obtain ⟨K, g⟩ := @of_decide_eq_true _ (_) hr
 exact right_sp (Nat.le_max_right K 2) (g (max K 2) (Nat.le_max_left _ _)) h15
theorem sv_iff (x : S25) (hs : Sp x) (c : Int) : sv x c = true ↔ x.f1 ≤ c ∧ c ≤ x.f2 ∧ (x.f0 = 4 → x.f3 ∣ c - x.f1) := by
 obtain ⟨s1, s2, s3, s4⟩ := hs
 unfold sv table_speaks.f
 by_cases c1 : c < x.f1
 ·rw [if_pos c1]; exact ⟨fun h => (by cases h), fun h => by omega⟩
 rw [if_neg c1]
 by_cases c2 : c > x.f2
 ·rw [if_pos c2]; exact ⟨fun h => (by cases h), fun h => by omega⟩
 rw [if_neg c2, if_neg (show ¬ c < 0 by omega), if_neg (show ¬ c > 1114111 by omega)]
 by_cases h4 : x.f0 = 4
 ·obtain ⟨n1, n2⟩ := s4 h4
  rw [if_pos h4, if_pos (show x.f3 > 0 by omega), wu64 (x := x.f3) (by omega) (by omega), wu64 (x := c) (by omega) (by omega), wu64 (x := x.f1) (by omega) (by omega), wu64 (x := c - x.f1) (by omega) (by omega), if_neg (show ¬ x.f3 = 0 by omega), Int.tmod_eq_emod_of_nonneg (show 0 ≤ c - x.f1 by omega)]
  show ((c - x.f1) % x.f3 == 0) = true ↔ _
  rw [beq_iff_eq, ← Int.dvd_iff_emod_eq_zero]
  exact ⟨fun h => ⟨by omega, by omega, fun _ => h⟩, fun h => h.2.2 h4⟩
 ·rw [if_neg h4]
  exact ⟨fun _ => ⟨by omega, by omega, fun h => absurd h h4⟩, fun _ => rfl⟩
end Go.Proofs.YtnoppeocbfapdaaGreatDoor.Plain
namespace Go.Proofs.YtnoppeocbfapdaaGreatDoor.Plain
open Go.RowKit Go.Proofs.YtnoppeocbfapdaaGreatDoorW.PrintWords Go.Proofs.YtnoppeocbfapdaaGreatDoorW.PrintLast Go.Proofs.YtnoppeocbfapdaaGreatDoorW.PrintMore Go.Proofs.YtnoppeocbfapdaaGreatDoor.T
set_option linter.unusedVariables false
set_option linter.unusedSimpArgs false
theorem speaks_eq (x : S25) (hx : Upto.WfRec x) (h15 : x.f0 ≠ 15) (c : Int) : ∃ b, table_speaks.f x.f0 x.f1 x.f2 x.f3 x.f4 x.f5 x.f6 x.f7 c = some b ∧ endonymref6_Speaks.f x.f0 x.f1 x.f2 x.f3 x.f4 x.f5 x.f6 x.f7 c = some b := by
 have w3 := wf_i64 hx.f3
 unfold table_speaks.f endonymref6_Speaks.f endonymref6_step.f
 have leaf : ∀ (P Q : Option Bool) (b : Bool), P = some b → Q = some b → ∃ b, P = some b ∧ Q = some b := fun P Q b h1 h2 => ⟨b, h1, h2⟩
 by_cases h4 : x.f0 = 4
 ·by_cases h3 : 0 < x.f3
  ·have em : (if x.f0 = 4 then some (mx x.f3 0) else some 1) = some x.f3 := by rw [if_pos h4]; unfold mx; rw [if_neg (by omega)]
   have hw : ¬ IntKind.u64.wrap x.f3 = 0 := by rw [wu64 (by omega) (by omega)]; omega
   have h3' : x.f3 > 0 := h3
   rw [em, Option.bind_some]
   simp only [if_neg h15, if_pos h3', if_pos h4, if_neg hw]
   by_cases c1 : c < x.f1
   ·exact leaf _ _ false (by simp only [if_pos c1]) (by simp only [if_neg (show ¬ c ≥ x.f1 by omega), ite_self])
   ·by_cases c2 : c > x.f2
    ·exact leaf _ _ false (by simp only [if_neg c1, if_pos c2]) (by simp only [if_neg (show ¬ c ≤ x.f2 by omega), ite_self])
    ·by_cases c3 : c < 0
     ·exact leaf _ _ false (by simp only [if_neg c1, if_neg c2, if_pos c3]) (by simp only [if_neg (show ¬ c ≥ 0 by omega)])
     ·by_cases c4 : c > 1114111
      ·exact leaf _ _ false (by simp only [if_neg c1, if_neg c2, if_neg c3, if_pos c4]) (by simp only [if_neg (show ¬ c ≤ 1114111 by omega), ite_self])
      ·exact leaf _ _ _ (by simp only [if_neg c1, if_neg c2, if_neg c3, if_neg c4]; rfl) (by simp only [if_pos (show c ≥ 0 by omega), if_pos (show c ≤ 1114111 by omega), if_pos (show c ≥ x.f1 by omega), if_pos (show c ≤ x.f2 by omega)])
  ·have em : (if x.f0 = 4 then some (mx x.f3 0) else some 1) = some 0 := by rw [if_pos h4]; unfold mx; by_cases h : x.f3 < 0; (rw [if_pos h]); (rw [if_neg h]; congr 1; omega)
   have h3' : ¬ x.f3 > 0 := h3
   rw [em, Option.bind_some]
   exact leaf _ _ false (by simp only [if_pos h4, if_neg h3', ite_self]) (by simp only [if_neg h15, if_neg (show ¬ (0 : Int) > 0 by decide)])
 ·rw [show (if x.f0 = 4 then some (mx x.f3 0) else some 1) = some 1 from if_neg h4, Option.bind_some]
  have hw : ¬ IntKind.u64.wrap 1 = 0 := by decide
  have hm : ∀ y : Int, (Int.tmod y (IntKind.u64.wrap 1) == 0) = true := fun y => by rw [show IntKind.u64.wrap 1 = 1 by decide, Int.tmod_one]; rfl
  simp only [if_neg h15, if_neg h4, if_neg hw, hm, if_pos (show (1 : Int) > 0 by decide)]
  by_cases c1 : c < x.f1
  ·exact leaf _ _ false (by simp only [if_pos c1]) (by simp only [if_neg (show ¬ c ≥ x.f1 by omega), ite_self])
  ·by_cases c2 : c > x.f2
   ·exact leaf _ _ false (by simp only [if_neg c1, if_pos c2]) (by simp only [if_neg (show ¬ c ≤ x.f2 by omega), ite_self])
   ·by_cases c3 : c < 0
    ·exact leaf _ _ false (by simp only [if_neg c1, if_neg c2, if_pos c3]) (by simp only [if_neg (show ¬ c ≥ 0 by omega)])
    ·by_cases c4 : c > 1114111
     ·exact leaf _ _ false (by simp only [if_neg c1, if_neg c2, if_neg c3, if_pos c4]) (by simp only [if_neg (show ¬ c ≤ 1114111 by omega), ite_self])
     ·exact leaf _ _ _ (by simp only [if_neg c1, if_neg c2, if_neg c3, if_neg c4]; rfl) (by simp only [if_pos (show c ≥ 0 by omega), if_pos (show c ≤ 1114111 by omega), if_pos (show c ≥ x.f1 by omega), if_pos (show c ≤ x.f2 by omega)])
end Go.Proofs.YtnoppeocbfapdaaGreatDoor.Plain
namespace Go.Proofs.YtnoppeocbfapdaaGreatDoor.Plain
open Go.RowKit Go.Proofs.YtnoppeocbfapdaaGreatDoorW.PrintWords Go.Proofs.YtnoppeocbfapdaaGreatDoorW.PrintLast Go.Proofs.YtnoppeocbfapdaaGreatDoorW.PrintMore Go.Proofs.YtnoppeocbfapdaaGreatDoor.T
set_option linter.unusedVariables false
set_option linter.unusedSimpArgs false
def nm (o x : S25) : Bool := decide (o.f5.toList = x.f5.toList ∧ o.f6.toList = x.f6.toList ∨ o.f5.toList = x.f6.toList ∧ o.f6.toList = x.f5.toList)
noncomputable def hit (f : Int) (x o : S25) : Bool := if f < 10 then mv o x else if f = 10 then nm o x else false
def upd (fm : Int → List S25) (f : Int) (x : S25) : Int → List S25 := fun g => if g = f then fm f ++ [x] else fm g
noncomputable def clash : (Int → List S25) → List S25 → Bool
 | _, [] => false
 | fm, x :: l => if (fm (fam x.f0)).any (hit (fam x.f0) x) then true else clash (upd fm (fam x.f0) x) l
def L2 (k : Nat) (fm : Int → List S25) (l : List S25) (i f : Int) (xs : List S25) (j : Int) (x : S25) : Option (Int × Int) := table_Check.l2 k fm l i f l (l.length : Int) i xs (xs.length : Int) j x.f0 x.f1 x.f2 x.f3 x.f4 x.f5 x.f6 x.f7
theorem names_if {α : Type} {A B C D : Prop} [Decidable A] [Decidable B] [Decidable C] [Decidable D] (u v : α) : (if A then (if B then u else (if C then (if D then u else v) else v)) else (if C then (if D then u else v) else v)) = if decide (A ∧ B ∨ C ∧ D) = true then u else v := by
 by_cases a : A <;> by_cases b : B <;> by_cases c : C <;> by_cases d : D <;> simp [a, b, c, d]
theorem l2_step (l : List S25) (fm : Int → List S25) (i f : Int) (xs : List S25) (hxs : xs.length ≤ 1000000) (x : S25) (hx : Ok x) (j : Nat) (hj : j < xs.length) (ho : Ok xs[j]) (k : Nat) (hk : 66 ≤ k) :
  L2 (k + 1) fm l i f xs (j : Int) x = if hit f x xs[j] = true then some (i, 62) else L2 k fm l i f xs ((j + 1 : Nat) : Int) x := by
 have hm := mv_is ho hx k hk
 unfold MF at hm
 have e : wrap64 ((j : Int) + 1) = ((j + 1 : Nat) : Int) := by unfold wrap64; omega
 unfold L2
 rw [table_Check.l2, if_pos (by omega), if_pos (by omega), if_pos (by omega), rd_rec xs j hj, e]
 unfold hit nm
 by_cases h10 : f < 10
 ·rw [if_pos h10, if_pos h10, hm, Option.bind_some, if_neg (show ¬ f = 10 by omega)]
 ·rw [if_neg h10, if_neg h10]
  by_cases h1 : f = 10
  ·rw [if_pos h1, if_pos h1]
   exact names_if _ _
  ·rw [if_neg h1, if_neg h1, if_neg (by decide)]
theorem l2_end (l : List S25) (fm : Int → List S25) (i f : Int) (x : S25) (k : Nat) : L2 (k + 1) fm l i f (fm f) ((fm f).length : Int) x = table_Check.l1 k (upd fm f x) l l (l.length : Int) (wrap64 (i + 1)) := by
 unfold L2
 rw [table_Check.l2, if_neg (by omega)]
 rfl
theorem l2_ok (l : List S25) (fm : Int → List S25) (i f : Int) (x : S25) (hx : Ok x) (hf : (fm f).length ≤ 1000000) (hok : ∀ o ∈ fm f, Ok o) (p : Int × Int) (K0 : Nat) (h66 : 66 ≤ K0)
  (hn : ∀ k, K0 ≤ k → table_Check.l1 k (upd fm f x) l l (l.length : Int) (wrap64 (i + 1)) = some p) :
  ∀ (d j : Nat), (fm f).length = j + d → ∀ k, K0 + d + 1 ≤ k → L2 k fm l i f (fm f) (j : Int) x = some (if ((fm f).drop j).any (hit f x) = true then (i, 62) else p) := by
 intro d
 induction d with
 | zero =>
  intro j hj k hk
  obtain ⟨k, rfl⟩ : ∃ m, k = m + 1 := ⟨k - 1, by omega⟩
  obtain rfl : j = (fm f).length := by omega
  rw [l2_end, hn k (by omega), List.drop_length]
  rfl
 | succ d ih =>
  intro j hj k hk
  obtain ⟨k, rfl⟩ : ∃ m, k = m + 1 := ⟨k - 1, by omega⟩
  have hjl : j < (fm f).length := by omega
  rw [l2_step l fm i f (fm f) hf x hx j hjl (hok _ (List.getElem_mem hjl)) k (by omega), ih (j + 1) (by omega) k (by omega), List.drop_eq_getElem_cons hjl, List.any_cons]
  cases hit f x (fm f)[j] with
  | true => rfl
  | false => rw [if_neg (by decide), Bool.false_or]
end Go.Proofs.YtnoppeocbfapdaaGreatDoor.Plain
namespace Go.Proofs.YtnoppeocbfapdaaGreatDoor.Plain
open Go.RowKit Go.Proofs.YtnoppeocbfapdaaGreatDoorW.PrintWords Go.Proofs.YtnoppeocbfapdaaGreatDoorW.PrintLast Go.Proofs.YtnoppeocbfapdaaGreatDoorW.PrintMore Go.Proofs.YtnoppeocbfapdaaGreatDoor.T
set_option linter.unusedVariables false
set_option linter.unusedSimpArgs false
def srch (z : S25) (hi N : Int) : Nat → Int → Bool
 | 0, _ => false
 | d + 1, cur => if cur > hi then false else if sv z cur then true else srch z hi N d (cur + N)
theorem srch_true (z : S25) (hi N : Int) (hN : 0 ≤ N) : ∀ (d t : Nat) (cur : Int), t < d → cur + (t : Int) * N ≤ hi → sv z (cur + (t : Int) * N) = true → srch z hi N d cur = true := by
 intro d
 induction d with
 | zero => intro t cur h; omega
 | succ d ih =>
  intro t cur h1 h2 h3
  have h0 : 0 ≤ (t : Int) * N := Int.mul_nonneg (by omega) hN
  unfold srch
  rw [if_neg (by omega)]
  split
  ·rfl
  ·rename_i hs
   cases t with
   | zero =>
    rw [show ((0 : Nat) : Int) = 0 from rfl, Int.zero_mul, Int.add_zero] at h3
    exact absurd h3 hs
   | succ t =>
    have e : cur + ((t + 1 : Nat) : Int) * N = (cur + N) + (t : Int) * N := by rw [show ((t + 1 : Nat) : Int) = (t : Int) + 1 from rfl, Int.add_mul, Int.one_mul]; omega
    rw [e] at h2 h3
    exact ih t _ (by omega) h2 h3
theorem srch_false (z : S25) (hi N : Int) : ∀ (d : Nat) (cur : Int), (∀ t : Nat, cur + (t : Int) * N ≤ hi → sv z (cur + (t : Int) * N) = false) → srch z hi N d cur = false := by
 intro d
 induction d with
 | zero => intro cur _; rfl
 | succ d ih =>
  intro cur h
  unfold srch
  by_cases hc : cur > hi
  ·rw [if_pos hc]
  ·rw [if_neg hc]
   have h0 := h 0
   rw [show ((0 : Nat) : Int) = 0 from rfl, Int.zero_mul, Int.add_zero] at h0
   rw [h0 (by omega), if_neg (by decide)]
   refine ih _ fun t ht => ?_
   have e : cur + ((t + 1 : Nat) : Int) * N = (cur + N) + (t : Int) * N := by rw [show ((t + 1 : Nat) : Int) = (t : Int) + 1 from rfl, Int.add_mul, Int.one_mul]; omega
   rw [← e]
   rw [← e] at ht
   exact h _ ht
theorem loop_m (y z : S25) (hz : Upto.WfRec z) (hi : Int) (hn0 : 0 ≤ y.f3) (hn1 : y.f3 ≤ 64) (hh : hi ≤ 1114111) : ∀ (d i : Nat) (cur : Int), d + i = 64 → -2000000 ≤ cur → cur ≤ 3000000 → ∀ k, d + 1 ≤ k →
  table_meet.l0 k hi cur (i : Int) y.f0 y.f1 y.f2 y.f3 y.f4 y.f5 y.f6 y.f7 z.f0 z.f1 z.f2 z.f3 z.f4 z.f5 z.f6 z.f7 = some (srch z hi y.f3 d cur) := by
 intro d
 induction d with
 | zero =>
  intro i cur h1 _ _ k hk
  obtain ⟨k, rfl⟩ : ∃ m, k = m + 1 := ⟨k - 1, by omega⟩
  rw [table_meet.l0, if_neg (by omega)]; rfl
 | succ d ih =>
  intro i cur h1 h2 h3 k hk
  obtain ⟨k, rfl⟩ : ∃ m, k = m + 1 := ⟨k - 1, by omega⟩
  unfold srch
  rw [table_meet.l0, if_pos (by omega)]
  by_cases hc : cur > hi
  ·rw [if_pos hc, if_pos hc]
  ·rw [if_neg hc, if_neg hc, sv_is z hz, Option.bind_some, show wrap64 (cur + y.f3) = cur + y.f3 by unfold wrap64; omega, show wrap64 ((i : Int) + 1) = ((i + 1 : Nat) : Int) by unfold wrap64; omega, ih (i + 1) (cur + y.f3) (by omega) (by omega) (by omega) k (by omega)]
   cases sv z cur <;> rfl
theorem rspeaks (x : S25) (hx : Upto.WfRec x) (h15 : x.f0 ≠ 15) (c : Int) : endonymref6_Speaks.f x.f0 x.f1 x.f2 x.f3 x.f4 x.f5 x.f6 x.f7 c = some (sv x c) := by
 obtain ⟨b, h1, h2⟩ := speaks_eq x hx h15 c
 rw [sv_is x hx c] at h1
 rw [h2, h1]
theorem loop_c (z : S25) (hz : Upto.WfRec z) (h15 : z.f0 ≠ 15) (hi N : Int) (hn0 : 0 ≤ N) (hn1 : N ≤ 64) (hh : hi ≤ 1114111) : ∀ (d i : Nat) (cur : Int), d + i = 64 → -2000000 ≤ cur → cur ≤ 3000000 → ∀ k, 2 * d + 3 ≤ k →
  endonymref6_clash.l0 k hi N cur (i : Int) z.f0 z.f1 z.f2 z.f3 z.f4 z.f5 z.f6 z.f7 = some (srch z hi N d cur) := by
 intro d
 induction d with
 | zero =>
  intro i cur h1 _ _ k hk
  obtain ⟨k, rfl⟩ : ∃ m, k = m + 2 := ⟨k - 2, by omega⟩
  rw [endonymref6_clash.l0, if_neg (by omega), endonymref6_clash.j2, if_neg (by decide)]; rfl
 | succ d ih =>
  intro i cur h1 h2 h3 k hk
  obtain ⟨k, rfl⟩ : ∃ m, k = m + 2 := ⟨k - 2, by omega⟩
  unfold srch
  rw [endonymref6_clash.l0, if_pos (by omega)]
  by_cases hc : cur > hi
  ·rw [if_pos hc, decide_eq_false (by omega), endonymref6_clash.j2, if_neg (by decide)]
  ·rw [if_neg hc, decide_eq_true (by omega), endonymref6_clash.j2, if_pos rfl, rspeaks z hz h15, Option.bind_some, show wrap64 (cur + N) = cur + N by unfold wrap64; omega, show wrap64 ((i : Int) + 1) = ((i + 1 : Nat) : Int) by unfold wrap64; omega, ih (i + 1) (cur + N) (by omega) (by omega) (by omega) k (by omega)]
   cases sv z cur <;> rfl
theorem dvd_small {N P : Int} (h : N ∣ P) (h0 : 0 ≤ P) (hlt : P < N) : P = 0 := by
 obtain ⟨m, rfl⟩ := h
 have hN : 0 < N := by omega
 rcases Int.lt_trichotomy m 0 with hm | hm | hm
 ·have := Int.mul_neg_of_pos_of_neg hN hm; omega
 ·rw [hm, Int.mul_zero]
 ·have := Int.mul_le_mul_of_nonneg_left (show 1 ≤ m by omega) (Int.le_of_lt hN)
  rw [Int.mul_one] at this; omega
theorem first (a lo N : Int) (h1 : 0 ≤ a) (h2 : a ≤ lo) (h3 : lo ≤ 1114111) (hN : 1 ≤ N) (hN2 : N ≤ 64) :
  ∃ P : Int, N ∣ P ∧ lo ≤ a + P ∧ a + P < lo + N ∧ 0 ≤ P ∧ wrap64 (a + wrap64 (wrap64 (Int.tdiv (wrap64 (wrap64 (wrap64 (lo - a) + N) - 1)) N) * N)) = a + P ∧ (lo = a → P = 0) := by
 obtain ⟨D, hD⟩ : ∃ D, D = lo - a + N - 1 := ⟨_, rfl⟩
 obtain ⟨Q, hQ⟩ : ∃ Q, Q = D / N := ⟨_, rfl⟩
 have p1 : Q * N ≤ D := by rw [hQ]; exact Int.ediv_mul_le D (by omega)
 have p2 : D < Q * N + N := by
  have := Int.lt_ediv_add_one_mul_self D (show 0 < N by omega)
  rw [Int.add_mul, Int.one_mul] at this
  rw [hQ]; exact this
 have q0 : 0 ≤ Q := by rw [hQ]; exact Int.ediv_nonneg (by omega) (by omega)
 have p0 : 0 ≤ Q * N := Int.mul_nonneg q0 (by omega)
 have qD : Q ≤ D := by rw [hQ]; exact Int.ediv_le_self _ (by omega)
 have e0 : wrap64 (wrap64 (wrap64 (lo - a) + N) - 1) = D := by unfold wrap64; omega
 have e1 : Int.tdiv D N = Q := by rw [hQ]; exact Int.tdiv_eq_ediv_of_nonneg (by omega)
 have e2 : wrap64 Q = Q := by unfold wrap64; omega
 refine ⟨Q * N, Int.dvd_mul_left _ _, by omega, by omega, p0, ?_, fun h => ?_⟩
 ·rw [e0, e1, e2]
  obtain ⟨P, hP⟩ : ∃ P, P = Q * N := ⟨_, rfl⟩
  rw [← hP] at p1 p2 p0 ⊢
  unfold wrap64; omega
 ·have hd : N ∣ Q * N := Int.dvd_mul_left _ _
  have hlt : Q * N < N := by omega
  exact dvd_small hd p0 hlt
def CF (k : Nat) (o x : S25) : Option Bool := endonymref6_clash.f k o.f0 o.f1 o.f2 o.f3 o.f4 o.f5 o.f6 o.f7 x.f0 x.f1 x.f2 x.f3 x.f4 x.f5 x.f6 x.f7
theorem spok {x : S25} (h : Sp x) (w : Upto.WfRec x) : Ok x := ⟨w, fun h4 => (h.2.2.2 h4).1⟩
theorem clash_is (o x : S25) (so : Sp o) (sx : Sp x) (wo : Upto.WfRec o) (wx : Upto.WfRec x) (o15 : o.f0 ≠ 15) (x15 : x.f0 ≠ 15) (hf : fam o.f0 = fam x.f0) (k : Nat) (hk : 200 ≤ k) : CF k o x = some (mv o x) := by
 obtain ⟨o1, o2, o3, o4⟩ := id so
 obtain ⟨x1, x2, x3, x4⟩ := id sx
 obtain ⟨k, rfl⟩ : ∃ m, k = m + 1 := ⟨k - 1, by omega⟩
 obtain ⟨lo, hlo⟩ : ∃ lo, lo = mx o.f1 x.f1 := ⟨_, rfl⟩
 obtain ⟨hi, hhi⟩ : ∃ hi, hi = mn o.f2 x.f2 := ⟨_, rfl⟩
 have l1 : o.f1 ≤ lo ∧ x.f1 ≤ lo ∧ (lo = o.f1 ∨ lo = x.f1) := by rw [hlo]; unfold mx; split <;> omega
 have l2 : hi ≤ o.f2 ∧ hi ≤ x.f2 := by rw [hhi]; unfold mn; split <;> omega
 have cx : mx x.f1 o.f1 = lo := by rw [hlo]; unfold mx; split <;> split <;> omega
 have cn : mn x.f2 o.f2 = hi := by rw [hhi]; unfold mn; split <;> split <;> omega
 have hm := mv_is (spok so wo) (spok sx wx) 66 (Nat.le_refl _)
 obtain ⟨s, hs⟩ : ∃ s, s = if o.f0 = 4 then mx o.f3 0 else 1 := ⟨_, rfl⟩
 have s1 : 1 ≤ s ∧ s ≤ 64 ∧ (o.f0 = 4 → s = o.f3) := by
  rw [hs]
  split
  ·rename_i h4; have := o4 h4; unfold mx; rw [if_neg (by omega)]; exact ⟨by omega, by omega, fun _ => rfl⟩
  ·rename_i h4; exact ⟨by omega, by omega, fun h => absurd h h4⟩
 have hst : endonymref6_step.f o.f0 o.f1 o.f2 o.f3 o.f4 o.f5 o.f6 o.f7 = some s := by
  unfold endonymref6_step.f
  rw [hs]
  split <;> rfl
 obtain ⟨P, hP1, hP2, hP3, hP0, hPe, hPz⟩ := first o.f1 lo s o1 l1.1 (by omega) s1.1 s1.2.1
 have hcf : CF (k + 1) o x = some (srch x hi s 64 (o.f1 + P)) := by
  unfold CF endonymref6_clash.f
  rw [famR, Option.bind_some, famR, Option.bind_some, if_pos hf, if_neg o15, hst, Option.bind_some, ← hlo, ← hhi]
  have hl := loop_c x wx x15 hi s (by omega) s1.2.1 (by omega) 64 0 (o.f1 + P) (by omega) (by omega) (by omega) k (by omega)
  by_cases hgt : lo > o.f1
  ·rw [if_pos hgt, if_neg (by omega), hPe, endonymref6_clash.j0]; exact hl
  ·rw [if_neg hgt, endonymref6_clash.j0]
   have hp0 := hPz (by omega)
   rw [hp0, Int.add_zero] at hl
   rw [hp0, Int.add_zero]
   exact hl
 rw [hcf, ← hm]
 unfold MF table_meet.f
 by_cases h4 : o.f0 = 4
 ·have hso := s1.2.2 h4
  have hn := o4 h4
  rw [if_pos h4]
  unfold table_meet.g
  rw [if_pos h4, ← hlo, ← hhi]
  rw [hso] at hPe ⊢
  by_cases hgt : lo > hi
  ·rw [decide_eq_true hgt, table_meet.j0, if_pos rfl, decide_eq_false (by omega)]
   unfold srch
   rw [if_pos (by omega)]
  ·rw [decide_eq_false hgt, table_meet.j0, if_neg (by decide), if_neg (by omega), hPe]
   exact (loop_m o x wx hi (by omega) hn.2 (by omega) 64 0 (o.f1 + P) (by omega) (by omega) (by omega) 65 (by omega)).symm
 ·have hs1 : s = 1 := by rw [hs, if_neg h4]
  have hcur : o.f1 + P = lo := by rw [hs1] at hP3; omega
  rw [if_neg h4, hcur, hs1]
  unfold table_meet.g
  by_cases hx4 : x.f0 = 4
  ·have hn := x4 hx4
   rw [if_pos hx4, cx, cn]
   obtain ⟨R, hR1, hR2, hR3, hR0, hRe, _⟩ := first x.f1 lo x.f3 x1 l1.2.1 (by omega) hn.1 hn.2
   by_cases hgt : lo > hi
   ·rw [decide_eq_true hgt, table_meet.j0, if_pos rfl, decide_eq_false (by omega)]
    unfold srch
    rw [if_pos (by omega)]
   ·rw [decide_eq_false hgt, table_meet.j0, if_neg (by decide), if_neg (by omega), hRe]
    refine Eq.trans ?_ (loop_m x o wo hi (by omega) hn.2 (by omega) 64 0 (x.f1 + R) (by omega) (by omega) (by omega) 65 (by omega)).symm
    congr 1
    by_cases hin : x.f1 + R ≤ hi
    ·have t1 : srch o hi x.f3 64 (x.f1 + R) = true := srch_true o hi x.f3 (by omega) 64 0 _ (by omega) (by rw [show ((0 : Nat) : Int) = 0 from rfl, Int.zero_mul]; omega) (by
      rw [show ((0 : Nat) : Int) = 0 from rfl, Int.zero_mul, Int.add_zero]
      exact (sv_iff o so _).2 ⟨by omega, by omega, fun h => absurd h h4⟩)
     have t2 : srch x hi 1 64 lo = true := by
      obtain ⟨t, ht⟩ : ∃ t : Nat, x.f1 + R = lo + t := ⟨(x.f1 + R - lo).toNat, by omega⟩
      refine srch_true x hi 1 (by omega) 64 t lo (by omega) (by rw [Int.mul_one]; omega) ?_
      rw [Int.mul_one, ← ht]
      exact (sv_iff x sx _).2 ⟨by omega, by omega, fun _ => by rw [show x.f1 + R - x.f1 = R by omega]; exact hR1⟩
     rw [t1, t2]
    ·have t1 : srch o hi x.f3 64 (x.f1 + R) = false := by unfold srch; rw [if_pos (by omega)]
     have t2 : srch x hi 1 64 lo = false := srch_false x hi 1 64 lo fun t ht => by
      rw [Int.mul_one] at ht ⊢
      cases hh : sv x (lo + t) with
      | false => rfl
      | true =>
       obtain ⟨g1, g2, g3⟩ := (sv_iff x sx _).1 hh
       have hd := Int.dvd_sub hR1 (g3 hx4)
       have : R - (lo + t - x.f1) = 0 := dvd_small hd (by omega) (by omega)
       omega
     rw [t1, t2]
  ·rw [if_neg hx4, cx, cn, table_meet.j0, if_pos rfl]
   congr 1
   by_cases hgt : lo > hi
   ·rw [decide_eq_false (by omega)]; unfold srch; rw [if_pos hgt]
   ·rw [decide_eq_true (by omega)]
    unfold srch
    rw [if_neg hgt, if_pos ((sv_iff x sx _).2 ⟨by omega, by omega, fun h => absurd h hx4⟩)]
end Go.Proofs.YtnoppeocbfapdaaGreatDoor.Plain
namespace Go.Proofs.YtnoppeocbfapdaaGreatDoor.Plain
open Go.RowKit Go.Proofs.YtnoppeocbfapdaaGreatDoorW.PrintWords Go.Proofs.YtnoppeocbfapdaaGreatDoorW.PrintLast Go.Proofs.YtnoppeocbfapdaaGreatDoorW.PrintMore Go.Proofs.YtnoppeocbfapdaaGreatDoor.T
set_option linter.unusedVariables false
set_option linter.unusedSimpArgs false
noncomputable def hitR (x o : S25) : Bool := decide (fam o.f0 = fam x.f0) && hit (fam x.f0) x o
theorem fam_lt {a : Int} (h : a ≠ 15) : fam a < 10 := by unfold fam; omega
theorem fam10 {a : Int} : fam a = 10 ↔ a = 15 := by unfold fam; omega
def Rt (x : S25) : Prop := Upto.WfRec x ∧ Ok x ∧ (x.f0 ≠ 15 → Sp x)
theorem beq_dec (a b : List UInt8) : (a == b) = decide (a = b) := by rw [Bool.eq_iff_iff]; simp
theorem names_if2 {A B C D : Prop} [Decidable A] [Decidable B] [Decidable C] [Decidable D] : (if A then (if B then some true else (if C then some (decide D) else some false)) else (if C then some (decide D) else some false)) = some (decide (A ∧ B ∨ C ∧ D)) := by
 by_cases a : A <;> by_cases b : B <;> by_cases c : C <;> by_cases d : D <;> simp [a, b, c, d]
theorem rclash (o x : S25) (ho : Rt o) (hx : Rt x) (k : Nat) (hk : 200 ≤ k) : CF k o x = some (hitR x o) := by
 unfold hitR
 by_cases hf : fam o.f0 = fam x.f0
 ·rw [decide_eq_true hf, Bool.true_and]
  by_cases h15 : x.f0 = 15
  ·have o15 : o.f0 = 15 := fam10.1 (hf.trans (fam10.2 h15))
   have hh : hit 10 x o = nm o x := by unfold hit; rw [if_neg (by decide), if_pos rfl]
   rw [fam10.2 h15, hh]
   unfold CF endonymref6_clash.f nm
   rw [famR, Option.bind_some, famR, Option.bind_some, if_pos hf, if_pos o15, beq_dec]
   exact names_if2
  ·have o15 : o.f0 ≠ 15 := fun h => h15 (fam10.1 (hf.symm.trans (fam10.2 h)))
   rw [clash_is o x (ho.2.2 o15) (hx.2.2 h15) ho.1 hx.1 o15 h15 hf k hk]
   unfold hit
   rw [if_pos (fam_lt h15)]
 ·rw [decide_eq_false hf, Bool.false_and]
  unfold CF endonymref6_clash.f
  rw [famR, Option.bind_some, famR, Option.bind_some, if_neg hf]
noncomputable def clf (l : List S25) : Nat → Nat → Int × Int
 | 0, _ => (0, 0)
 | d + 1, i => if (l.take i).any (hitR (rd_T25 l (i : Int))) = true then ((i : Int), 62) else clf l d (i + 1)
theorem any_fil (l : List S25) (x : S25) : (l.filter fun o => decide (fam o.f0 = fam x.f0)).any (hit (fam x.f0) x) = l.any (hitR x) := by
 rw [List.any_filter]
 rfl
theorem l1_val (l : List S25) (hl : l.length ≤ 4096) (hok : ∀ x ∈ l, Rt x) : ∀ (d i : Nat), l.length = i + d → ∀ fm : Int → List S25, (∀ f, fm f = (l.take i).filter fun o => decide (fam o.f0 = f)) →
  ∃ K : Nat, ∀ k, K ≤ k → table_Check.l1 k fm l l (l.length : Int) (i : Int) = some (clf l d i) := by
 intro d
 induction d with
 | zero =>
  intro i hi fm _
  refine ⟨1, fun k hk => ?_⟩
  obtain ⟨k, rfl⟩ : ∃ m, k = m + 1 := ⟨k - 1, by omega⟩
  rw [table_Check.l1, if_neg (by omega)]; rfl
 | succ d ih =>
  intro i hi fm hfm
  have hil : i < l.length := by omega
  have hx := hok _ (List.getElem_mem hil)
  have er : rd_T25 l (i : Int) = l[i] := rd_rec l i hil
  obtain ⟨K, hp⟩ := ih (i + 1) (by omega) (upd fm (fam l[i].f0) l[i]) (fun f => by
   rw [← List.take_append_getElem hil, List.filter_append]
   unfold upd
   split
   ·rename_i h
    rw [hfm, h, List.filter_cons_of_pos (by simp)]; rfl
   ·rename_i h
    rw [hfm, List.filter_cons_of_neg (by simpa using fun h2 => h h2.symm), List.filter_nil, List.append_nil])
  have e : wrap64 ((i : Int) + 1) = ((i + 1 : Nat) : Int) := by unfold wrap64; omega
  have hlen : (fm (fam l[i].f0)).length ≤ 4096 := by
   rw [hfm]
   have := List.length_filter_le (fun o : S25 => decide (fam o.f0 = fam l[i].f0)) (l.take i)
   have : (l.take i).length ≤ l.length := by rw [List.length_take]; omega
   omega
  have key := l2_ok l fm (i : Int) (fam l[i].f0) l[i] hx.2.1 (by omega) (fun o ho => by
   rw [hfm] at ho
   exact (hok o (List.mem_of_mem_take (List.mem_filter.1 ho).1)).2.1) (clf l d (i + 1)) (max K 66) (Nat.le_max_right _ _) (fun k hk => by rw [e]; exact hp k (Nat.le_trans (Nat.le_max_left _ _) hk)) (fm (fam l[i].f0)).length 0 (by omega)
  refine ⟨max K 66 + (fm (fam l[i].f0)).length + 3, fun k hk => ?_⟩
  obtain ⟨k, rfl⟩ : ∃ m, k = m + 1 := ⟨k - 1, by omega⟩
  rw [table_Check.l1, if_pos (by omega), if_pos (by omega), if_pos (by omega), er, fam_prog _ k (by omega), Option.bind_some]
  refine (key k (by omega)).trans ?_
  rw [clf, List.drop_zero, er, hfm, any_fil]
theorem ref_l2 (l : List S25) (hl : l.length ≤ 4096) (hok : ∀ x ∈ l, Rt x) (i : Nat) (hi : i < l.length) (p : Int × Int) (K0 : Nat) (h200 : 200 ≤ K0) (hn : ∀ k, K0 ≤ k → endonymref6_Check.l1 k l ((i + 1 : Nat) : Int) = some p) :
  ∀ (d j : Nat), i = j + d → ∀ k, K0 + d + 1 ≤ k → endonymref6_Check.l2 k l (i : Int) (j : Int) = some (if ((l.take i).drop j).any (hitR (rd_T25 l (i : Int))) = true then ((i : Int), 62) else p) := by
 have e : wrap64 ((i : Int) + 1) = ((i + 1 : Nat) : Int) := by unfold wrap64; omega
 intro d
 induction d with
 | zero =>
  intro j hj k hk
  obtain ⟨k, rfl⟩ : ∃ m, k = m + 1 := ⟨k - 1, by omega⟩
  rw [endonymref6_Check.l2, if_neg (by omega), e, hn k (by omega), List.drop_eq_nil_of_le (by rw [List.length_take]; omega)]
  rfl
 | succ d ih =>
  intro j hj k hk
  obtain ⟨k, rfl⟩ : ∃ m, k = m + 1 := ⟨k - 1, by omega⟩
  have hjl : j < l.length := by omega
  have hjt : j < (l.take i).length := by rw [List.length_take]; omega
  have ej : wrap64 ((j : Int) + 1) = ((j + 1 : Nat) : Int) := by unfold wrap64; omega
  have hc := rclash l[j] l[i] (hok _ (List.getElem_mem hjl)) (hok _ (List.getElem_mem hi)) k (by omega)
  unfold CF at hc
  rw [endonymref6_Check.l2, if_pos (by omega), if_pos (by omega), if_pos (by omega), if_pos (by omega), if_pos (by omega), rd_rec l j hjl, rd_rec l i hi, hc, Option.bind_some, ej, ih (j + 1) (by omega) k (by omega), rd_rec l i hi, List.drop_eq_getElem_cons hjt, List.any_cons, List.getElem_take]
  cases hitR l[i] l[j] with
  | true => rfl
  | false => rw [if_neg (by decide), Bool.false_or]
theorem ref_l1 (l : List S25) (hl : l.length ≤ 4096) (hok : ∀ x ∈ l, Rt x) : ∀ (d i : Nat), l.length = i + d → ∃ K : Nat, ∀ k, K ≤ k → endonymref6_Check.l1 k l (i : Int) = some (clf l d i) := by
 intro d
 induction d with
 | zero =>
  intro i hi
  refine ⟨1, fun k hk => ?_⟩
  obtain ⟨k, rfl⟩ : ∃ m, k = m + 1 := ⟨k - 1, by omega⟩
  rw [endonymref6_Check.l1, if_neg (by omega)]; rfl
 | succ d ih =>
  intro i hi
  obtain ⟨K, hp⟩ := ih (i + 1) (by omega)
  have key := ref_l2 l hl hok i (by omega) (clf l d (i + 1)) (max K 200) (Nat.le_max_right _ _) (fun k hk => hp k (Nat.le_trans (Nat.le_max_left _ _) hk)) i 0 (by omega)
  refine ⟨max K 200 + i + 3, fun k hk => ?_⟩
  obtain ⟨k, rfl⟩ : ∃ m, k = m + 1 := ⟨k - 1, by omega⟩
  rw [endonymref6_Check.l1, if_pos (by omega)]
  refine (key k (by omega)).trans ?_
  rw [clf, List.drop_zero]
def RX (x : S25) : Int := RV x.f0 x.f1 x.f2 x.f3 x.f4 x.f5 x.f6 x.f7
theorem f7_lt {x : S25} (h : Upto.WfRec x) : x.f7 < 18446744073709551616 := by
 have := h.f7
 simpa [Lit.wf] using this
theorem rx_rt {x : S25} (hw : Upto.WfRec x) (hb : x.f4.length ≤ 1000000000000) (h0 : RX x = 0) : Rt x := by
 have hr : ∀ k, x.f4.length + 21 ≤ k → RF k x = some 0 := fun k hk => by rw [← h0]; exact right_v _ _ _ _ _ _ _ _ hb (f7_lt hw) k hk
 have hv : rv x = true := @decide_eq_true _ (_) ⟨_, hr⟩
 exact ⟨hw, rv_ok hw hv, fun h15 => rv_sp hv h15⟩
theorem check_both (l : List S25) (hl : l.length ≤ 4096) (hw : ∀ x ∈ l, Upto.WfRec x) (M : Nat) (hb : ∀ x ∈ l, x.f4.length ≤ M) (hM : M ≤ 1000000000) :
  ∃ (p : Int × Int) (K : Nat), ∀ k, K ≤ k → table_Check.f k l = some p ∧ endonymref6_Check.f k l = some p := by
 have main : ∀ (d i : Nat), l.length = i + d → (∀ x ∈ l.take i, RX x = 0) → ∃ (p : Int × Int) (K : Nat), ∀ k, K ≤ k → table_Check.l0 k l l (l.length : Int) (i : Int) = some p ∧ endonymref6_Check.l0 k l (i : Int) = some p := by
  intro d
  induction d with
  | zero =>
   intro i hi hr
   rw [List.take_of_length_le (by omega)] at hr
   have hok : ∀ x ∈ l, Rt x := fun x hx => rx_rt (hw x hx) (by have := hb x hx; omega) (hr x hx)
   obtain ⟨K1, h1⟩ := l1_val l hl hok l.length 0 (by omega) (fun _ => []) (fun f => by rw [List.take_zero]; rfl)
   obtain ⟨K2, h2⟩ := ref_l1 l hl hok l.length 0 (by omega)
   refine ⟨clf l l.length 0, K1 + K2 + 1, fun k hk => ?_⟩
   obtain ⟨k, rfl⟩ : ∃ m, k = m + 1 := ⟨k - 1, by omega⟩
   rw [table_Check.l0, if_neg (by omega), endonymref6_Check.l0, if_neg (by omega)]
   exact ⟨h1 k (by omega), h2 k (by omega)⟩
  | succ d ih =>
   intro i hi hr
   have hil : i < l.length := by omega
   have hx := hw _ (List.getElem_mem hil)
   have hbx := hb _ (List.getElem_mem hil)
   have e : wrap64 ((i : Int) + 1) = ((i + 1 : Nat) : Int) := by unfold wrap64; omega
   have g1 := fun k (hk : M + 50 ≤ k) => right_v l[i].f0 l[i].f1 l[i].f2 l[i].f3 l[i].f4 l[i].f5 l[i].f6 l[i].f7 (by omega) (f7_lt hx) k (by omega)
   have g2 := fun k (hk : M + 50 ≤ k) => rright_v l[i].f0 l[i].f1 l[i].f2 l[i].f3 l[i].f4 l[i].f5 l[i].f6 l[i].f7 (by omega) hx.f4 k (by omega)
   by_cases h0 : RV l[i].f0 l[i].f1 l[i].f2 l[i].f3 l[i].f4 l[i].f5 l[i].f6 l[i].f7 = 0
   ·obtain ⟨p, K, hp⟩ := ih (i + 1) (by omega) (fun x hx => by
     rw [← List.take_append_getElem hil] at hx
     rcases List.mem_append.1 hx with hx | hx
     ·exact hr x hx
     ·rw [List.mem_singleton.1 hx]; exact h0)
    refine ⟨p, max K (M + 50) + 1, fun k hk => ?_⟩
    obtain ⟨k, rfl⟩ : ∃ m, k = m + 1 := ⟨k - 1, by omega⟩
    obtain ⟨q1, q2⟩ := hp k (by omega)
    constructor
    ·rw [table_Check.l0, if_pos (by omega), if_pos (by omega), if_pos (by omega), rd_rec l i hil, g1 k (by omega), Option.bind_some, if_pos h0, e]; exact q1
    ·rw [endonymref6_Check.l0, if_pos (by omega), if_pos (by omega), rd_rec l i hil, g2 k (by omega), Option.bind_some, if_pos h0, e]; exact q2
   ·refine ⟨((i : Int), RV l[i].f0 l[i].f1 l[i].f2 l[i].f3 l[i].f4 l[i].f5 l[i].f6 l[i].f7), M + 51, fun k hk => ?_⟩
    obtain ⟨k, rfl⟩ : ∃ m, k = m + 1 := ⟨k - 1, by omega⟩
    constructor
    ·rw [table_Check.l0, if_pos (by omega), if_pos (by omega), if_pos (by omega), rd_rec l i hil, g1 k (by omega), Option.bind_some, if_neg h0]
    ·rw [endonymref6_Check.l0, if_pos (by omega), if_pos (by omega), rd_rec l i hil, g2 k (by omega), Option.bind_some, if_neg h0]
 obtain ⟨p, K, hp⟩ := main l.length 0 (by omega) (fun x hx => by simp at hx)
 refine ⟨p, K, fun k hk => ?_⟩
 unfold table_Check.f endonymref6_Check.f
 rw [if_neg (by omega), if_neg (by omega)]
 exact hp k hk
end Go.Proofs.YtnoppeocbfapdaaGreatDoor.Plain
namespace Go.Proofs.YtnoppeocbfapdaaGreatDoor.Plain
open Go.RowKit Go.Proofs.YtnoppeocbfapdaaGreatDoorW.PrintWords Go.Proofs.YtnoppeocbfapdaaGreatDoorW.PrintLast Go.Proofs.YtnoppeocbfapdaaGreatDoorW.PrintMore Go.Proofs.YtnoppeocbfapdaaGreatDoor.T
set_option linter.unusedVariables false
set_option linter.unusedSimpArgs false
theorem law_checks (l : List S25) (hw : ∀ x ∈ l, Upto.WfRec x) (hb : (l.map fun x => x.f4.length + x.f5.size + x.f6.size + 1).sum ≤ 1048576) : ∃ k, endonymlaw6_TableChecks.f k l = some true := by
 have hs : ∀ x ∈ l, x.f4.length ≤ 1048576 := fun x hx => by have := sum_le l x hx; omega
 obtain ⟨m, hm⟩ : ∃ m, m = l.take 120 := ⟨_, rfl⟩
 have hml : m.length ≤ 120 := by rw [hm, List.length_take]; omega
 have hll : m.length ≤ l.length := by rw [hm, List.length_take]; omega
 have hmem : ∀ x ∈ m, x ∈ l := fun x hx => by rw [hm] at hx; exact List.mem_of_mem_take hx
 obtain ⟨p, K, hp⟩ := check_both m (by omega) (fun x hx => hw x (hmem x hx)) 1048576 (fun x hx => hs x (hmem x hx)) (by omega)
 obtain ⟨k, hk⟩ : ∃ k, k = K + 2000000 := ⟨_, rfl⟩
 refine ⟨k, ?_⟩
 have f1 := few_ok l 120 k (by omega) (fun x hx => by have := hs x hx; omega) (by omega)
 rw [show ((120 : Nat) : Int) = 120 from rfl, ← hm] at f1
 obtain ⟨h1, h2⟩ := hp k (by omega)
 have ht : l.take ((m.length : Int)).toNat = m := by rw [Int.toNat_natCast, hm, List.length_take, take_min]
 unfold endonymlaw6_TableChecks.f
 rw [f1, Option.bind_some, h1, Option.bind_some, if_pos (by omega), if_pos (by omega), ht, h2, Option.bind_some]
 unfold endonymlaw6_told.f
 rw [Option.bind_some, if_pos rfl, if_pos rfl, if_pos rfl, whole_ok l m 120 1048576 k hm (by omega) hs (by omega) (by omega)]
 rfl
end Go.Proofs.YtnoppeocbfapdaaGreatDoor.Plain
