import Derived.Test.YtnoppeocbfapdaaGreatDoorBaseP
import Derived.Test.YtnoppeocbfapdaaGreatDoorUptoRec
import Derived.Test.YtnoppeocbfapdaaGreatDoorTx1
import Derived.Test.YtnoppeocbfapdaaGreatDoorTx2
import Derived.Test.YtnoppeocbfapdaaGreatDoorTx3
import Derived.Test.YtnoppeocbfapdaaGreatDoorTx4
import Derived.Test.YtnoppeocbfapdaaGreatDoorTx5
import Derived.Test.YtnoppeocbfapdaaGreatDoorTx6
import Derived.Test.YtnoppeocbfapdaaGreatDoorTx16
import Derived.Test.YtnoppeocbfapdaaGreatDoorTx7
import Derived.Test.YtnoppeocbfapdaaGreatDoorTx17
namespace Go.Proofs.YtnoppeocbfapdaaGreatDoor.Plain
open Go.RowKit Go.Proofs.YtnoppeocbfapdaaGreatDoorW.PrintWords Go.Proofs.YtnoppeocbfapdaaGreatDoorW.PrintLast Go.Proofs.YtnoppeocbfapdaaGreatDoorW.PrintMore Go.Proofs.YtnoppeocbfapdaaGreatDoor.T
set_option linter.unusedVariables false
set_option linter.unusedSimpArgs false
theorem wf_i64 {x : Int} (h : (Lit.int .i64 x).wf = true) : -9223372036854775808 ≤ x ∧ x ≤ 9223372036854775807 := by
 simpa only [Lit.wf, Bool.and_eq_true, decide_eq_true_eq, show IntKind.i64.min = -9223372036854775808 from by decide, show IntKind.i64.max = 9223372036854775807 from by decide] using h
theorem wf_i32 {x : Int} (h : (Lit.int .i32 x).wf = true) : -2147483648 ≤ x ∧ x ≤ 2147483647 := by
 simpa only [Lit.wf, Bool.and_eq_true, decide_eq_true_eq, show IntKind.i32.min = -2147483648 from by decide, show IntKind.i32.max = 2147483647 from by decide] using h
theorem rd_rec (l : List S25) (i : Nat) (h : i < l.length) : rd_T25 l (i : Int) = l[i] := by
 unfold rd_T25
 rw [Int.toNat_natCast, List.getD_eq_getElem?_getD, List.getElem?_eq_getElem h]; rfl
theorem copied_ok : ∀ (d : Nat) (l acc : List S25) (i k : Nat), l.length = i + d → l.length ≤ 1000000 → acc.length = i → (∀ x ∈ l, x.f4.length < 1000000000000) → d < k → endonymref6_Copied.l0 k l acc (i : Int) = some (acc ++ l.drop i) := by
 intro d
 induction d with
 | zero =>
  intro l acc i k hl hb ha hs hk
  obtain ⟨k, rfl⟩ : ∃ m, k = m + 1 := ⟨k - 1, by omega⟩
  rw [endonymref6_Copied.l0, if_neg (by omega), List.drop_eq_nil_of_le (by omega), List.append_nil]
 | succ d ih =>
  intro l acc i k hl hb ha hs hk
  obtain ⟨k, rfl⟩ : ∃ m, k = m + 1 := ⟨k - 1, by omega⟩
  have hil : i < l.length := by omega
  have hx := hs l[i] (List.getElem_mem hil)
  rw [endonymref6_Copied.l0, if_pos (by omega), if_pos (by omega), rd_rec l i hil, if_pos (by simp; omega), if_pos (by omega)]
  rw [show wrap64 ((i : Int) + 1) = ((i + 1 : Nat) : Int) by unfold wrap64; omega]
  rw [ih l _ (i + 1) k (by omega) hb (by simp [ha]) hs (by omega), List.append_assoc]
  congr 2
  rw [List.drop_eq_getElem_cons hil]
  rfl
theorem few_ok (l : List S25) (m k : Nat) (hm : m ≤ 1000) (hs : ∀ x ∈ l, x.f4.length < 1000000000000) (hk : m < k) : endonymlaw6_few.f k l (m : Int) = some (l.take m) := by
 unfold endonymlaw6_few.f
 rw [if_pos ⟨hs, by omega⟩]
 have e : mn (l.length : Int) (m : Int) = ((min l.length m : Nat) : Int) := by unfold mn; omega
 rw [e, if_pos (by omega), if_pos (by omega), Int.toNat_natCast]
 unfold endonymref6_Copied.f
 have hl : (l.take (min l.length m)).length = min l.length m := by rw [List.length_take]; omega
 have := copied_ok (min l.length m) (l.take (min l.length m)) [] 0 k (by rw [hl]; omega) (by rw [hl]; omega) rfl (fun x hx => hs x (List.mem_of_mem_take hx)) (by omega)
 rw [show ((0 : Nat) : Int) = 0 from rfl] at this
 rw [this, Option.bind_some, List.drop_zero, List.nil_append]
 congr 1
 by_cases h : m ≤ l.length
 ·rw [Nat.min_eq_right h]
 ·rw [Nat.min_eq_left (by omega), List.take_of_length_le (Nat.le_refl _), List.take_of_length_le (by omega)]
theorem sum_le (l : List S25) (x : S25) (hx : x ∈ l) : x.f4.length ≤ (l.map fun x => x.f4.length + x.f5.size + x.f6.size + 1).sum := by
 induction l with
 | nil => simp at hx
 | cons y l ih =>
  rw [List.map_cons, List.sum_cons]
  rcases List.mem_cons.1 hx with rfl | h
  ·omega
  ·have := ih h; omega
end Go.Proofs.YtnoppeocbfapdaaGreatDoor.Plain
namespace Go.Proofs.YtnoppeocbfapdaaGreatDoor.Plain
open Go.RowKit Go.Proofs.YtnoppeocbfapdaaGreatDoorW.PrintWords Go.Proofs.YtnoppeocbfapdaaGreatDoorW.PrintLast Go.Proofs.YtnoppeocbfapdaaGreatDoorW.PrintMore Go.Proofs.YtnoppeocbfapdaaGreatDoor.T
set_option linter.unusedVariables false
set_option linter.unusedSimpArgs false
def fam (a : Int) : Int := if 1 ≤ a ∧ a ≤ 5 then 1 else if a = 6 then 2 else if a = 7 ∨ a = 8 then 3 else if 9 ≤ a ∧ a ≤ 15 then a - 5 else 0
theorem fam15 : fam 15 = 10 := by decide
theorem kinds (a : Int) : (a < 1 ∨ 15 < a) ∨ a = 1 ∨ a = 2 ∨ a = 3 ∨ a = 4 ∨ a = 5 ∨ a = 6 ∨ a = 7 ∨ a = 8 ∨ a = 9 ∨ a = 10 ∨ a = 11 ∨ a = 12 ∨ a = 13 ∨ a = 14 ∨ a = 15 := by omega
theorem fam_prog (a : Int) (k : Nat) (hk : 2 ≤ k) : table_Family.f k a = some (fam a) := by
 obtain ⟨k, rfl⟩ : ∃ m, k = m + 2 := ⟨k - 2, by omega⟩
 rcases kinds a with h | rfl | rfl | rfl | rfl | rfl | rfl | rfl | rfl | rfl | rfl | rfl | rfl | rfl | rfl | rfl
 ·have e : fam a = 0 := by unfold fam; omega
  have h5 : (a == 5) = false := by rw [beq_eq_false_iff_ne]; omega
  have h8 : (a == 8) = false := by rw [beq_eq_false_iff_ne]; omega
  unfold table_Family.f
  rw [if_neg (by omega), if_neg (by omega), if_neg (by omega), if_neg (by omega), h5, table_Family.j0, if_neg (by decide), if_neg (by omega), if_neg (by omega), h8, table_Family.j1, if_neg (by decide), if_neg (by omega), if_neg (by omega), if_neg (by omega), if_neg (by omega), if_neg (by omega), if_neg (by omega), if_neg (by omega), e]
 all_goals first | rfl | (simp [table_Family.f, table_Family.j0, table_Family.j1, fam, wrap64])
end Go.Proofs.YtnoppeocbfapdaaGreatDoor.Plain
namespace Go.Proofs.YtnoppeocbfapdaaGreatDoor.Plain
open Go.RowKit Go.Proofs.YtnoppeocbfapdaaGreatDoorW.PrintWords Go.Proofs.YtnoppeocbfapdaaGreatDoorW.PrintLast Go.Proofs.YtnoppeocbfapdaaGreatDoorW.PrintMore Go.Proofs.YtnoppeocbfapdaaGreatDoor.T
set_option linter.unusedVariables false
set_option linter.unusedSimpArgs false
def Tk {α : Type} (F : Nat → Option α) (M : Nat) : Prop := ∃ v, ∀ k, M ≤ k → F k = some v
theorem Tk.pure {α : Type} (v : α) (M : Nat) : Tk (fun _ => some v) M := ⟨v, fun _ _ => rfl⟩
theorem Tk.le {α : Type} {F : Nat → Option α} {M M' : Nat} (h : Tk F M) (hm : M ≤ M') : Tk F M' := by
 obtain ⟨v, h⟩ := h
 exact ⟨v, fun k hk => h k (Nat.le_trans hm hk)⟩
theorem Tk.bind {α β : Type} {F : Nat → Option α} {G : α → Nat → Option β} {M : Nat} (hF : Tk F M) (hG : ∀ v, Tk (G v) M) : Tk (fun k => (F k).bind fun v => G v k) M := by
 obtain ⟨v, h⟩ := hF
 obtain ⟨u, g⟩ := hG v
 exact ⟨u, fun k hk => by show (F k).bind _ = _; rw [h k hk, Option.bind_some]; exact g k hk⟩
theorem Tk.ite {α : Type} {F G : Nat → Option α} {c : Prop} [Decidable c] {M : Nat} (hF : Tk F M) (hG : Tk G M) : Tk (fun k => if c then F k else G k) M := by
 by_cases h : c
 ·obtain ⟨v, g⟩ := hF; exact ⟨v, fun k hk => by show (if c then _ else _) = _; rw [if_pos h]; exact g k hk⟩
 ·obtain ⟨v, g⟩ := hG; exact ⟨v, fun k hk => by show (if c then _ else _) = _; rw [if_neg h]; exact g k hk⟩
theorem Tk.of {α : Type} {F : Option α} (h : ∃ v, F = some v) (M : Nat) : Tk (fun _ => F) M := h.imp fun _ h _ _ => h
theorem Tk.succ {α : Type} {F G : Nat → Option α} {M : Nat} (h : Tk G M) (e : ∀ k, F (k + 1) = G k) : Tk F (M + 1) := by
 obtain ⟨v, h⟩ := h
 refine ⟨v, fun k hk => ?_⟩
 obtain ⟨k, rfl⟩ : ∃ m, k = m + 1 := ⟨k - 1, by omega⟩
 rw [e]; exact h k (by omega)
theorem nothing_t (s0 s1 s2 s3 : Bool) (a0 a1 a2 a3 : Int) (l : List Int) (a5 a6 : ByteArray) (a7 : Nat) : ∃ b, table_spare_nothing.f s0 s1 s2 s3 a0 a1 a2 a3 l a5 a6 a7 = some b := by
 unfold table_spare_nothing.f api_Bits.f
 simp only [Option.bind_some]
 repeat' split
 all_goals exact ⟨_, rfl⟩
theorem valid_t (c : Int) : ∃ b, scalar_Valid.f c = some b := by
 unfold scalar_Valid.f
 repeat' split
 all_goals exact ⟨_, rfl⟩
theorem sound_loop (l : List Int) (hb : l.length ≤ 1000000000000) : ∀ (d i : Nat), l.length = i + d → Tk (fun k => scalar_Sound.l0 k l (l.length : Int) (i : Int)) (d + 1) := by
 intro d
 induction d with
 | zero => intro i hl; exact Tk.succ (Tk.pure true 0) fun k => by rw [scalar_Sound.l0, if_neg (by omega)]
 | succ d ih =>
  intro i hl
  obtain ⟨b, hv⟩ := valid_t (rd l (i : Int))
  have e : wrap64 ((i : Int) + 1) = ((i + 1 : Nat) : Int) := by unfold wrap64; omega
  cases b with
  | true => exact Tk.succ (ih (i + 1) (by omega)) fun k => by rw [scalar_Sound.l0, if_pos (by omega), if_pos (by omega), if_pos (by omega), hv, Option.bind_some, if_pos rfl, e]
  | false => exact Tk.succ (Tk.pure false _) fun k => by rw [scalar_Sound.l0, if_pos (by omega), if_pos (by omega), if_pos (by omega), hv, Option.bind_some, if_neg (by decide)]
theorem sound_t (a0 a1 a2 a3 : Int) (l : List Int) (a5 a6 : ByteArray) (a7 : Nat) (x y : Int) (hb : l.length ≤ 1000000000000) : Tk (fun k => table_sound.f k a0 a1 a2 a3 l a5 a6 a7 x y) (l.length + 20) := by
 unfold table_sound.f scalar_Sound.f
 exact Tk.ite (Tk.ite (Tk.bind ((sound_loop l hb l.length 0 (by omega)).le (by omega)) fun v => Tk.pure v _) (Tk.pure _ _)) (Tk.pure _ _)
theorem name_loop (s : ByteArray) (hs : s.size = 4) : ∀ (d i : Nat), 4 = i + d → Tk (fun k => scan_Name.l0 k s (i : Int)) (d + 1) := by
 intro d
 induction d with
 | zero => intro i hl; exact Tk.succ (Tk.pure true 0) fun k => by rw [scan_Name.l0, if_neg (by omega)]
 | succ d ih =>
  intro i hl
  have e : wrap64 ((i : Int) + 1) = ((i + 1 : Nat) : Int) := by unfold wrap64; omega
  refine Tk.succ (G := fun k => if bt s (i : Int) < 97 then some false else if bt s (i : Int) > 122 then some false else scan_Name.l0 k s ((i + 1 : Nat) : Int)) (Tk.ite (Tk.pure _ _) (Tk.ite (Tk.pure _ _) (ih (i + 1) (by omega)))) fun k => by rw [scan_Name.l0, if_pos (by omega), if_pos (by omega), if_pos (by omega), e]
theorem name_t (s : ByteArray) (M : Nat) (hM : 20 ≤ M) : Tk (fun k => scan_Name.f k s) M := by
 refine Tk.le (M := 6) ?_ (by omega)
 unfold scan_Name.f
 have hf : Tk (fun k => scan_Name.j0 k s true) 6 := (Tk.succ (Tk.pure false 0) fun k => by rw [scan_Name.j0, if_pos rfl]).le (by omega)
 by_cases h4 : (s.size : Int) = 4
 ·have hn : Tk (fun k => scan_Name.j0 k s false) 6 := (Tk.succ (name_loop s (by omega) 3 1 (by omega)) fun k => by rw [scan_Name.j0, if_neg (by decide)]; rfl).le (by omega)
  have key : ∀ b, Tk (fun k => scan_Name.j0 k s b) 6 := fun b => by cases b; exact hn; exact hf
  simp only [if_pos h4, if_pos (show 0 < (s.size : Int) by omega)]
  exact Tk.ite hf (key _)
 ·simp only [if_neg h4]; exact hf
theorem ite_t {α : Type} {c : Prop} [Decidable c] {F G : Option α} (hF : ∃ v, F = some v) (hG : ∃ v, G = some v) : ∃ v, (if c then F else G) = some v := by
 by_cases h : c
 ·rw [if_pos h]; exact hF
 ·rw [if_neg h]; exact hG
theorem bind_t {α β : Type} {F : Option α} {G : α → Option β} (hF : ∃ v, F = some v) (hG : ∀ v, ∃ u, G v = some u) : ∃ u, F.bind G = some u := by
 obtain ⟨v, rfl⟩ := hF
 exact hG v
theorem bits_t (a : Nat) : ∃ v, api_Bits.f a = some v := ⟨_, rfl⟩
theorem rank_t (a : Nat) : ∃ v, weigh_rank.f a = some v := by
 unfold weigh_rank.f
 exact ite_t ⟨_, rfl⟩ (bind_t (bits_t a) fun v => ite_t ⟨_, rfl⟩ ⟨_, rfl⟩)
theorem weighs_t (a0 a1 a2 a3 : Int) (l : List Int) (a5 a6 : ByteArray) (a7 : Nat) : ∃ v, table_weighs.f a0 a1 a2 a3 l a5 a6 a7 = some v := by
 unfold table_weighs.f weigh_Order.f
 exact ite_t (bind_t (bind_t (rank_t a7) fun u => bind_t (rank_t 0) fun v => ite_t ⟨_, rfl⟩ (ite_t ⟨_, rfl⟩ ⟨_, rfl⟩)) fun v => ⟨_, rfl⟩) ⟨_, rfl⟩
theorem one_t (a0 a1 a2 a3 : Int) (l : List Int) (a5 a6 : ByteArray) (a7 : Nat) : ∃ v, table_one.f a0 a1 a2 a3 l a5 a6 a7 = some v := by
 unfold table_one.f
 obtain ⟨u, hu⟩ := valid_t (wrap32 a1)
 rw [hu, Option.bind_some]
 split
 all_goals exact ⟨_, rfl⟩
theorem between_t (a0 a1 a2 a3 : Int) (l : List Int) (a5 a6 : ByteArray) (a7 : Nat) (x y : Int) : ∃ v, table_between.f a0 a1 a2 a3 l a5 a6 a7 x y = some v := by
 unfold table_between.f
 split
 all_goals exact ⟨_, rfl⟩
theorem shifts_t (a0 a1 a2 a3 : Int) (l : List Int) (a5 a6 : ByteArray) (a7 : Nat) : ∃ v, table_shifts.f a0 a1 a2 a3 l a5 a6 a7 = some v := by
 unfold table_shifts.f
 obtain ⟨b, hb⟩ := between_t a0 a1 a2 a3 l a5 a6 a7 1 64
 obtain ⟨u, hu⟩ := valid_t (rd l 0)
 obtain ⟨v, hv⟩ := valid_t (wrap32 (rd l 0 + wrap32 (wrap64 (a2 - a1))))
 rw [hb, Option.bind_some, hu, Option.bind_some, hv, Option.bind_some]
 repeat' split
 all_goals first | exact ⟨_, rfl⟩ | omega
theorem fits_t (a0 a1 a2 a3 : Int) (l : List Int) (a5 a6 : ByteArray) (a7 : Nat) (hb : l.length ≤ 1000000000000) : Tk (fun k => table_fits.f k a0 a1 a2 a3 l a5 a6 a7) (l.length + 20) := by
 unfold table_fits.f
 repeat' first | exact Tk.pure _ _ | exact sound_t _ _ _ _ _ _ _ _ _ _ hb | exact name_t _ _ (by omega) | exact Tk.of (nothing_t _ _ _ _ _ _ _ _ _ _ _ _) _ | exact Tk.of (weighs_t _ _ _ _ _ _ _ _) _ | exact Tk.of (one_t _ _ _ _ _ _ _ _) _ | exact Tk.of (between_t _ _ _ _ _ _ _ _ _ _) _ | exact Tk.of (shifts_t _ _ _ _ _ _ _ _) _ | refine Tk.ite ?_ ?_ | refine Tk.bind ?_ (fun v => ?_)
theorem fits_shift {k : Nat} {a1 a2 a3 : Int} {l : List Int} {a5 a6 : ByteArray} {a7 : Nat} (h : table_fits.f k 4 a1 a2 a3 l a5 a6 a7 = some true) : 1 ≤ a3 := by
 unfold table_fits.f at h
 rw [if_neg (by decide), if_pos rfl] at h
 obtain ⟨b, hn⟩ := nothing_t false false true true 4 a1 a2 a3 l a5 a6 a7
 rw [hn, Option.bind_some] at h
 cases b with
 | false => rw [if_neg (by decide)] at h; cases h
 | true =>
  rw [if_pos rfl] at h
  unfold table_shifts.f table_between.f at h
  by_cases c : a3 ≥ 1
  ·exact c
  ·rw [if_neg c, Option.bind_some, if_neg (by decide), Option.bind_some] at h; cases h
theorem right_t (a0 a1 a2 a3 : Int) (l : List Int) (a5 a6 : ByteArray) (a7 : Nat) (hb : l.length ≤ 1000000000000) : Tk (fun k => table_Right.f k a0 a1 a2 a3 l a5 a6 a7) (l.length + 21) := by
 have j : ∀ b, Tk (fun k => table_Right.j0 k b a0 a1 a2 a3 l a5 a6 a7) (l.length + 21) := fun b => by
  refine Tk.succ (G := fun k => if a0 = 15 then (if a1 = 0 then (if a2 = 0 then ((table_fits.f k a0 a1 a2 a3 l a5 a6 a7).bind fun t189 => (if t189 = true then (some 0) else (some 61))) else (some 61)) else (some 61)) else (if b = true then ((table_fits.f k a0 a1 a2 a3 l a5 a6 a7).bind fun t190 => (if t190 = true then (some 0) else (some 61))) else (some 61))) ?_ fun k => by rw [table_Right.j0]
  have hf := fits_t a0 a1 a2 a3 l a5 a6 a7 hb
  repeat' first | exact Tk.pure _ _ | exact hf | refine Tk.ite ?_ ?_ | refine Tk.bind ?_ (fun v => ?_)
 unfold table_Right.f
 refine Tk.bind ⟨fam a0, fun k hk => fam_prog a0 k (by omega)⟩ fun v => ?_
 repeat' first | exact Tk.pure _ _ | exact j _ | refine Tk.ite ?_ ?_
theorem right_shift {k : Nat} {a1 a2 a3 : Int} {l : List Int} {a5 a6 : ByteArray} {a7 : Nat} (hk : 2 ≤ k) (h : table_Right.f k 4 a1 a2 a3 l a5 a6 a7 = some 0) : 1 ≤ a3 := by
 unfold table_Right.f at h
 rw [fam_prog _ k hk, Option.bind_some, if_neg (by decide)] at h
 have key : ∀ b, table_Right.j0 k b 4 a1 a2 a3 l a5 a6 a7 = some 0 → 1 ≤ a3 := fun b hj => by
  obtain ⟨k, rfl⟩ : ∃ m, k = m + 1 := ⟨k - 1, by omega⟩
  rw [table_Right.j0, if_neg (by decide)] at hj
  by_cases hb : b = true
  ·rw [if_pos hb] at hj
   cases hf : table_fits.f k 4 a1 a2 a3 l a5 a6 a7 with
   | none => rw [hf] at hj; cases hj
   | some v =>
    rw [hf, Option.bind_some] at hj
    cases v with
    | false => rw [if_neg (by decide)] at hj; cases hj
    | true => exact fits_shift hf
  ·rw [if_neg hb] at hj; cases hj
 split at h
 ·split at h
  ·exact key _ h
  ·exact key _ h
 ·exact key _ h
/- meet -/
theorem speaks_t (x : S25) (hx : Upto.WfRec x) (c : Int) : ∃ b, table_speaks.f x.f0 x.f1 x.f2 x.f3 x.f4 x.f5 x.f6 x.f7 c = some b := by
 have w3 := wf_i64 hx.f3
 unfold table_speaks.f
 by_cases h3 : x.f3 > 0
 ·have hw : ¬ IntKind.u64.wrap x.f3 = 0 := by rw [wu64 (by omega) (by omega)]; omega
  rw [if_neg hw]
  repeat' split
  all_goals exact ⟨_, rfl⟩
 ·rw [if_neg h3]
  repeat' split
  all_goals exact ⟨_, rfl⟩
theorem meet_loop (x y : S25) (hy : Upto.WfRec y) (hi : Int) : ∀ (d i : Nat) (c : Int), 64 = i + d → Tk (fun k => table_meet.l0 k hi c (i : Int) x.f0 x.f1 x.f2 x.f3 x.f4 x.f5 x.f6 x.f7 y.f0 y.f1 y.f2 y.f3 y.f4 y.f5 y.f6 y.f7) (d + 1) := by
 intro d
 induction d with
 | zero => intro i c hl; exact Tk.succ (Tk.pure false 0) fun k => by rw [table_meet.l0, if_neg (by omega)]
 | succ d ih =>
  intro i c hl
  obtain ⟨b, hv⟩ := speaks_t y hy c
  have e : wrap64 ((i : Int) + 1) = ((i + 1 : Nat) : Int) := by unfold wrap64; omega
  refine Tk.succ (G := fun k => if c > hi then some false else if b = true then some true else table_meet.l0 k hi (wrap64 (c + x.f3)) ((i + 1 : Nat) : Int) x.f0 x.f1 x.f2 x.f3 x.f4 x.f5 x.f6 x.f7 y.f0 y.f1 y.f2 y.f3 y.f4 y.f5 y.f6 y.f7) (Tk.ite (Tk.pure _ _) (Tk.ite (Tk.pure _ _) (ih (i + 1) _ (by omega)))) fun k => by rw [table_meet.l0, if_pos (by omega), hv, Option.bind_some, e]
theorem meetg_t (x y : S25) (hy : Upto.WfRec y) (hx : x.f0 = 4 → 1 ≤ x.f3) : Tk (fun k => table_meet.g k x.f0 x.f1 x.f2 x.f3 x.f4 x.f5 x.f6 x.f7 y.f0 y.f1 y.f2 y.f3 y.f4 y.f5 y.f6 y.f7) 66 := by
 unfold table_meet.g
 have jt : Tk (fun k => table_meet.j0 k (mx x.f1 y.f1) (mn x.f2 y.f2) true x.f0 x.f1 x.f2 x.f3 x.f4 x.f5 x.f6 x.f7 y.f0 y.f1 y.f2 y.f3 y.f4 y.f5 y.f6 y.f7) 66 := (Tk.succ (Tk.pure _ 0) fun k => by rw [table_meet.j0, if_pos rfl]).le (by omega)
 by_cases h4 : x.f0 = 4
 ·simp only [if_pos h4]
  have h3 : ¬ x.f3 = 0 := by have := hx h4; omega
  have jf : Tk (fun k => table_meet.j0 k (mx x.f1 y.f1) (mn x.f2 y.f2) false x.f0 x.f1 x.f2 x.f3 x.f4 x.f5 x.f6 x.f7 y.f0 y.f1 y.f2 y.f3 y.f4 y.f5 y.f6 y.f7) 66 := by
   refine Tk.succ (meet_loop x y hy (mn x.f2 y.f2) 64 0 _ (by omega)) fun k => by rw [table_meet.j0, if_neg (by decide), if_neg h3]; rfl
  have key : ∀ b, Tk (fun k => table_meet.j0 k (mx x.f1 y.f1) (mn x.f2 y.f2) b x.f0 x.f1 x.f2 x.f3 x.f4 x.f5 x.f6 x.f7 y.f0 y.f1 y.f2 y.f3 y.f4 y.f5 y.f6 y.f7) 66 := fun b => by cases b; exact jf; exact jt
  exact key _
 ·simp only [if_neg h4]
  exact jt
def Ok (x : S25) : Prop := Upto.WfRec x ∧ (x.f0 = 4 → 1 ≤ x.f3)
def MF (k : Nat) (o x : S25) : Option Bool := table_meet.f k o.f0 o.f1 o.f2 o.f3 o.f4 o.f5 o.f6 o.f7 x.f0 x.f1 x.f2 x.f3 x.f4 x.f5 x.f6 x.f7
def RF (k : Nat) (x : S25) : Option Int := table_Right.f k x.f0 x.f1 x.f2 x.f3 x.f4 x.f5 x.f6 x.f7
theorem meet_t (o x : S25) (ho : Ok o) (hx : Ok x) : Tk (fun k => MF k o x) 66 := by
 unfold MF table_meet.f
 exact Tk.ite (meetg_t o x hx.1 ho.2) (meetg_t x o ho.1 hx.2)
open Classical in
noncomputable def mv (o x : S25) : Bool := decide (∃ K, ∀ k, K ≤ k → MF k o x = some true)
open Classical in
noncomputable def rv (x : S25) : Bool := decide (∃ K, ∀ k, K ≤ k → RF k x = some 0)
theorem mv_is {o x : S25} (ho : Ok o) (hx : Ok x) : ∀ k, 66 ≤ k → MF k o x = some (mv o x) := by
 obtain ⟨v, h⟩ := meet_t o x ho hx
 have e : mv o x = v := by
  unfold mv
  cases v with
  | true => exact @decide_eq_true _ (_) ⟨66, h⟩
  | false =>
   refine @decide_eq_false _ (_) fun ⟨K, g⟩ => ?_
   have := (g (max K 66) (Nat.le_max_left _ _)).symm.trans (h (max K 66) (Nat.le_max_right _ _))
   cases this
 intro k hk
 rw [e]; exact h k hk
theorem rv_is (x : S25) (hb : x.f4.length ≤ 1000000000000) : ∃ v, (∀ k, x.f4.length + 21 ≤ k → RF k x = some v) ∧ (rv x = true ↔ v = 0) := by
 obtain ⟨v, h⟩ := right_t x.f0 x.f1 x.f2 x.f3 x.f4 x.f5 x.f6 x.f7 hb
 refine ⟨v, h, ?_⟩
 unfold rv
 constructor
 ·intro hr
  obtain ⟨K, g⟩ := @of_decide_eq_true _ (_) hr
  have h2 := h (max K (x.f4.length + 21)) (Nat.le_max_right _ _)
  have := (g (max K (x.f4.length + 21)) (Nat.le_max_left _ _)).symm.trans h2
  exact (Option.some.inj this).symm
 ·rintro rfl
  exact @decide_eq_true _ (_) ⟨_, h⟩
theorem rv_ok {x : S25} (hx : Upto.WfRec x) (hr : rv x = true) : Ok x := by
 refine ⟨hx, fun h4 => ?_⟩
 obtain ⟨K, g⟩ := @of_decide_eq_true _ (_) hr
 have := g (max K 2) (Nat.le_max_left _ _)
 unfold RF at this
 rw [h4] at this
 exact right_shift (Nat.le_max_right _ _) this
end Go.Proofs.YtnoppeocbfapdaaGreatDoor.Plain
namespace Go.Proofs.YtnoppeocbfapdaaGreatDoor.Plain
open Go.RowKit Go.Proofs.YtnoppeocbfapdaaGreatDoorW.PrintWords Go.Proofs.YtnoppeocbfapdaaGreatDoorW.PrintLast Go.Proofs.YtnoppeocbfapdaaGreatDoorW.PrintMore Go.Proofs.YtnoppeocbfapdaaGreatDoor.T
set_option linter.unusedVariables false
set_option linter.unusedSimpArgs false
def sv (x : S25) (c : Int) : Bool := (table_speaks.f x.f0 x.f1 x.f2 x.f3 x.f4 x.f5 x.f6 x.f7 c).getD false
theorem sv_is (x : S25) (hx : Upto.WfRec x) (c : Int) : table_speaks.f x.f0 x.f1 x.f2 x.f3 x.f4 x.f5 x.f6 x.f7 c = some (sv x c) := by
 obtain ⟨b, h⟩ := speaks_t x hx c
 unfold sv
 rw [h]; rfl
def sp (f c : Int) (x : S25) : Bool := decide (fam x.f0 = f) && sv x c
def fx (f c : Int) (l : List S25) : Int := match l.findIdx? (sp f c) with
 | some i => (i : Int)
 | none => -1
theorem find_at (l : List S25) (hw : ∀ x ∈ l, Upto.WfRec x) (f c : Int) (hc : wrap64 c = c) (hb : l.length ≤ 1000000) : ∀ (d i k : Nat), l.length = i + d → d + 3 ≤ k →
  table_Find.l0 k f c l (l.length : Int) (i : Int) = some (match (l.drop i).findIdx? (sp f c) with | some j => ((i + j : Nat) : Int) | none => -1) := by
 intro d
 induction d with
 | zero =>
  intro i k hl hk
  obtain ⟨k, rfl⟩ : ∃ m, k = m + 1 := ⟨k - 1, by omega⟩
  rw [table_Find.l0, if_neg (by omega), List.drop_eq_nil_of_le (by omega)]; rfl
 | succ d ih =>
  intro i k hl hk
  obtain ⟨k, rfl⟩ : ∃ m, k = m + 1 := ⟨k - 1, by omega⟩
  have hil : i < l.length := by omega
  have e : wrap64 ((i : Int) + 1) = ((i + 1 : Nat) : Int) := by unfold wrap64; omega
  have next : ∀ b : Bool, sp f c l[i] = b → (match (l.drop i).findIdx? (sp f c) with | some j => ((i + j : Nat) : Int) | none => -1) = if b then (i : Int) else (match (l.drop (i + 1)).findIdx? (sp f c) with | some j => ((i + 1 + j : Nat) : Int) | none => -1) := fun b hb => by
   rw [List.drop_eq_getElem_cons hil, List.findIdx?_cons, hb]
   cases b with
   | true => rfl
   | false =>
    cases (l.drop (i + 1)).findIdx? (sp f c) with
    | none => rfl
    | some j => show ((i + (j + 1) : Nat) : Int) = ((i + 1 + j : Nat) : Int); omega
  rw [table_Find.l0, if_pos (by omega), if_pos (by omega), if_pos (by omega), rd_rec l i hil, hc, e, fam_prog _ k (by omega), Option.bind_some, ih (i + 1) k (by omega) (by omega), sv_is _ (hw _ (List.getElem_mem hil)), Option.bind_some]
  by_cases hf : fam l[i].f0 = f
  ·rw [if_pos hf]
   have hs : sp f c l[i] = sv l[i] c := by unfold sp; rw [decide_eq_true hf, Bool.true_and]
   rw [next _ hs]
   cases sv l[i] c <;> rfl
  ·rw [if_neg hf]
   have hs : sp f c l[i] = false := by unfold sp; rw [decide_eq_false hf, Bool.false_and]
   rw [next _ hs]; rfl
theorem find_is (l : List S25) (hw : ∀ x ∈ l, Upto.WfRec x) (f c : Int) (h1 : 1 ≤ f) (h9 : f ≤ 9) (hc : wrap64 c = c) (hb : l.length ≤ 1000000) (k : Nat) (hk : l.length + 5 ≤ k) : table_Find.f k l f c = some (fx f c l) := by
 obtain ⟨k, rfl⟩ : ∃ m, k = m + 1 := ⟨k - 1, by omega⟩
 unfold table_Find.f
 rw [if_neg (by omega), decide_eq_false (by omega), table_Find.j0, if_neg (by decide)]
 have := find_at l hw f c hc hb l.length 0 k (by omega) (by omega)
 rw [show ((0 : Nat) : Int) = 0 from rfl, List.drop_zero] at this
 rw [this]
 unfold fx
 simp only [Nat.zero_add]
end Go.Proofs.YtnoppeocbfapdaaGreatDoor.Plain
namespace Go.Proofs.YtnoppeocbfapdaaGreatDoor.Plain
open Go.RowKit Go.Proofs.YtnoppeocbfapdaaGreatDoorW.PrintWords Go.Proofs.YtnoppeocbfapdaaGreatDoorW.PrintLast Go.Proofs.YtnoppeocbfapdaaGreatDoorW.PrintMore Go.Proofs.YtnoppeocbfapdaaGreatDoor.T
set_option linter.unusedVariables false
set_option linter.unusedSimpArgs false
def nm (o x : S25) : Bool := decide (o.f5.toList = x.f5.toList ∧ o.f6.toList = x.f6.toList ∨ o.f5.toList = x.f6.toList ∧ o.f6.toList = x.f5.toList)
noncomputable def hit (f : Int) (x o : S25) : Bool := if f < 10 then mv o x else if f = 10 then nm o x else false
def upd (fm : Int → List S25) (f : Int) (x : S25) : Int → List S25 := fun g => if g = f then fm f ++ [x] else fm g
noncomputable def clash : (Int → List S25) → List S25 → Bool
 | _, [] => false
 | fm, x :: l => if (fm (fam x.f0)).any (hit (fam x.f0) x) then true else clash (upd fm (fam x.f0) x) l
def L2 (k : Nat) (fm : Int → List S25) (l : List S25) (i f : Int) (xs : List S25) (j : Int) (x : S25) : Option (Int × Int) := table_Check.l2 k fm l i f l (l.length : Int) i xs (xs.length : Int) j x.f0 x.f1 x.f2 x.f3 x.f4 x.f5 x.f6 x.f7
theorem names_if {α : Type} {A B C D : Prop} [Decidable A] [Decidable B] [Decidable C] [Decidable D] (u v : α) : (if A then (if B then u else (if C then (if D then u else v) else v)) else (if C then (if D then u else v) else v)) = if decide (A ∧ B ∨ C ∧ D) = true then u else v := by
 by_cases a : A <;> by_cases b : B <;> by_cases c : C <;> by_cases d : D <;> simp [a, b, c, d]
theorem l2_step (l : List S25) (fm : Int → List S25) (i f : Int) (xs : List S25) (hxs : xs.length ≤ 1000000) (x : S25) (hx : Ok x) (j : Nat) (hj : j < xs.length) (ho : Ok xs[j]) (k : Nat) (hk : 66 ≤ k) :
  L2 (k + 1) fm l i f xs (j : Int) x = if hit f x xs[j] = true then some (i, 62) else L2 k fm l i f xs ((j + 1 : Nat) : Int) x := by
 have hm := mv_is ho hx k hk
 unfold MF at hm
 have e : wrap64 ((j : Int) + 1) = ((j + 1 : Nat) : Int) := by unfold wrap64; omega
 unfold L2
 rw [table_Check.l2, if_pos (by omega), if_pos (by omega), if_pos (by omega), rd_rec xs j hj, e]
 unfold hit nm
 by_cases h10 : f < 10
 ·rw [if_pos h10, if_pos h10, hm, Option.bind_some, if_neg (show ¬ f = 10 by omega)]
 ·rw [if_neg h10, if_neg h10]
  by_cases h1 : f = 10
  ·rw [if_pos h1, if_pos h1]
   exact names_if _ _
  ·rw [if_neg h1, if_neg h1, if_neg (by decide)]
theorem l2_end (l : List S25) (fm : Int → List S25) (i f : Int) (x : S25) (k : Nat) : L2 (k + 1) fm l i f (fm f) ((fm f).length : Int) x = table_Check.l1 k (upd fm f x) l l (l.length : Int) (wrap64 (i + 1)) := by
 unfold L2
 rw [table_Check.l2, if_neg (by omega)]
 rfl
theorem l2_ok (l : List S25) (fm : Int → List S25) (i f : Int) (x : S25) (hx : Ok x) (hf : (fm f).length ≤ 1000000) (hok : ∀ o ∈ fm f, Ok o) (p : Int × Int) (K0 : Nat) (h66 : 66 ≤ K0)
  (hn : ∀ k, K0 ≤ k → table_Check.l1 k (upd fm f x) l l (l.length : Int) (wrap64 (i + 1)) = some p) :
  ∀ (d j : Nat), (fm f).length = j + d → ∀ k, K0 + d + 1 ≤ k → L2 k fm l i f (fm f) (j : Int) x = some (if ((fm f).drop j).any (hit f x) = true then (i, 62) else p) := by
 intro d
 induction d with
 | zero =>
  intro j hj k hk
  obtain ⟨k, rfl⟩ : ∃ m, k = m + 1 := ⟨k - 1, by omega⟩
  obtain rfl : j = (fm f).length := by omega
  rw [l2_end, hn k (by omega), List.drop_length]
  rfl
 | succ d ih =>
  intro j hj k hk
  obtain ⟨k, rfl⟩ : ∃ m, k = m + 1 := ⟨k - 1, by omega⟩
  have hjl : j < (fm f).length := by omega
  rw [l2_step l fm i f (fm f) hf x hx j hjl (hok _ (List.getElem_mem hjl)) k (by omega), ih (j + 1) (by omega) k (by omega), List.drop_eq_getElem_cons hjl, List.any_cons]
  cases hit f x (fm f)[j] with
  | true => rfl
  | false => rw [if_neg (by decide), Bool.false_or]
theorem l1_ok (l : List S25) (hl : l.length ≤ 4096) (hok : ∀ x ∈ l, Ok x) : ∀ (d i : Nat), l.length = i + d → ∀ fm : Int → List S25, (∀ f, ∀ o ∈ fm f, Ok o) → (∀ f, (fm f).length ≤ i) →
  ∃ (p : Int × Int) (K : Nat), (∀ k, K ≤ k → table_Check.l1 k fm l l (l.length : Int) (i : Int) = some p) ∧ (p.2 = 0 ↔ clash fm (l.drop i) = false) := by
 intro d
 induction d with
 | zero =>
  intro i hi fm _ _
  refine ⟨(0, 0), 1, fun k hk => ?_, ?_⟩
  ·obtain ⟨k, rfl⟩ : ∃ m, k = m + 1 := ⟨k - 1, by omega⟩
   rw [table_Check.l1, if_neg (by omega)]
  ·rw [List.drop_eq_nil_of_le (by omega)]; exact ⟨fun _ => rfl, fun _ => rfl⟩
 | succ d ih =>
  intro i hi fm h1 h2
  have hil : i < l.length := by omega
  have hx := hok _ (List.getElem_mem hil)
  obtain ⟨p, K, hp, hc⟩ := ih (i + 1) (by omega) (upd fm (fam l[i].f0) l[i]) (fun f o ho => by
   unfold upd at ho
   split at ho
   ·rcases List.mem_append.1 ho with ho | ho
    ·exact h1 _ o ho
    ·rw [List.mem_singleton.1 ho]; exact hx
   ·exact h1 f o ho) (fun f => by
   unfold upd
   split
   ·have := h2 (fam l[i].f0); rw [List.length_append, List.length_singleton]; omega
   ·have := h2 f; omega)
  have e : wrap64 ((i : Int) + 1) = ((i + 1 : Nat) : Int) := by unfold wrap64; omega
  have hlen := h2 (fam l[i].f0)
  have key := l2_ok l fm (i : Int) (fam l[i].f0) l[i] hx (by omega) (h1 _) p (max K 66) (Nat.le_max_right _ _) (fun k hk => by rw [e]; exact hp k (Nat.le_trans (Nat.le_max_left _ _) hk)) (fm (fam l[i].f0)).length 0 (by omega)
  refine ⟨if ((fm (fam l[i].f0)).drop 0).any (hit (fam l[i].f0) l[i]) = true then ((i : Int), 62) else p, max K 66 + (fm (fam l[i].f0)).length + 3, fun k hk => ?_, ?_⟩
  ·obtain ⟨k, rfl⟩ : ∃ m, k = m + 1 := ⟨k - 1, by omega⟩
   rw [table_Check.l1, if_pos (by omega), if_pos (by omega), if_pos (by omega), rd_rec l i hil, fam_prog _ k (by omega), Option.bind_some]
   exact key k (by omega)
  ·rw [List.drop_zero, List.drop_eq_getElem_cons hil, clash]
   cases (fm (fam l[i].f0)).any (hit (fam l[i].f0) l[i]) with
   | true => simp
   | false => simpa using hc
theorem l0_ok (l : List S25) (hl : l.length ≤ 4096) (hw : ∀ x ∈ l, Upto.WfRec x) (hb : ∀ x ∈ l, x.f4.length ≤ 1000000000000) : ∀ (d i : Nat), l.length = i + d → (∀ x ∈ l.take i, rv x = true) →
  ∃ (p : Int × Int) (K : Nat), (∀ k, K ≤ k → table_Check.l0 k l l (l.length : Int) (i : Int) = some p) ∧ (p.2 = 0 ↔ (∀ x ∈ l, rv x = true) ∧ clash (fun _ => []) l = false) := by
 intro d
 induction d with
 | zero =>
  intro i hi hr
  rw [List.take_of_length_le (by omega)] at hr
  obtain ⟨p, K, hp, hc⟩ := l1_ok l hl (fun x hx => rv_ok (hw x hx) (hr x hx)) l.length 0 (by omega) (fun _ => []) (fun _ o ho => by cases ho) (fun _ => Nat.zero_le _)
  refine ⟨p, K + 1, fun k hk => ?_, ?_⟩
  ·obtain ⟨k, rfl⟩ : ∃ m, k = m + 1 := ⟨k - 1, by omega⟩
   rw [table_Check.l0, if_neg (by omega)]
   exact hp k (by omega)
  ·rw [List.drop_zero] at hc
   exact ⟨fun h => ⟨hr, hc.1 h⟩, fun h => hc.2 h.2⟩
 | succ d ih =>
  intro i hi hr
  have hil : i < l.length := by omega
  have e : wrap64 ((i : Int) + 1) = ((i + 1 : Nat) : Int) := by unfold wrap64; omega
  obtain ⟨v, hv, hv0⟩ := rv_is l[i] (hb _ (List.getElem_mem hil))
  unfold RF at hv
  by_cases h0 : v = 0
  ·obtain ⟨p, K, hp, hc⟩ := ih (i + 1) (by omega) (fun x hx => by
    rw [← List.take_append_getElem hil] at hx
    rcases List.mem_append.1 hx with hx | hx
    ·exact hr x hx
    ·rw [List.mem_singleton.1 hx]; exact hv0.2 h0)
   refine ⟨p, max K (l[i].f4.length + 21) + 1, fun k hk => ?_, hc⟩
   obtain ⟨k, rfl⟩ : ∃ m, k = m + 1 := ⟨k - 1, by omega⟩
   rw [table_Check.l0, if_pos (by omega), if_pos (by omega), if_pos (by omega), rd_rec l i hil, hv k (by omega), Option.bind_some, if_pos h0, e]
   exact hp k (by omega)
  ·refine ⟨((i : Int), v), l[i].f4.length + 22, fun k hk => ?_, ?_⟩
   ·obtain ⟨k, rfl⟩ : ∃ m, k = m + 1 := ⟨k - 1, by omega⟩
    rw [table_Check.l0, if_pos (by omega), if_pos (by omega), if_pos (by omega), rd_rec l i hil, hv k (by omega), Option.bind_some, if_neg h0]
   ·exact ⟨fun h => absurd h h0, fun h => absurd (hv0.1 (h.1 _ (List.getElem_mem hil))) h0⟩
theorem check_ok (l : List S25) (hl : l.length ≤ 4096) (hw : ∀ x ∈ l, Upto.WfRec x) (hb : ∀ x ∈ l, x.f4.length ≤ 1000000000000) :
  ∃ (p : Int × Int) (K : Nat), (∀ k, K ≤ k → table_Check.f k l = some p) ∧ (p.2 = 0 ↔ (∀ x ∈ l, rv x = true) ∧ clash (fun _ => []) l = false) := by
 obtain ⟨p, K, hp, hc⟩ := l0_ok l hl hw hb l.length 0 (by omega) (fun x hx => by simp at hx)
 refine ⟨p, K, fun k hk => ?_, hc⟩
 unfold table_Check.f
 rw [if_neg (by omega)]
 exact hp k hk
end Go.Proofs.YtnoppeocbfapdaaGreatDoor.Plain
namespace Go.Proofs.YtnoppeocbfapdaaGreatDoor.Plain
open Go.RowKit Go.Proofs.YtnoppeocbfapdaaGreatDoorW.PrintWords Go.Proofs.YtnoppeocbfapdaaGreatDoorW.PrintLast Go.Proofs.YtnoppeocbfapdaaGreatDoorW.PrintMore Go.Proofs.YtnoppeocbfapdaaGreatDoor.T
set_option linter.unusedVariables false
set_option linter.unusedSimpArgs false
def Sp (x : S25) : Prop := 0 ≤ x.f1 ∧ x.f1 ≤ x.f2 ∧ x.f2 ≤ 1114111 ∧ (x.f0 = 4 → 1 ≤ x.f3 ∧ x.f3 ≤ 64)
theorem fits_64 {k : Nat} {a1 a2 a3 : Int} {l : List Int} {a5 a6 : ByteArray} {a7 : Nat} (h : table_fits.f k 4 a1 a2 a3 l a5 a6 a7 = some true) : a3 ≤ 64 := by
 have h1 := fits_shift h
 unfold table_fits.f at h
 rw [if_neg (by decide), if_pos rfl] at h
 obtain ⟨b, hn⟩ := nothing_t false false true true 4 a1 a2 a3 l a5 a6 a7
 rw [hn, Option.bind_some] at h
 cases b with
 | false => rw [if_neg (by decide)] at h; cases h
 | true =>
  rw [if_pos rfl] at h
  unfold table_shifts.f table_between.f at h
  by_cases c : a3 ≤ 64
  ·exact c
  ·rw [if_pos (show a3 ≥ 1 from h1), Option.bind_some, decide_eq_false c, if_neg (by decide), Option.bind_some] at h; cases h
theorem right_sp {x : S25} {k : Nat} (hk : 2 ≤ k) (h : RF k x = some 0) (h15 : x.f0 ≠ 15) : Sp x := by
 unfold RF table_Right.f at h
 rw [fam_prog _ k hk, Option.bind_some] at h
 have hj : ∀ b, table_Right.j0 k b x.f0 x.f1 x.f2 x.f3 x.f4 x.f5 x.f6 x.f7 = some 0 → b = true ∧ (x.f0 = 4 → 1 ≤ x.f3 ∧ x.f3 ≤ 64) := fun b hb => by
  obtain ⟨k, rfl⟩ : ∃ m, k = m + 1 := ⟨k - 1, by omega⟩
  rw [table_Right.j0, if_neg h15] at hb
  by_cases ht : b = true
  ·refine ⟨ht, fun h4 => ?_⟩
   rw [if_pos ht] at hb
   cases hf : table_fits.f k x.f0 x.f1 x.f2 x.f3 x.f4 x.f5 x.f6 x.f7 with
   | none => rw [hf] at hb; cases hb
   | some v =>
    rw [hf, Option.bind_some] at hb
    cases v with
    | false => rw [if_neg (by decide)] at hb; cases hb
    | true => rw [h4] at hf; exact ⟨fits_shift hf, fits_64 hf⟩
  ·rw [if_neg ht] at hb; cases hb
 split at h
 ·cases h
 ·split at h
  ·rename_i h1
   split at h
   ·rename_i h2
    obtain ⟨g1, g2⟩ := hj _ h
    exact ⟨h1, h2, of_decide_eq_true g1, g2⟩
   ·exact absurd (hj _ h).1 (by decide)
  ·exact absurd (hj _ h).1 (by decide)
theorem rv_sp {x : S25} (hr : rv x = true) (h15 : x.f0 ≠ 15) : Sp x := by
 obtain ⟨K, g⟩ := @of_decide_eq_true _ (_) hr
 exact right_sp (Nat.le_max_right K 2) (g (max K 2) (Nat.le_max_left _ _)) h15
theorem sv_iff (x : S25) (hs : Sp x) (c : Int) : sv x c = true ↔ x.f1 ≤ c ∧ c ≤ x.f2 ∧ (x.f0 = 4 → x.f3 ∣ c - x.f1) := by
 obtain ⟨s1, s2, s3, s4⟩ := hs
 unfold sv table_speaks.f
 by_cases c1 : c < x.f1
 ·rw [if_pos c1]; exact ⟨fun h => (by cases h), fun h => by omega⟩
 rw [if_neg c1]
 by_cases c2 : c > x.f2
 ·rw [if_pos c2]; exact ⟨fun h => (by cases h), fun h => by omega⟩
 rw [if_neg c2, if_neg (show ¬ c < 0 by omega), if_neg (show ¬ c > 1114111 by omega)]
 by_cases h4 : x.f0 = 4
 ·obtain ⟨n1, n2⟩ := s4 h4
  rw [if_pos h4, if_pos (show x.f3 > 0 by omega), wu64 (x := x.f3) (by omega) (by omega), wu64 (x := c) (by omega) (by omega), wu64 (x := x.f1) (by omega) (by omega), wu64 (x := c - x.f1) (by omega) (by omega), if_neg (show ¬ x.f3 = 0 by omega), Int.tmod_eq_emod_of_nonneg (show 0 ≤ c - x.f1 by omega)]
  show ((c - x.f1) % x.f3 == 0) = true ↔ _
  rw [beq_iff_eq, ← Int.dvd_iff_emod_eq_zero]
  exact ⟨fun h => ⟨by omega, by omega, fun _ => h⟩, fun h => h.2.2 h4⟩
 ·rw [if_neg h4]
  exact ⟨fun _ => ⟨by omega, by omega, fun h => absurd h h4⟩, fun _ => rfl⟩
theorem loop_hit (y z : S25) (hz : Upto.WfRec z) (hi : Int) (hn0 : 0 ≤ y.f3) (hn1 : y.f3 ≤ 64) : ∀ (d i : Nat) (cur : Int), d + i < 64 → 0 ≤ cur → cur + (d : Int) * y.f3 ≤ hi → hi ≤ 1114111 → sv z (cur + (d : Int) * y.f3) = true → ∀ k, d + 1 ≤ k →
  table_meet.l0 k hi cur (i : Int) y.f0 y.f1 y.f2 y.f3 y.f4 y.f5 y.f6 y.f7 z.f0 z.f1 z.f2 z.f3 z.f4 z.f5 z.f6 z.f7 = some true := by
 intro d
 induction d with
 | zero =>
  intro i cur h1 h2 h3 h4 h5 k hk
  obtain ⟨k, rfl⟩ : ∃ m, k = m + 1 := ⟨k - 1, by omega⟩
  have e : cur + ((0 : Nat) : Int) * y.f3 = cur := by rw [show ((0 : Nat) : Int) = 0 from rfl, Int.zero_mul, Int.add_zero]
  rw [e] at h3 h5
  rw [table_meet.l0, if_pos (by omega), if_neg (by omega), sv_is z hz, h5, Option.bind_some, if_pos rfl]
 | succ d ih =>
  intro i cur h1 h2 h3 h4 h5 k hk
  obtain ⟨k, rfl⟩ : ∃ m, k = m + 1 := ⟨k - 1, by omega⟩
  have e : cur + ((d + 1 : Nat) : Int) * y.f3 = (cur + y.f3) + (d : Int) * y.f3 := by rw [show ((d + 1 : Nat) : Int) = (d : Int) + 1 from rfl, Int.add_mul, Int.one_mul]; omega
  have hd : 0 ≤ (d : Int) * y.f3 := Int.mul_nonneg (by omega) hn0
  rw [e] at h3 h5
  have ew : wrap64 (cur + y.f3) = cur + y.f3 := by unfold wrap64; omega
  have ei : wrap64 ((i : Int) + 1) = ((i + 1 : Nat) : Int) := by unfold wrap64; omega
  rw [table_meet.l0, if_pos (by omega), if_neg (by omega), sv_is z hz, Option.bind_some, ew, ei]
  split
  ·rfl
  ·exact ih (i + 1) (cur + y.f3) (by omega) (by omega) h3 h4 h5 k (by omega)
theorem g_hit (y z : S25) (hy : Sp y) (hz : Sp z) (wz : Upto.WfRec z) (c : Int) (sy : sv y c = true) (sz : sv z c = true) (k : Nat) (hk : 66 ≤ k) :
  table_meet.g k y.f0 y.f1 y.f2 y.f3 y.f4 y.f5 y.f6 y.f7 z.f0 z.f1 z.f2 z.f3 z.f4 z.f5 z.f6 z.f7 = some true := by
 obtain ⟨a1, a2, a3⟩ := (sv_iff y hy c).1 sy
 obtain ⟨b1, b2, b3⟩ := (sv_iff z hz c).1 sz
 obtain ⟨k, rfl⟩ : ∃ m, k = m + 1 := ⟨k - 1, by omega⟩
 obtain ⟨lo, hlo⟩ : ∃ lo, lo = mx y.f1 z.f1 := ⟨_, rfl⟩
 obtain ⟨hi, hhi⟩ : ∃ hi, hi = mn y.f2 z.f2 := ⟨_, rfl⟩
 have l1 : y.f1 ≤ lo ∧ z.f1 ≤ lo ∧ lo ≤ c := by rw [hlo]; unfold mx; split <;> omega
 have l2 : hi ≤ y.f2 ∧ hi ≤ z.f2 ∧ c ≤ hi := by rw [hhi]; unfold mn; split <;> omega
 unfold table_meet.g
 rw [← hlo, ← hhi]
 by_cases h4 : y.f0 = 4
 ·obtain ⟨y1, y2, y3, y4⟩ := hy
  obtain ⟨n1, n2⟩ := y4 h4
  obtain ⟨m, hm⟩ := a3 h4
  rw [if_pos h4, decide_eq_false (show ¬ lo > hi by omega), table_meet.j0, if_neg (by decide), if_neg (show ¬ y.f3 = 0 by omega)]
  obtain ⟨D, hD⟩ : ∃ D, D = lo - y.f1 + y.f3 - 1 := ⟨_, rfl⟩
  obtain ⟨Q, hQ⟩ : ∃ Q, Q = D / y.f3 := ⟨_, rfl⟩
  obtain ⟨P, hP⟩ : ∃ P, P = Q * y.f3 := ⟨_, rfl⟩
  have p1 : P ≤ D := by rw [hP, hQ]; exact Int.ediv_mul_le D (by omega)
  have p2 : D < P + y.f3 := by
   have := Int.lt_ediv_add_one_mul_self D (show 0 < y.f3 by omega)
   rw [Int.add_mul, Int.one_mul] at this
   rw [hP, hQ]; exact this
  have q0 : 0 ≤ Q := by rw [hQ]; exact Int.ediv_nonneg (by omega) (by omega)
  have p0 : 0 ≤ P := by rw [hP]; exact Int.mul_nonneg q0 (by omega)
  have qD : Q ≤ D := by rw [hQ]; exact Int.ediv_le_self _ (by omega)
  have e0 : wrap64 (wrap64 (wrap64 (lo - y.f1) + y.f3) - 1) = D := by unfold wrap64; omega
  have e1 : Int.tdiv D y.f3 = Q := by rw [hQ]; exact Int.tdiv_eq_ediv_of_nonneg (by omega)
  have e2 : wrap64 Q = Q := by unfold wrap64; omega
  have e3 : wrap64 (y.f1 + wrap64 P) = y.f1 + P := by unfold wrap64; omega
  rw [e0, e1, e2, ← hP, e3]
  have qm : Q ≤ m := by
   have : D < (m + 1) * y.f3 := by rw [Int.add_mul, Int.one_mul, Int.mul_comm m, ← hm]; omega
   have := Int.ediv_lt_of_lt_mul (show 0 < y.f3 by omega) this
   rw [← hQ] at this
   omega
  obtain ⟨T, hT⟩ : ∃ T : Nat, m = Q + T := ⟨(m - Q).toNat, by omega⟩
  have ec : c = (y.f1 + P) + (T : Int) * y.f3 := by
   have : c - y.f1 = Q * y.f3 + (T : Int) * y.f3 := by rw [hm, hT, Int.mul_comm, Int.add_mul]
   omega
  have go : ∀ t : Nat, t < 64 → t ≤ T → (z.f0 = 4 → z.f3 ∣ (T : Int) - t) → table_meet.l0 k hi (y.f1 + P) 0 y.f0 y.f1 y.f2 y.f3 y.f4 y.f5 y.f6 y.f7 z.f0 z.f1 z.f2 z.f3 z.f4 z.f5 z.f6 z.f7 = some true := fun t ht htT hd => by
   have t0 : 0 ≤ (t : Int) * y.f3 := Int.mul_nonneg (by omega) (by omega)
   have t1 : (t : Int) * y.f3 ≤ (T : Int) * y.f3 := Int.mul_le_mul_of_nonneg_right (by omega) (by omega)
   refine loop_hit y z wz hi (by omega) n2 t 0 (y.f1 + P) (by omega) (by omega) (by omega) (by omega) ((sv_iff z hz _).2 ⟨by omega, by omega, fun h => ?_⟩) k (by omega)
   have := Int.dvd_sub (b3 h) (Int.dvd_trans (hd h) (Int.dvd_mul_right _ y.f3))
   rw [Int.sub_mul] at this
   rw [show y.f1 + P + (t : Int) * y.f3 - z.f1 = c - z.f1 - ((T : Int) * y.f3 - (t : Int) * y.f3) by omega]
   exact this
  by_cases z4 : z.f0 = 4
  ·obtain ⟨m1, m2⟩ := hz.2.2.2 z4
   obtain ⟨M, hM⟩ : ∃ M : Nat, z.f3 = M := ⟨z.f3.toNat, by omega⟩
   have hM0 : 0 < M := by omega
   refine go (T % M) (Nat.lt_of_lt_of_le (Nat.mod_lt _ hM0) (by omega)) (Nat.mod_le _ _) fun _ => ⟨((T / M : Nat) : Int), ?_⟩
   have := Nat.div_add_mod T M
   rw [hM]
   have h2 : (T : Int) = (M : Int) * ((T / M : Nat) : Int) + ((T % M : Nat) : Int) := by exact_mod_cast this.symm
   omega
  ·exact go 0 (by omega) (by omega) fun h => absurd h z4
 ·rw [if_neg h4, table_meet.j0, if_pos rfl, decide_eq_true (show lo ≤ hi by omega)]
theorem mv_hit {o x : S25} (ho : Ok o) (hx : Ok x) (so : Sp o) (sx : Sp x) {c : Int} (h1 : sv o c = true) (h2 : sv x c = true) : mv o x = true := by
 have h := mv_is ho hx 66 (Nat.le_refl _)
 have g : MF 66 o x = some true := by
  unfold MF table_meet.f
  split
  ·exact g_hit o x so sx hx.1 c h1 h2 66 (Nat.le_refl _)
  ·exact g_hit x o sx so ho.1 c h2 h1 66 (Nat.le_refl _)
 rw [h] at g
 exact Option.some.inj g
theorem clash_pair : ∀ (l : List S25) (fm : Int → List S25), clash fm l = false → (∀ x ∈ l, ∀ o ∈ fm (fam x.f0), hit (fam x.f0) x o = false) ∧ l.Pairwise (fun o x => fam o.f0 = fam x.f0 → hit (fam x.f0) x o = false) := by
 intro l
 induction l with
 | nil => intro fm _; exact ⟨by simp, List.Pairwise.nil⟩
 | cons x l ih =>
  intro fm h
  rw [clash] at h
  split at h
  ·cases h
  ·rename_i ha
   obtain ⟨h1, h2⟩ := ih _ h
   have ha' : ∀ o ∈ fm (fam x.f0), hit (fam x.f0) x o = false := fun o ho => by
    cases hh : hit (fam x.f0) x o with
    | false => rfl
    | true => exact absurd (List.any_eq_true.2 ⟨o, ho, hh⟩) ha
   refine ⟨fun y hy o ho => ?_, List.pairwise_cons.2 ⟨fun y hy he => ?_, h2⟩⟩
   ·rcases List.mem_cons.1 hy with rfl | hy
    ·exact ha' o ho
    ·refine h1 y hy o ?_
     unfold upd
     split
     ·rename_i e; rw [e] at ho; exact List.mem_append_left _ ho
     ·exact ho
   ·refine h1 y hy x ?_
    unfold upd
    rw [if_pos he.symm]
    exact List.mem_append_right _ (List.mem_singleton.2 rfl)
theorem only_one (l : List S25) (hw : ∀ x ∈ l, Upto.WfRec x) (hr : ∀ x ∈ l, rv x = true) (hc : clash (fun _ => []) l = false) (f c : Int) (h9 : f ≤ 9) (i j : Nat) (hij : i < j) (hj : j < l.length) (h1 : sp f c (l[i]'(by omega)) = true) (h2 : sp f c l[j] = true) : False := by
 have hi : i < l.length := by omega
 have := List.pairwise_iff_getElem.1 (clash_pair l _ hc).2 i j hi hj hij
 unfold sp at h1 h2
 rw [Bool.and_eq_true, decide_eq_true_eq] at h1 h2
 have hh := this (h1.1.trans h2.1.symm)
 unfold hit at hh
 rw [h2.1, if_pos (by omega)] at hh
 have n15 : ∀ x : S25, fam x.f0 = f → x.f0 ≠ 15 := fun x hx h => by rw [h, fam15] at hx; omega
 have mi := List.getElem_mem hi
 have mj := List.getElem_mem hj
 rw [mv_hit (rv_ok (hw _ mi) (hr _ mi)) (rv_ok (hw _ mj) (hr _ mj)) (rv_sp (hr _ mi) (n15 _ h1.1)) (rv_sp (hr _ mj) (n15 _ h2.1)) h1.2 h2.2] at hh
 cases hh
end Go.Proofs.YtnoppeocbfapdaaGreatDoor.Plain
namespace Go.Proofs.YtnoppeocbfapdaaGreatDoor.Plain
open Go.RowKit Go.Proofs.YtnoppeocbfapdaaGreatDoorW.PrintWords Go.Proofs.YtnoppeocbfapdaaGreatDoorW.PrintLast Go.Proofs.YtnoppeocbfapdaaGreatDoorW.PrintMore Go.Proofs.YtnoppeocbfapdaaGreatDoor.T
set_option linter.unusedVariables false
set_option linter.unusedSimpArgs false
theorem fx_rev (f c : Int) (l : List S25) (h1 : ∀ i j, (hij : i < j) → (hj : j < l.length) → sp f c (l[i]'(by omega)) = true → sp f c l[j] = true → False) :
  (decide (fx f c l < 0) = decide (fx f c l.reverse < 0)) ∧ (0 ≤ fx f c l → fx f c l = (l.length : Int) - 1 - fx f c l.reverse) := by
 unfold fx
 cases h : l.findIdx? (sp f c) with
 | none =>
  have hn := List.findIdx?_eq_none_iff.1 h
  have : l.reverse.findIdx? (sp f c) = none := List.findIdx?_eq_none_iff.2 fun x hx => hn x (List.mem_reverse.1 hx)
  rw [this]
  exact ⟨rfl, fun h => by dsimp only at h; omega⟩
 | some i =>
  obtain ⟨hi, hp, _⟩ := List.findIdx?_eq_some_iff_getElem.1 h
  cases h2 : l.reverse.findIdx? (sp f c) with
  | none =>
   have := List.findIdx?_eq_none_iff.1 h2 l[i] (List.mem_reverse.2 (List.getElem_mem hi))
   rw [hp] at this; cases this
  | some j =>
   obtain ⟨hj, hq, _⟩ := List.findIdx?_eq_some_iff_getElem.1 h2
   rw [List.getElem_reverse] at hq
   rw [List.length_reverse] at hj
   have e : i = l.length - 1 - j := by
    rcases Nat.lt_trichotomy i (l.length - 1 - j) with h3 | h3 | h3
    ·exact (h1 _ _ h3 (by omega) hp hq).elim
    ·exact h3
    ·exact (h1 _ _ h3 hi hq hp).elim
   refine ⟨?_, fun _ => ?_⟩
   ·dsimp only
    rw [decide_eq_false (by omega), decide_eq_false (by omega)]
   ·dsimp only; omega
theorem told_o : endonymlaw6_told.f = some true := rfl
section
variable (l : List S25) (cs : List Int) (hw : ∀ x ∈ l, Upto.WfRec x) (hc : ∀ c ∈ cs, (Lit.int .i32 c).wf = true) (hcl : cs.length ≤ 1048576) (hl : l.length ≤ 60)
include hl
theorem once_back (k : Nat) : ∀ i : Nat, i ≤ l.length → endonymlaw6_TableOnce.l0 (k + i + 1) cs l ((l.drop i).reverse) ((i : Int) - 1) = endonymlaw6_TableOnce.l1 k cs l l.reverse 0 := by
 intro i
 induction i with
 | zero =>
  intro _
  rw [endonymlaw6_TableOnce.l0, if_neg (by omega), List.drop_zero]
 | succ i ih =>
  intro hi
  have hil : i < l.length := by omega
  have e : wrap64 (((i + 1 : Nat) : Int) - 1 - 1) = (i : Int) - 1 := by unfold wrap64; omega
  have e2 : (((i + 1 : Nat) : Int) - 1) = (i : Int) := by omega
  rw [show k + (i + 1) + 1 = (k + i + 1) + 1 by omega, endonymlaw6_TableOnce.l0, if_pos (by omega), if_pos (by omega), if_pos (by omega), if_pos (by rw [List.length_reverse, List.length_drop]; omega), e, e2, rd_rec l i hil, show (l.drop (i + 1)).reverse ++ [(⟨l[i].f0, l[i].f1, l[i].f2, l[i].f3, l[i].f4, l[i].f5, l[i].f6, l[i].f7⟩ : S25)] = (l.drop i).reverse by rw [List.drop_eq_getElem_cons hil, List.reverse_cons]]
  exact ih (by omega)
include hw hc hcl
variable (hone : ∀ f c : Int, f ≤ 9 → ∀ i j, (hij : i < j) → (hj : j < l.length) → sp f c (l[i]'(by omega)) = true → sp f c l[j] = true → False)
include hone
theorem once_fam (i : Nat) (hi : i < cs.length) : ∀ (d f : Nat), 10 = f + d → 1 ≤ f → ∀ k, 80 ≤ k → endonymlaw6_TableOnce.l2 (k + d + 1) cs l l.reverse (i : Int) (f : Int) = endonymlaw6_TableOnce.l1 k cs l l.reverse ((i + 1 : Nat) : Int) := by
 intro d
 induction d with
 | zero =>
  intro f h1 h2 k hk
  have e : wrap64 ((i : Int) + 1) = ((i + 1 : Nat) : Int) := by unfold wrap64; omega
  rw [endonymlaw6_TableOnce.l2, if_neg (by omega), e]
 | succ d ih =>
  intro f h1 h2 k hk
  have e : wrap64 ((f : Int) + 1) = ((f + 1 : Nat) : Int) := by unfold wrap64; omega
  have hci := wf_i32 (hc _ (List.getElem_mem hi))
  have hwc : wrap64 cs[i] = cs[i] := by unfold wrap64; omega
  have hwm : ∀ x ∈ l.reverse, Upto.WfRec x := fun x hx => hw x (List.mem_reverse.1 hx)
  rw [show k + (d + 1) + 1 = (k + d + 1) + 1 by omega, endonymlaw6_TableOnce.l2, if_pos (by omega), if_pos (by omega), if_pos (by omega), rd_nat cs i hi, find_is l hw (f : Int) cs[i] (by omega) (by omega) hwc (by omega) _ (by omega), Option.bind_some, find_is l.reverse hwm (f : Int) cs[i] (by omega) (by omega) hwc (by rw [List.length_reverse]; omega) _ (by rw [List.length_reverse]; omega), Option.bind_some, e, ih (f + 1) (by omega) (by omega) k hk]
  obtain ⟨g1, g2⟩ := fx_rev (f : Int) cs[i] l (hone (f : Int) cs[i] (by omega))
  rw [g1, if_neg (by simp)]
  by_cases h0 : 0 ≤ fx (f : Int) cs[i] l
  ·have g3 := g2 h0
   have hb : fx (f : Int) cs[i] l < 1000 := by
    unfold fx at h0 ⊢
    cases hh : l.findIdx? (sp (f : Int) cs[i]) with
    | none => dsimp only; omega
    | some j => obtain ⟨hj, _⟩ := List.findIdx?_eq_some_iff_getElem.1 hh; dsimp only; omega
   rw [if_pos h0, if_pos (by unfold wrap64; omega)]
  ·rw [if_neg h0]
theorem once_loop : ∀ (d i : Nat), cs.length = i + d → ∀ k, 12 * d + 100 ≤ k → endonymlaw6_TableOnce.l1 k cs l l.reverse (i : Int) = some true := by
 have hend : ∀ k (i : Int), 2 ≤ k → endonymlaw6_TableOnce.j2 k cs l l.reverse i false = some true := fun k i hk => by
  obtain ⟨k, rfl⟩ : ∃ m, k = m + 1 := ⟨k - 1, by omega⟩
  rw [endonymlaw6_TableOnce.j2, if_neg (by decide), told_o]; rfl
 intro d
 induction d with
 | zero =>
  intro i hi k hk
  obtain ⟨k, rfl⟩ : ∃ m, k = m + 1 := ⟨k - 1, by omega⟩
  rw [endonymlaw6_TableOnce.l1, if_neg (by omega)]
  exact hend k _ (by omega)
 | succ d ih =>
  intro i hi k hk
  obtain ⟨k, rfl⟩ : ∃ m, k = m + 12 := ⟨k - 12, by omega⟩
  rw [endonymlaw6_TableOnce.l1, if_pos (by omega)]
  by_cases h40 : (i : Int) < 40
  ·rw [decide_eq_true h40, endonymlaw6_TableOnce.j2, if_pos rfl]
   have := once_fam l cs hw hc hcl hl hone i (by omega) 9 1 (by omega) (by omega) k (by omega)
   rw [show ((1 : Nat) : Int) = 1 from rfl] at this
   rw [show k + 10 = k + 9 + 1 by omega, this]
   exact ih (i + 1) (by omega) k (by omega)
  ·rw [decide_eq_false h40]
   exact hend _ _ (by omega)
end
theorem law_once (l : List S25) (cs : List Int) (hw : ∀ x ∈ l, Upto.WfRec x) (hc : ∀ c ∈ cs, (Lit.int .i32 c).wf = true)
  (hb : (l.map fun x => x.f4.length + x.f5.size + x.f6.size + 1).sum + cs.length ≤ 1048576) : ∃ k, endonymlaw6_TableOnce.f k l cs = some true := by
 have hs : ∀ x ∈ l, x.f4.length ≤ 1048576 := fun x hx => by have := sum_le l x hx; omega
 obtain ⟨m, hm⟩ : ∃ m, m = l.take 60 := ⟨_, rfl⟩
 have hml : m.length ≤ 60 := by rw [hm, List.length_take]; omega
 have hmem : ∀ x ∈ m, x ∈ l := fun x hx => by rw [hm] at hx; exact List.mem_of_mem_take hx
 obtain ⟨p, K1, hp, hpe⟩ := check_ok m (by omega) (fun x hx => hw x (hmem x hx)) (fun x hx => by have := hs x (hmem x hx); omega)
 refine ⟨K1 + 12 * cs.length + 2000 + m.length + 1, ?_⟩
 unfold endonymlaw6_TableOnce.f
 have f1 := few_ok l 60 (K1 + 12 * cs.length + 2000 + m.length + 1) (by omega) (fun x hx => by have := hs x hx; omega) (by omega)
 rw [show ((60 : Nat) : Int) = 60 from rfl, ← hm] at f1
 rw [f1, Option.bind_some, hp _ (by omega), Option.bind_some]
 by_cases h0 : p.2 = 0
 ·obtain ⟨hr, hcf⟩ := hpe.1 h0
  have := once_back m cs hml (K1 + 12 * cs.length + 2000) m.length (Nat.le_refl _)
  rw [List.drop_length, List.reverse_nil] at this
  rw [if_pos h0, show wrap64 ((m.length : Int) - 1) = (m.length : Int) - 1 by unfold wrap64; omega, this]
  exact once_loop m cs (fun x hx => hw x (hmem x hx)) hc (by omega) hml (fun f c h9 i j hij hj => only_one m (fun x hx => hw x (hmem x hx)) hr hcf f c h9 i j hij hj) cs.length 0 (by omega) _ (by omega)
 ·rw [if_neg h0, told_o]; rfl
end Go.Proofs.YtnoppeocbfapdaaGreatDoor.Plain
