import Derived.Test.YtnoppeocbfapdaaGreatDoorBaseP
import Derived.Test.YtnoppeocbfapdaaGreatDoorUptoRec
import Derived.Test.YtnoppeocbfapdaaGreatDoorTx1
import Derived.Test.YtnoppeocbfapdaaGreatDoorTx2
import Derived.Test.YtnoppeocbfapdaaGreatDoorTx3
import Derived.Test.YtnoppeocbfapdaaGreatDoorTx4
import Derived.Test.YtnoppeocbfapdaaGreatDoorTx5
import Derived.Test.YtnoppeocbfapdaaGreatDoorTx6
import Derived.Test.YtnoppeocbfapdaaGreatDoorTx16
import Derived.Test.YtnoppeocbfapdaaGreatDoorTx7
import Derived.Test.YtnoppeocbfapdaaGreatDoorTx17
namespace Go.Proofs.YtnoppeocbfapdaaGreatDoor.Plain
open Go.RowKit Go.Proofs.YtnoppeocbfapdaaGreatDoorW.PrintWords Go.Proofs.YtnoppeocbfapdaaGreatDoorW.PrintLast Go.Proofs.YtnoppeocbfapdaaGreatDoorW.PrintMore Go.Proofs.YtnoppeocbfapdaaGreatDoor.T
set_option linter.unusedVariables false
set_option linter.unusedSimpArgs false
theorem wf_i64 {x : Int} (h : (Lit.int .i64 x).wf = true) : -9223372036854775808 ≤ x ∧ x ≤ 9223372036854775807 := by
 simpa only [Lit.wf, Bool.and_eq_true, decide_eq_true_eq, show IntKind.i64.min = -9223372036854775808 from by decide, show IntKind.i64.max = 9223372036854775807 from by decide] using h
theorem wf_i32 {x : Int} (h : (Lit.int .i32 x).wf = true) : -2147483648 ≤ x ∧ x ≤ 2147483647 := by
 simpa only [Lit.wf, Bool.and_eq_true, decide_eq_true_eq, show IntKind.i32.min = -2147483648 from by decide, show IntKind.i32.max = 2147483647 from by decide] using h
theorem rd_rec (l : List S25) (i : Nat) (h : i < l.length) : rd_T25 l (i : Int) = l[i] := by
 unfold rd_T25
 rw [Int.toNat_natCast, List.getD_eq_getElem?_getD, List.getElem?_eq_getElem h]; rfl
theorem copied_ok : ∀ (d : Nat) (l acc : List S25) (i k : Nat), l.length = i + d → l.length ≤ 1000000 → acc.length = i → (∀ x ∈ l, x.f4.length < 1000000000000) → d < k → endonymref6_Copied.l0 k l acc (i : Int) = some (acc ++ l.drop i) := by
 intro d
 induction d with
 | zero =>
  intro l acc i k hl hb ha hs hk
  obtain ⟨k, rfl⟩ : ∃ m, k = m + 1 := ⟨k - 1, by omega⟩
  rw [endonymref6_Copied.l0, if_neg (by omega), List.drop_eq_nil_of_le (by omega), List.append_nil]
 | succ d ih =>
  intro l acc i k hl hb ha hs hk
  obtain ⟨k, rfl⟩ : ∃ m, k = m + 1 := ⟨k - 1, by omega⟩
  have hil : i < l.length := by omega
  have hx := hs l[i] (List.getElem_mem hil)
  rw [endonymref6_Copied.l0, if_pos (by omega), if_pos (by omega), rd_rec l i hil, if_pos (by simp; omega), if_pos (by omega)]
  rw [show wrap64 ((i : Int) + 1) = ((i + 1 : Nat) : Int) by unfold wrap64; omega]
  rw [ih l _ (i + 1) k (by omega) hb (by simp [ha]) hs (by omega), List.append_assoc]
  congr 2
  rw [List.drop_eq_getElem_cons hil]
  rfl
theorem few_ok (l : List S25) (m k : Nat) (hm : m ≤ 1000) (hs : ∀ x ∈ l, x.f4.length < 1000000000000) (hk : m < k) : endonymlaw6_few.f k l (m : Int) = some (l.take m) := by
 unfold endonymlaw6_few.f
 rw [if_pos ⟨hs, by omega⟩]
 have e : mn (l.length : Int) (m : Int) = ((min l.length m : Nat) : Int) := by unfold mn; omega
 rw [e, if_pos (by omega), if_pos (by omega), Int.toNat_natCast]
 unfold endonymref6_Copied.f
 have hl : (l.take (min l.length m)).length = min l.length m := by rw [List.length_take]; omega
 have := copied_ok (min l.length m) (l.take (min l.length m)) [] 0 k (by rw [hl]; omega) (by rw [hl]; omega) rfl (fun x hx => hs x (List.mem_of_mem_take hx)) (by omega)
 rw [show ((0 : Nat) : Int) = 0 from rfl] at this
 rw [this, Option.bind_some, List.drop_zero, List.nil_append]
 congr 1
 by_cases h : m ≤ l.length
 ·rw [Nat.min_eq_right h]
 ·rw [Nat.min_eq_left (by omega), List.take_of_length_le (Nat.le_refl _), List.take_of_length_le (by omega)]
theorem sum_le (l : List S25) (x : S25) (hx : x ∈ l) : x.f4.length ≤ (l.map fun x => x.f4.length + x.f5.size + x.f6.size + 1).sum := by
 induction l with
 | nil => simp at hx
 | cons y l ih =>
  rw [List.map_cons, List.sum_cons]
  rcases List.mem_cons.1 hx with rfl | h
  ·omega
  ·have := ih h; omega
end Go.Proofs.YtnoppeocbfapdaaGreatDoor.Plain
namespace Go.Proofs.YtnoppeocbfapdaaGreatDoor.Plain
open Go.RowKit Go.Proofs.YtnoppeocbfapdaaGreatDoorW.PrintWords Go.Proofs.YtnoppeocbfapdaaGreatDoorW.PrintLast Go.Proofs.YtnoppeocbfapdaaGreatDoorW.PrintMore Go.Proofs.YtnoppeocbfapdaaGreatDoor.T
set_option linter.unusedVariables false
set_option linter.unusedSimpArgs false
def fam (a : Int) : Int := if 1 ≤ a ∧ a ≤ 5 then 1 else if a = 6 then 2 else if a = 7 ∨ a = 8 then 3 else if 9 ≤ a ∧ a ≤ 15 then a - 5 else 0
theorem kinds (a : Int) : (a < 1 ∨ 15 < a) ∨ a = 1 ∨ a = 2 ∨ a = 3 ∨ a = 4 ∨ a = 5 ∨ a = 6 ∨ a = 7 ∨ a = 8 ∨ a = 9 ∨ a = 10 ∨ a = 11 ∨ a = 12 ∨ a = 13 ∨ a = 14 ∨ a = 15 := by omega
theorem fam_prog (a : Int) (k : Nat) (hk : 2 ≤ k) : table_Family.f k a = some (fam a) := by
 obtain ⟨k, rfl⟩ : ∃ m, k = m + 2 := ⟨k - 2, by omega⟩
 rcases kinds a with h | rfl | rfl | rfl | rfl | rfl | rfl | rfl | rfl | rfl | rfl | rfl | rfl | rfl | rfl | rfl
 ·have e : fam a = 0 := by unfold fam; omega
  have h5 : (a == 5) = false := by rw [beq_eq_false_iff_ne]; omega
  have h8 : (a == 8) = false := by rw [beq_eq_false_iff_ne]; omega
  unfold table_Family.f
  rw [if_neg (by omega), if_neg (by omega), if_neg (by omega), if_neg (by omega), h5, table_Family.j0, if_neg (by decide), if_neg (by omega), if_neg (by omega), h8, table_Family.j1, if_neg (by decide), if_neg (by omega), if_neg (by omega), if_neg (by omega), if_neg (by omega), if_neg (by omega), if_neg (by omega), if_neg (by omega), e]
 all_goals first | rfl | (simp [table_Family.f, table_Family.j0, table_Family.j1, fam, wrap64])
end Go.Proofs.YtnoppeocbfapdaaGreatDoor.Plain
namespace Go.Proofs.YtnoppeocbfapdaaGreatDoor.Plain
open Go.RowKit Go.Proofs.YtnoppeocbfapdaaGreatDoorW.PrintWords Go.Proofs.YtnoppeocbfapdaaGreatDoorW.PrintLast Go.Proofs.YtnoppeocbfapdaaGreatDoorW.PrintMore Go.Proofs.YtnoppeocbfapdaaGreatDoor.T
set_option linter.unusedVariables false
set_option linter.unusedSimpArgs false
def Tk {α : Type} (F : Nat → Option α) (M : Nat) : Prop := ∃ v, ∀ k, M ≤ k → F k = some v
theorem Tk.pure {α : Type} (v : α) (M : Nat) : Tk (fun _ => some v) M := ⟨v, fun _ _ => rfl⟩
theorem Tk.le {α : Type} {F : Nat → Option α} {M M' : Nat} (h : Tk F M) (hm : M ≤ M') : Tk F M' := by
 obtain ⟨v, h⟩ := h
 exact ⟨v, fun k hk => h k (Nat.le_trans hm hk)⟩
theorem Tk.bind {α β : Type} {F : Nat → Option α} {G : α → Nat → Option β} {M : Nat} (hF : Tk F M) (hG : ∀ v, Tk (G v) M) : Tk (fun k => (F k).bind fun v => G v k) M := by
 obtain ⟨v, h⟩ := hF
 obtain ⟨u, g⟩ := hG v
 exact ⟨u, fun k hk => by show (F k).bind _ = _; rw [h k hk, Option.bind_some]; exact g k hk⟩
theorem Tk.ite {α : Type} {F G : Nat → Option α} {c : Prop} [Decidable c] {M : Nat} (hF : Tk F M) (hG : Tk G M) : Tk (fun k => if c then F k else G k) M := by
 by_cases h : c
 ·obtain ⟨v, g⟩ := hF; exact ⟨v, fun k hk => by show (if c then _ else _) = _; rw [if_pos h]; exact g k hk⟩
 ·obtain ⟨v, g⟩ := hG; exact ⟨v, fun k hk => by show (if c then _ else _) = _; rw [if_neg h]; exact g k hk⟩
theorem Tk.of {α : Type} {F : Option α} (h : ∃ v, F = some v) (M : Nat) : Tk (fun _ => F) M := h.imp fun _ h _ _ => h
theorem Tk.succ {α : Type} {F G : Nat → Option α} {M : Nat} (h : Tk G M) (e : ∀ k, F (k + 1) = G k) : Tk F (M + 1) := by
 obtain ⟨v, h⟩ := h
 refine ⟨v, fun k hk => ?_⟩
 obtain ⟨k, rfl⟩ : ∃ m, k = m + 1 := ⟨k - 1, by omega⟩
 rw [e]; exact h k (by omega)
theorem nothing_t (s0 s1 s2 s3 : Bool) (a0 a1 a2 a3 : Int) (l : List Int) (a5 a6 : ByteArray) (a7 : Nat) : ∃ b, table_spare_nothing.f s0 s1 s2 s3 a0 a1 a2 a3 l a5 a6 a7 = some b := by
 unfold table_spare_nothing.f api_Bits.f
 simp only [Option.bind_some]
 repeat' split
 all_goals exact ⟨_, rfl⟩
theorem valid_t (c : Int) : ∃ b, scalar_Valid.f c = some b := by
 unfold scalar_Valid.f
 repeat' split
 all_goals exact ⟨_, rfl⟩
theorem sound_loop (l : List Int) (hb : l.length ≤ 1000000000000) : ∀ (d i : Nat), l.length = i + d → Tk (fun k => scalar_Sound.l0 k l (l.length : Int) (i : Int)) (d + 1) := by
 intro d
 induction d with
 | zero => intro i hl; exact Tk.succ (Tk.pure true 0) fun k => by rw [scalar_Sound.l0, if_neg (by omega)]
 | succ d ih =>
  intro i hl
  obtain ⟨b, hv⟩ := valid_t (rd l (i : Int))
  have e : wrap64 ((i : Int) + 1) = ((i + 1 : Nat) : Int) := by unfold wrap64; omega
  cases b with
  | true => exact Tk.succ (ih (i + 1) (by omega)) fun k => by rw [scalar_Sound.l0, if_pos (by omega), if_pos (by omega), if_pos (by omega), hv, Option.bind_some, if_pos rfl, e]
  | false => exact Tk.succ (Tk.pure false _) fun k => by rw [scalar_Sound.l0, if_pos (by omega), if_pos (by omega), if_pos (by omega), hv, Option.bind_some, if_neg (by decide)]
theorem sound_t (a0 a1 a2 a3 : Int) (l : List Int) (a5 a6 : ByteArray) (a7 : Nat) (x y : Int) (hb : l.length ≤ 1000000000000) : Tk (fun k => table_sound.f k a0 a1 a2 a3 l a5 a6 a7 x y) (l.length + 20) := by
 unfold table_sound.f scalar_Sound.f
 exact Tk.ite (Tk.ite (Tk.bind ((sound_loop l hb l.length 0 (by omega)).le (by omega)) fun v => Tk.pure v _) (Tk.pure _ _)) (Tk.pure _ _)
theorem name_loop (s : ByteArray) (hs : s.size = 4) : ∀ (d i : Nat), 4 = i + d → Tk (fun k => scan_Name.l0 k s (i : Int)) (d + 1) := by
 intro d
 induction d with
 | zero => intro i hl; exact Tk.succ (Tk.pure true 0) fun k => by rw [scan_Name.l0, if_neg (by omega)]
 | succ d ih =>
  intro i hl
  have e : wrap64 ((i : Int) + 1) = ((i + 1 : Nat) : Int) := by unfold wrap64; omega
  refine Tk.succ (G := fun k => if bt s (i : Int) < 97 then some false else if bt s (i : Int) > 122 then some false else scan_Name.l0 k s ((i + 1 : Nat) : Int)) (Tk.ite (Tk.pure _ _) (Tk.ite (Tk.pure _ _) (ih (i + 1) (by omega)))) fun k => by rw [scan_Name.l0, if_pos (by omega), if_pos (by omega), if_pos (by omega), e]
theorem name_t (s : ByteArray) (M : Nat) (hM : 20 ≤ M) : Tk (fun k => scan_Name.f k s) M := by
 refine Tk.le (M := 6) ?_ (by omega)
 unfold scan_Name.f
 have hf : Tk (fun k => scan_Name.j0 k s true) 6 := (Tk.succ (Tk.pure false 0) fun k => by rw [scan_Name.j0, if_pos rfl]).le (by omega)
 by_cases h4 : (s.size : Int) = 4
 ·have hn : Tk (fun k => scan_Name.j0 k s false) 6 := (Tk.succ (name_loop s (by omega) 3 1 (by omega)) fun k => by rw [scan_Name.j0, if_neg (by decide)]; rfl).le (by omega)
  have key : ∀ b, Tk (fun k => scan_Name.j0 k s b) 6 := fun b => by cases b; exact hn; exact hf
  simp only [if_pos h4, if_pos (show 0 < (s.size : Int) by omega)]
  exact Tk.ite hf (key _)
 ·simp only [if_neg h4]; exact hf
theorem ite_t {α : Type} {c : Prop} [Decidable c] {F G : Option α} (hF : ∃ v, F = some v) (hG : ∃ v, G = some v) : ∃ v, (if c then F else G) = some v := by
 by_cases h : c
 ·rw [if_pos h]; exact hF
 ·rw [if_neg h]; exact hG
theorem bind_t {α β : Type} {F : Option α} {G : α → Option β} (hF : ∃ v, F = some v) (hG : ∀ v, ∃ u, G v = some u) : ∃ u, F.bind G = some u := by
 obtain ⟨v, rfl⟩ := hF
 exact hG v
theorem bits_t (a : Nat) : ∃ v, api_Bits.f a = some v := ⟨_, rfl⟩
theorem rank_t (a : Nat) : ∃ v, weigh_rank.f a = some v := by
 unfold weigh_rank.f
 exact ite_t ⟨_, rfl⟩ (bind_t (bits_t a) fun v => ite_t ⟨_, rfl⟩ ⟨_, rfl⟩)
theorem weighs_t (a0 a1 a2 a3 : Int) (l : List Int) (a5 a6 : ByteArray) (a7 : Nat) : ∃ v, table_weighs.f a0 a1 a2 a3 l a5 a6 a7 = some v := by
 unfold table_weighs.f weigh_Order.f
 exact ite_t (bind_t (bind_t (rank_t a7) fun u => bind_t (rank_t 0) fun v => ite_t ⟨_, rfl⟩ (ite_t ⟨_, rfl⟩ ⟨_, rfl⟩)) fun v => ⟨_, rfl⟩) ⟨_, rfl⟩
theorem one_t (a0 a1 a2 a3 : Int) (l : List Int) (a5 a6 : ByteArray) (a7 : Nat) : ∃ v, table_one.f a0 a1 a2 a3 l a5 a6 a7 = some v := by
 unfold table_one.f
 obtain ⟨u, hu⟩ := valid_t (wrap32 a1)
 rw [hu, Option.bind_some]
 split
 all_goals exact ⟨_, rfl⟩
theorem between_t (a0 a1 a2 a3 : Int) (l : List Int) (a5 a6 : ByteArray) (a7 : Nat) (x y : Int) : ∃ v, table_between.f a0 a1 a2 a3 l a5 a6 a7 x y = some v := by
 unfold table_between.f
 split
 all_goals exact ⟨_, rfl⟩
theorem shifts_t (a0 a1 a2 a3 : Int) (l : List Int) (a5 a6 : ByteArray) (a7 : Nat) : ∃ v, table_shifts.f a0 a1 a2 a3 l a5 a6 a7 = some v := by
 unfold table_shifts.f
 obtain ⟨b, hb⟩ := between_t a0 a1 a2 a3 l a5 a6 a7 1 64
 obtain ⟨u, hu⟩ := valid_t (rd l 0)
 obtain ⟨v, hv⟩ := valid_t (wrap32 (rd l 0 + wrap32 (wrap64 (a2 - a1))))
 rw [hb, Option.bind_some, hu, Option.bind_some, hv, Option.bind_some]
 repeat' split
 all_goals first | exact ⟨_, rfl⟩ | omega
theorem fits_t (a0 a1 a2 a3 : Int) (l : List Int) (a5 a6 : ByteArray) (a7 : Nat) (hb : l.length ≤ 1000000000000) : Tk (fun k => table_fits.f k a0 a1 a2 a3 l a5 a6 a7) (l.length + 20) := by
 unfold table_fits.f
 repeat' first | exact Tk.pure _ _ | exact sound_t _ _ _ _ _ _ _ _ _ _ hb | exact name_t _ _ (by omega) | exact Tk.of (nothing_t _ _ _ _ _ _ _ _ _ _ _ _) _ | exact Tk.of (weighs_t _ _ _ _ _ _ _ _) _ | exact Tk.of (one_t _ _ _ _ _ _ _ _) _ | exact Tk.of (between_t _ _ _ _ _ _ _ _ _ _) _ | exact Tk.of (shifts_t _ _ _ _ _ _ _ _) _ | refine Tk.ite ?_ ?_ | refine Tk.bind ?_ (fun v => ?_)
theorem fits_shift {k : Nat} {a1 a2 a3 : Int} {l : List Int} {a5 a6 : ByteArray} {a7 : Nat} (h : table_fits.f k 4 a1 a2 a3 l a5 a6 a7 = some true) : 1 ≤ a3 := by
 unfold table_fits.f at h
 rw [if_neg (by decide), if_pos rfl] at h
 obtain ⟨b, hn⟩ := nothing_t false false true true 4 a1 a2 a3 l a5 a6 a7
 rw [hn, Option.bind_some] at h
 cases b with
 | false => rw [if_neg (by decide)] at h; cases h
 | true =>
  rw [if_pos rfl] at h
  unfold table_shifts.f table_between.f at h
  by_cases c : a3 ≥ 1
  ·exact c
  ·rw [if_neg c, Option.bind_some, if_neg (by decide), Option.bind_some] at h; cases h
theorem right_t (a0 a1 a2 a3 : Int) (l : List Int) (a5 a6 : ByteArray) (a7 : Nat) (hb : l.length ≤ 1000000000000) : Tk (fun k => table_Right.f k a0 a1 a2 a3 l a5 a6 a7) (l.length + 21) := by
 have j : ∀ b, Tk (fun k => table_Right.j0 k b a0 a1 a2 a3 l a5 a6 a7) (l.length + 21) := fun b => by
  refine Tk.succ (G := fun k => if a0 = 15 then (if a1 = 0 then (if a2 = 0 then ((table_fits.f k a0 a1 a2 a3 l a5 a6 a7).bind fun t189 => (if t189 = true then (some 0) else (some 61))) else (some 61)) else (some 61)) else (if b = true then ((table_fits.f k a0 a1 a2 a3 l a5 a6 a7).bind fun t190 => (if t190 = true then (some 0) else (some 61))) else (some 61))) ?_ fun k => by rw [table_Right.j0]
  have hf := fits_t a0 a1 a2 a3 l a5 a6 a7 hb
  repeat' first | exact Tk.pure _ _ | exact hf | refine Tk.ite ?_ ?_ | refine Tk.bind ?_ (fun v => ?_)
 unfold table_Right.f
 refine Tk.bind ⟨fam a0, fun k hk => fam_prog a0 k (by omega)⟩ fun v => ?_
 repeat' first | exact Tk.pure _ _ | exact j _ | refine Tk.ite ?_ ?_
theorem right_shift {k : Nat} {a1 a2 a3 : Int} {l : List Int} {a5 a6 : ByteArray} {a7 : Nat} (hk : 2 ≤ k) (h : table_Right.f k 4 a1 a2 a3 l a5 a6 a7 = some 0) : 1 ≤ a3 := by
 unfold table_Right.f at h
 rw [fam_prog _ k hk, Option.bind_some, if_neg (by decide)] at h
 have key : ∀ b, table_Right.j0 k b 4 a1 a2 a3 l a5 a6 a7 = some 0 → 1 ≤ a3 := fun b hj => by
  obtain ⟨k, rfl⟩ : ∃ m, k = m + 1 := ⟨k - 1, by omega⟩
  rw [table_Right.j0, if_neg (by decide)] at hj
  by_cases hb : b = true
  ·rw [if_pos hb] at hj
   cases hf : table_fits.f k 4 a1 a2 a3 l a5 a6 a7 with
   | none => rw [hf] at hj; cases hj
   | some v =>
    rw [hf, Option.bind_some] at hj
    cases v with
    | false => rw [if_neg (by decide)] at hj; cases hj
    | true => exact fits_shift hf
  ·rw [if_neg hb] at hj; cases hj
 split at h
 ·split at h
  ·exact key _ h
  ·exact key _ h
 ·exact key _ h
/- meet -/
theorem speaks_t (x : S25) (hx : Upto.WfRec x) (c : Int) : ∃ b, table_speaks.f x.f0 x.f1 x.f2 x.f3 x.f4 x.f5 x.f6 x.f7 c = some b := by
 have w3 := wf_i64 hx.f3
 unfold table_speaks.f
 by_cases h3 : x.f3 > 0
 ·have hw : ¬ IntKind.u64.wrap x.f3 = 0 := by rw [wu64 (by omega) (by omega)]; omega
  rw [if_neg hw]
  repeat' split
  all_goals exact ⟨_, rfl⟩
 ·rw [if_neg h3]
  repeat' split
  all_goals exact ⟨_, rfl⟩
theorem meet_loop (x y : S25) (hy : Upto.WfRec y) (hi : Int) : ∀ (d i : Nat) (c : Int), 64 = i + d → Tk (fun k => table_meet.l0 k hi c (i : Int) x.f0 x.f1 x.f2 x.f3 x.f4 x.f5 x.f6 x.f7 y.f0 y.f1 y.f2 y.f3 y.f4 y.f5 y.f6 y.f7) (d + 1) := by
 intro d
 induction d with
 | zero => intro i c hl; exact Tk.succ (Tk.pure false 0) fun k => by rw [table_meet.l0, if_neg (by omega)]
 | succ d ih =>
  intro i c hl
  obtain ⟨b, hv⟩ := speaks_t y hy c
  have e : wrap64 ((i : Int) + 1) = ((i + 1 : Nat) : Int) := by unfold wrap64; omega
  refine Tk.succ (G := fun k => if c > hi then some false else if b = true then some true else table_meet.l0 k hi (wrap64 (c + x.f3)) ((i + 1 : Nat) : Int) x.f0 x.f1 x.f2 x.f3 x.f4 x.f5 x.f6 x.f7 y.f0 y.f1 y.f2 y.f3 y.f4 y.f5 y.f6 y.f7) (Tk.ite (Tk.pure _ _) (Tk.ite (Tk.pure _ _) (ih (i + 1) _ (by omega)))) fun k => by rw [table_meet.l0, if_pos (by omega), hv, Option.bind_some, e]
theorem meetg_t (x y : S25) (hy : Upto.WfRec y) (hx : x.f0 = 4 → 1 ≤ x.f3) : Tk (fun k => table_meet.g k x.f0 x.f1 x.f2 x.f3 x.f4 x.f5 x.f6 x.f7 y.f0 y.f1 y.f2 y.f3 y.f4 y.f5 y.f6 y.f7) 66 := by
 unfold table_meet.g
 have jt : Tk (fun k => table_meet.j0 k (mx x.f1 y.f1) (mn x.f2 y.f2) true x.f0 x.f1 x.f2 x.f3 x.f4 x.f5 x.f6 x.f7 y.f0 y.f1 y.f2 y.f3 y.f4 y.f5 y.f6 y.f7) 66 := (Tk.succ (Tk.pure _ 0) fun k => by rw [table_meet.j0, if_pos rfl]).le (by omega)
 by_cases h4 : x.f0 = 4
 ·simp only [if_pos h4]
  have h3 : ¬ x.f3 = 0 := by have := hx h4; omega
  have jf : Tk (fun k => table_meet.j0 k (mx x.f1 y.f1) (mn x.f2 y.f2) false x.f0 x.f1 x.f2 x.f3 x.f4 x.f5 x.f6 x.f7 y.f0 y.f1 y.f2 y.f3 y.f4 y.f5 y.f6 y.f7) 66 := by
   refine Tk.succ (meet_loop x y hy (mn x.f2 y.f2) 64 0 _ (by omega)) fun k => by rw [table_meet.j0, if_neg (by decide), if_neg h3]; rfl
  have key : ∀ b, Tk (fun k => table_meet.j0 k (mx x.f1 y.f1) (mn x.f2 y.f2) b x.f0 x.f1 x.f2 x.f3 x.f4 x.f5 x.f6 x.f7 y.f0 y.f1 y.f2 y.f3 y.f4 y.f5 y.f6 y.f7) 66 := fun b => by cases b; exact jf; exact jt
  exact key _
 ·simp only [if_neg h4]
  exact jt
def Ok (x : S25) : Prop := Upto.WfRec x ∧ (x.f0 = 4 → 1 ≤ x.f3)
def MF (k : Nat) (o x : S25) : Option Bool := table_meet.f k o.f0 o.f1 o.f2 o.f3 o.f4 o.f5 o.f6 o.f7 x.f0 x.f1 x.f2 x.f3 x.f4 x.f5 x.f6 x.f7
def RF (k : Nat) (x : S25) : Option Int := table_Right.f k x.f0 x.f1 x.f2 x.f3 x.f4 x.f5 x.f6 x.f7
theorem meet_t (o x : S25) (ho : Ok o) (hx : Ok x) : Tk (fun k => MF k o x) 66 := by
 unfold MF table_meet.f
 exact Tk.ite (meetg_t o x hx.1 ho.2) (meetg_t x o ho.1 hx.2)
open Classical in
noncomputable def mv (o x : S25) : Bool := decide (∃ K, ∀ k, K ≤ k → MF k o x = some true)
open Classical in
noncomputable def rv (x : S25) : Bool := decide (∃ K, ∀ k, K ≤ k → RF k x = some 0)
theorem mv_is {o x : S25} (ho : Ok o) (hx : Ok x) : ∀ k, 66 ≤ k → MF k o x = some (mv o x) := by
 obtain ⟨v, h⟩ := meet_t o x ho hx
 have e : mv o x = v := by
  unfold mv
  cases v with
  | true => exact @decide_eq_true _ (_) ⟨66, h⟩
  | false =>
   refine @decide_eq_false _ (_) fun ⟨K, g⟩ => ?_
   have := (g (max K 66) (Nat.le_max_left _ _)).symm.trans (h (max K 66) (Nat.le_max_right _ _))
   cases this
 intro k hk
 rw [e]; exact h k hk
theorem rv_is (x : S25) (hb : x.f4.length ≤ 1000000000000) : ∃ v, (∀ k, x.f4.length + 21 ≤ k → RF k x = some v) ∧ (rv x = true ↔ v = 0) := by
 obtain ⟨v, h⟩ := right_t x.f0 x.f1 x.f2 x.f3 x.f4 x.f5 x.f6 x.f7 hb
 refine ⟨v, h, ?_⟩
 unfold rv
 constructor
 ·intro hr
  obtain ⟨K, g⟩ := @of_decide_eq_true _ (_) hr
  have h2 := h (max K (x.f4.length + 21)) (Nat.le_max_right _ _)
  have := (g (max K (x.f4.length + 21)) (Nat.le_max_left _ _)).symm.trans h2
  exact (Option.some.inj this).symm
 ·rintro rfl
  exact @decide_eq_true _ (_) ⟨_, h⟩
theorem rv_ok {x : S25} (hx : Upto.WfRec x) (hr : rv x = true) : Ok x := by
 refine ⟨hx, fun h4 => ?_⟩
 obtain ⟨K, g⟩ := @of_decide_eq_true _ (_) hr
 have := g (max K 2) (Nat.le_max_left _ _)
 unfold RF at this
 rw [h4] at this
 exact right_shift (Nat.le_max_right _ _) this
end Go.Proofs.YtnoppeocbfapdaaGreatDoor.Plain
namespace Go.Proofs.YtnoppeocbfapdaaGreatDoor.Plain
open Go.RowKit Go.Proofs.YtnoppeocbfapdaaGreatDoorW.PrintWords Go.Proofs.YtnoppeocbfapdaaGreatDoorW.PrintLast Go.Proofs.YtnoppeocbfapdaaGreatDoorW.PrintMore Go.Proofs.YtnoppeocbfapdaaGreatDoor.T
set_option linter.unusedVariables false
set_option linter.unusedSimpArgs false
def sv (x : S25) (c : Int) : Bool := (table_speaks.f x.f0 x.f1 x.f2 x.f3 x.f4 x.f5 x.f6 x.f7 c).getD false
theorem sv_is (x : S25) (hx : Upto.WfRec x) (c : Int) : table_speaks.f x.f0 x.f1 x.f2 x.f3 x.f4 x.f5 x.f6 x.f7 c = some (sv x c) := by
 obtain ⟨b, h⟩ := speaks_t x hx c
 unfold sv
 rw [h]; rfl
def sp (f c : Int) (x : S25) : Bool := decide (fam x.f0 = f) && sv x c
def fx (f c : Int) (l : List S25) : Int := match l.findIdx? (sp f c) with
 | some i => (i : Int)
 | none => -1
theorem find_at (l : List S25) (hw : ∀ x ∈ l, Upto.WfRec x) (f c : Int) (hc : wrap64 c = c) (hb : l.length ≤ 1000000) : ∀ (d i k : Nat), l.length = i + d → d + 3 ≤ k →
  table_Find.l0 k f c l (l.length : Int) (i : Int) = some (match (l.drop i).findIdx? (sp f c) with | some j => ((i + j : Nat) : Int) | none => -1) := by
 intro d
 induction d with
 | zero =>
  intro i k hl hk
  obtain ⟨k, rfl⟩ : ∃ m, k = m + 1 := ⟨k - 1, by omega⟩
  rw [table_Find.l0, if_neg (by omega), List.drop_eq_nil_of_le (by omega)]; rfl
 | succ d ih =>
  intro i k hl hk
  obtain ⟨k, rfl⟩ : ∃ m, k = m + 1 := ⟨k - 1, by omega⟩
  have hil : i < l.length := by omega
  have e : wrap64 ((i : Int) + 1) = ((i + 1 : Nat) : Int) := by unfold wrap64; omega
  have next : ∀ b : Bool, sp f c l[i] = b → (match (l.drop i).findIdx? (sp f c) with | some j => ((i + j : Nat) : Int) | none => -1) = if b then (i : Int) else (match (l.drop (i + 1)).findIdx? (sp f c) with | some j => ((i + 1 + j : Nat) : Int) | none => -1) := fun b hb => by
   rw [List.drop_eq_getElem_cons hil, List.findIdx?_cons, hb]
   cases b with
   | true => rfl
   | false =>
    cases (l.drop (i + 1)).findIdx? (sp f c) with
    | none => rfl
    | some j => show ((i + (j + 1) : Nat) : Int) = ((i + 1 + j : Nat) : Int); omega
  rw [table_Find.l0, if_pos (by omega), if_pos (by omega), if_pos (by omega), rd_rec l i hil, hc, e, fam_prog _ k (by omega), Option.bind_some, ih (i + 1) k (by omega) (by omega), sv_is _ (hw _ (List.getElem_mem hil)), Option.bind_some]
  by_cases hf : fam l[i].f0 = f
  ·rw [if_pos hf]
   have hs : sp f c l[i] = sv l[i] c := by unfold sp; rw [decide_eq_true hf, Bool.true_and]
   rw [next _ hs]
   cases sv l[i] c <;> rfl
  ·rw [if_neg hf]
   have hs : sp f c l[i] = false := by unfold sp; rw [decide_eq_false hf, Bool.false_and]
   rw [next _ hs]; rfl
theorem find_is (l : List S25) (hw : ∀ x ∈ l, Upto.WfRec x) (f c : Int) (h1 : 1 ≤ f) (h9 : f ≤ 9) (hc : wrap64 c = c) (hb : l.length ≤ 1000000) (k : Nat) (hk : l.length + 5 ≤ k) : table_Find.f k l f c = some (fx f c l) := by
 obtain ⟨k, rfl⟩ : ∃ m, k = m + 1 := ⟨k - 1, by omega⟩
 unfold table_Find.f
 rw [if_neg (by omega), decide_eq_false (by omega), table_Find.j0, if_neg (by decide)]
 have := find_at l hw f c hc hb l.length 0 k (by omega) (by omega)
 rw [show ((0 : Nat) : Int) = 0 from rfl, List.drop_zero] at this
 rw [this]
 unfold fx
 simp only [Nat.zero_add]
end Go.Proofs.YtnoppeocbfapdaaGreatDoor.Plain
namespace Go.Proofs.YtnoppeocbfapdaaGreatDoor.Plain
open Go.RowKit Go.Proofs.YtnoppeocbfapdaaGreatDoorW.PrintWords Go.Proofs.YtnoppeocbfapdaaGreatDoorW.PrintLast Go.Proofs.YtnoppeocbfapdaaGreatDoorW.PrintMore Go.Proofs.YtnoppeocbfapdaaGreatDoor.T
set_option linter.unusedVariables false
set_option linter.unusedSimpArgs false
def nm (o x : S25) : Bool := decide (o.f5.toList = x.f5.toList ∧ o.f6.toList = x.f6.toList ∨ o.f5.toList = x.f6.toList ∧ o.f6.toList = x.f5.toList)
noncomputable def hit (f : Int) (x o : S25) : Bool := if f < 10 then mv o x else if f = 10 then nm o x else false
def upd (fm : Int → List S25) (f : Int) (x : S25) : Int → List S25 := fun g => if g = f then fm f ++ [x] else fm g
noncomputable def clash : (Int → List S25) → List S25 → Bool
 | _, [] => false
 | fm, x :: l => if (fm (fam x.f0)).any (hit (fam x.f0) x) then true else clash (upd fm (fam x.f0) x) l
def L2 (k : Nat) (fm : Int → List S25) (l : List S25) (i f : Int) (xs : List S25) (j : Int) (x : S25) : Option (Int × Int) := table_Check.l2 k fm l i f l (l.length : Int) i xs (xs.length : Int) j x.f0 x.f1 x.f2 x.f3 x.f4 x.f5 x.f6 x.f7
theorem names_if {α : Type} {A B C D : Prop} [Decidable A] [Decidable B] [Decidable C] [Decidable D] (u v : α) : (if A then (if B then u else (if C then (if D then u else v) else v)) else (if C then (if D then u else v) else v)) = if decide (A ∧ B ∨ C ∧ D) = true then u else v := by
 by_cases a : A <;> by_cases b : B <;> by_cases c : C <;> by_cases d : D <;> simp [a, b, c, d]
theorem l2_step (l : List S25) (fm : Int → List S25) (i f : Int) (xs : List S25) (hxs : xs.length ≤ 1000000) (x : S25) (hx : Ok x) (j : Nat) (hj : j < xs.length) (ho : Ok xs[j]) (k : Nat) (hk : 66 ≤ k) :
  L2 (k + 1) fm l i f xs (j : Int) x = if hit f x xs[j] = true then some (i, 62) else L2 k fm l i f xs ((j + 1 : Nat) : Int) x := by
 have hm := mv_is ho hx k hk
 unfold MF at hm
 have e : wrap64 ((j : Int) + 1) = ((j + 1 : Nat) : Int) := by unfold wrap64; omega
 unfold L2
 rw [table_Check.l2, if_pos (by omega), if_pos (by omega), if_pos (by omega), rd_rec xs j hj, e]
 unfold hit nm
 by_cases h10 : f < 10
 ·rw [if_pos h10, if_pos h10, hm, Option.bind_some, if_neg (show ¬ f = 10 by omega)]
 ·rw [if_neg h10, if_neg h10]
  by_cases h1 : f = 10
  ·rw [if_pos h1, if_pos h1]
   exact names_if _ _
  ·rw [if_neg h1, if_neg h1, if_neg (by decide)]
theorem l2_end (l : List S25) (fm : Int → List S25) (i f : Int) (x : S25) (k : Nat) : L2 (k + 1) fm l i f (fm f) ((fm f).length : Int) x = table_Check.l1 k (upd fm f x) l l (l.length : Int) (wrap64 (i + 1)) := by
 unfold L2
 rw [table_Check.l2, if_neg (by omega)]
 rfl
theorem l2_ok (l : List S25) (fm : Int → List S25) (i f : Int) (x : S25) (hx : Ok x) (hf : (fm f).length ≤ 1000000) (hok : ∀ o ∈ fm f, Ok o) (p : Int × Int) (K0 : Nat) (h66 : 66 ≤ K0)
  (hn : ∀ k, K0 ≤ k → table_Check.l1 k (upd fm f x) l l (l.length : Int) (wrap64 (i + 1)) = some p) :
  ∀ (d j : Nat), (fm f).length = j + d → ∀ k, K0 + d + 1 ≤ k → L2 k fm l i f (fm f) (j : Int) x = some (if ((fm f).drop j).any (hit f x) = true then (i, 62) else p) := by
 intro d
 induction d with
 | zero =>
  intro j hj k hk
  obtain ⟨k, rfl⟩ : ∃ m, k = m + 1 := ⟨k - 1, by omega⟩
  obtain rfl : j = (fm f).length := by omega
  rw [l2_end, hn k (by omega), List.drop_length]
  rfl
 | succ d ih =>
  intro j hj k hk
  obtain ⟨k, rfl⟩ : ∃ m, k = m + 1 := ⟨k - 1, by omega⟩
  have hjl : j < (fm f).length := by omega
  rw [l2_step l fm i f (fm f) hf x hx j hjl (hok _ (List.getElem_mem hjl)) k (by omega), ih (j + 1) (by omega) k (by omega), List.drop_eq_getElem_cons hjl, List.any_cons]
  cases hit f x (fm f)[j] with
  | true => rfl
  | false => rw [if_neg (by decide), Bool.false_or]
theorem l1_ok (l : List S25) (hl : l.length ≤ 4096) (hok : ∀ x ∈ l, Ok x) : ∀ (d i : Nat), l.length = i + d → ∀ fm : Int → List S25, (∀ f, ∀ o ∈ fm f, Ok o) → (∀ f, (fm f).length ≤ i) →
  ∃ (p : Int × Int) (K : Nat), (∀ k, K ≤ k → table_Check.l1 k fm l l (l.length : Int) (i : Int) = some p) ∧ (p.2 = 0 ↔ clash fm (l.drop i) = false) := by
 intro d
 induction d with
 | zero =>
  intro i hi fm _ _
  refine ⟨(0, 0), 1, fun k hk => ?_, ?_⟩
  ·obtain ⟨k, rfl⟩ : ∃ m, k = m + 1 := ⟨k - 1, by omega⟩
   rw [table_Check.l1, if_neg (by omega)]
  ·rw [List.drop_eq_nil_of_le (by omega)]; exact ⟨fun _ => rfl, fun _ => rfl⟩
 | succ d ih =>
  intro i hi fm h1 h2
  have hil : i < l.length := by omega
  have hx := hok _ (List.getElem_mem hil)
  obtain ⟨p, K, hp, hc⟩ := ih (i + 1) (by omega) (upd fm (fam l[i].f0) l[i]) (fun f o ho => by
   unfold upd at ho
   split at ho
   ·rcases List.mem_append.1 ho with ho | ho
    ·exact h1 _ o ho
    ·rw [List.mem_singleton.1 ho]; exact hx
   ·exact h1 f o ho) (fun f => by
   unfold upd
   split
   ·have := h2 (fam l[i].f0); rw [List.length_append, List.length_singleton]; omega
   ·have := h2 f; omega)
  have e : wrap64 ((i : Int) + 1) = ((i + 1 : Nat) : Int) := by unfold wrap64; omega
  have hlen := h2 (fam l[i].f0)
  have key := l2_ok l fm (i : Int) (fam l[i].f0) l[i] hx (by omega) (h1 _) p (max K 66) (Nat.le_max_right _ _) (fun k hk => by rw [e]; exact hp k (Nat.le_trans (Nat.le_max_left _ _) hk)) (fm (fam l[i].f0)).length 0 (by omega)
  refine ⟨if ((fm (fam l[i].f0)).drop 0).any (hit (fam l[i].f0) l[i]) = true then ((i : Int), 62) else p, max K 66 + (fm (fam l[i].f0)).length + 3, fun k hk => ?_, ?_⟩
  ·obtain ⟨k, rfl⟩ : ∃ m, k = m + 1 := ⟨k - 1, by omega⟩
   rw [table_Check.l1, if_pos (by omega), if_pos (by omega), if_pos (by omega), rd_rec l i hil, fam_prog _ k (by omega), Option.bind_some]
   exact key k (by omega)
  ·rw [List.drop_zero, List.drop_eq_getElem_cons hil, clash]
   cases (fm (fam l[i].f0)).any (hit (fam l[i].f0) l[i]) with
   | true => simp
   | false => simpa using hc
theorem l0_ok (l : List S25) (hl : l.length ≤ 4096) (hw : ∀ x ∈ l, Upto.WfRec x) (hb : ∀ x ∈ l, x.f4.length ≤ 1000000000000) : ∀ (d i : Nat), l.length = i + d → (∀ x ∈ l.take i, rv x = true) →
  ∃ (p : Int × Int) (K : Nat), (∀ k, K ≤ k → table_Check.l0 k l l (l.length : Int) (i : Int) = some p) ∧ (p.2 = 0 ↔ (∀ x ∈ l, rv x = true) ∧ clash (fun _ => []) l = false) := by
 intro d
 induction d with
 | zero =>
  intro i hi hr
  rw [List.take_of_length_le (by omega)] at hr
  obtain ⟨p, K, hp, hc⟩ := l1_ok l hl (fun x hx => rv_ok (hw x hx) (hr x hx)) l.length 0 (by omega) (fun _ => []) (fun _ o ho => by cases ho) (fun _ => Nat.zero_le _)
  refine ⟨p, K + 1, fun k hk => ?_, ?_⟩
  ·obtain ⟨k, rfl⟩ : ∃ m, k = m + 1 := ⟨k - 1, by omega⟩
   rw [table_Check.l0, if_neg (by omega)]
   exact hp k (by omega)
  ·rw [List.drop_zero] at hc
   exact ⟨fun h => ⟨hr, hc.1 h⟩, fun h => hc.2 h.2⟩
 | succ d ih =>
  intro i hi hr
  have hil : i < l.length := by omega
  have e : wrap64 ((i : Int) + 1) = ((i + 1 : Nat) : Int) := by unfold wrap64; omega
  obtain ⟨v, hv, hv0⟩ := rv_is l[i] (hb _ (List.getElem_mem hil))
  unfold RF at hv
  by_cases h0 : v = 0
  ·obtain ⟨p, K, hp, hc⟩ := ih (i + 1) (by omega) (fun x hx => by
    rw [← List.take_append_getElem hil] at hx
    rcases List.mem_append.1 hx with hx | hx
    ·exact hr x hx
    ·rw [List.mem_singleton.1 hx]; exact hv0.2 h0)
   refine ⟨p, max K (l[i].f4.length + 21) + 1, fun k hk => ?_, hc⟩
   obtain ⟨k, rfl⟩ : ∃ m, k = m + 1 := ⟨k - 1, by omega⟩
   rw [table_Check.l0, if_pos (by omega), if_pos (by omega), if_pos (by omega), rd_rec l i hil, hv k (by omega), Option.bind_some, if_pos h0, e]
   exact hp k (by omega)
  ·refine ⟨((i : Int), v), l[i].f4.length + 22, fun k hk => ?_, ?_⟩
   ·obtain ⟨k, rfl⟩ : ∃ m, k = m + 1 := ⟨k - 1, by omega⟩
    rw [table_Check.l0, if_pos (by omega), if_pos (by omega), if_pos (by omega), rd_rec l i hil, hv k (by omega), Option.bind_some, if_neg h0]
   ·exact ⟨fun h => absurd h h0, fun h => absurd (hv0.1 (h.1 _ (List.getElem_mem hil))) h0⟩
theorem check_ok (l : List S25) (hl : l.length ≤ 4096) (hw : ∀ x ∈ l, Upto.WfRec x) (hb : ∀ x ∈ l, x.f4.length ≤ 1000000000000) :
  ∃ (p : Int × Int) (K : Nat), (∀ k, K ≤ k → table_Check.f k l = some p) ∧ (p.2 = 0 ↔ (∀ x ∈ l, rv x = true) ∧ clash (fun _ => []) l = false) := by
 obtain ⟨p, K, hp, hc⟩ := l0_ok l hl hw hb l.length 0 (by omega) (fun x hx => by simp at hx)
 refine ⟨p, K, fun k hk => ?_, hc⟩
 unfold table_Check.f
 rw [if_neg (by omega)]
 exact hp k hk
theorem clash_more : ∀ (l m : List S25) (fm : Int → List S25), clash fm l = true → clash fm (l ++ m) = true := by
 intro l
 induction l with
 | nil => intro m fm h; cases h
 | cons x l ih =>
  intro m fm h
  rw [List.cons_append, clash] at *
  split
  ·rfl
  ·rename_i hc
   rw [if_neg hc] at h
   exact ih m _ h
end Go.Proofs.YtnoppeocbfapdaaGreatDoor.Plain
namespace Go.Proofs.YtnoppeocbfapdaaGreatDoor.Plain
open Go.RowKit Go.Proofs.YtnoppeocbfapdaaGreatDoorW.PrintWords Go.Proofs.YtnoppeocbfapdaaGreatDoorW.PrintLast Go.Proofs.YtnoppeocbfapdaaGreatDoorW.PrintMore Go.Proofs.YtnoppeocbfapdaaGreatDoor.T
set_option linter.unusedVariables false
set_option linter.unusedSimpArgs false
theorem fx_more (f c : Int) (l : List S25) (r : S25) : (0 ≤ fx f c l → fx f c (l ++ [r]) = fx f c l) ∧ (fx f c l < 0 → 0 ≤ fx f c (l ++ [r]) → fx f c (l ++ [r]) = (l.length : Int)) := by
 unfold fx
 rw [List.findIdx?_append]
 cases h : l.findIdx? (sp f c) with
 | some i => exact ⟨fun _ => rfl, fun h => by dsimp only at h; omega⟩
 | none =>
  refine ⟨fun h => by dsimp only at h; omega, fun _ h2 => ?_⟩
  rw [List.findIdx?_cons] at *
  cases hs : sp f c r with
  | true => simp [hs]
  | false => rw [hs] at h2; simp at h2
theorem told_t : endonymlaw6_told.f = some true := rfl
section
variable (l : List S25) (r : S25) (cs : List Int) (hw : ∀ x ∈ l, Upto.WfRec x) (hr : Upto.WfRec r) (hc : ∀ c ∈ cs, (Lit.int .i32 c).wf = true) (hcl : cs.length ≤ 1048576) (hl : l.length ≤ 60)
include hw hr hc hcl hl
theorem more_fam (i : Nat) (hi : i < cs.length) : ∀ (d f : Nat), 10 = f + d → 1 ≤ f → ∀ k, 80 ≤ k → endonymlaw6_TableMore.l1 (k + d + 1) cs l (l ++ [r]) (i : Int) (f : Int) = endonymlaw6_TableMore.l0 k cs l (l ++ [r]) ((i + 1 : Nat) : Int) := by
 intro d
 induction d with
 | zero =>
  intro f h1 h2 k hk
  have e : wrap64 ((i : Int) + 1) = ((i + 1 : Nat) : Int) := by unfold wrap64; omega
  rw [endonymlaw6_TableMore.l1, if_neg (by omega), e]
 | succ d ih =>
  intro f h1 h2 k hk
  have e : wrap64 ((f : Int) + 1) = ((f + 1 : Nat) : Int) := by unfold wrap64; omega
  have hci := wf_i32 (hc _ (List.getElem_mem hi))
  have hwc : wrap64 cs[i] = cs[i] := by unfold wrap64; omega
  have hlen : (l ++ [r]).length = l.length + 1 := by simp
  have hwm : ∀ x ∈ l ++ [r], Upto.WfRec x := fun x hx => by
   rcases List.mem_append.1 hx with hx | hx
   ·exact hw x hx
   ·rw [List.mem_singleton.1 hx]; exact hr
  rw [show k + (d + 1) + 1 = (k + d + 1) + 1 by omega, endonymlaw6_TableMore.l1, if_pos (by omega), if_pos (by omega), if_pos (by omega), rd_nat cs i hi, find_is l hw (f : Int) cs[i] (by omega) (by omega) hwc (by omega) _ (by omega), Option.bind_some, find_is (l ++ [r]) hwm (f : Int) cs[i] (by omega) (by omega) hwc (by omega) _ (by omega), Option.bind_some, e, ih (f + 1) (by omega) (by omega) k hk]
  obtain ⟨g1, g2⟩ := fx_more (f : Int) cs[i] l r
  by_cases h0 : 0 ≤ fx (f : Int) cs[i] l
  ·rw [if_pos h0, if_pos (g1 h0), if_neg (by omega)]
  ·rw [if_neg h0, if_pos (by omega)]
   by_cases h3 : 0 ≤ fx (f : Int) cs[i] (l ++ [r])
   ·rw [if_pos h3, if_pos (g2 (by omega) h3)]
   ·rw [if_neg h3]
theorem more_loop : ∀ (d i : Nat), cs.length = i + d → ∀ k, 12 * d + 100 ≤ k → endonymlaw6_TableMore.l0 k cs l (l ++ [r]) (i : Int) = some true := by
 have hend : ∀ k (i : Int), 2 ≤ k → endonymlaw6_TableMore.j2 k cs l (l ++ [r]) i false = some true := fun k i hk => by
  obtain ⟨k, rfl⟩ : ∃ m, k = m + 1 := ⟨k - 1, by omega⟩
  rw [endonymlaw6_TableMore.j2, if_neg (by decide), told_t]; rfl
 intro d
 induction d with
 | zero =>
  intro i hi k hk
  obtain ⟨k, rfl⟩ : ∃ m, k = m + 1 := ⟨k - 1, by omega⟩
  rw [endonymlaw6_TableMore.l0, if_neg (by omega)]
  exact hend k _ (by omega)
 | succ d ih =>
  intro i hi k hk
  obtain ⟨k, rfl⟩ : ∃ m, k = m + 12 := ⟨k - 12, by omega⟩
  rw [endonymlaw6_TableMore.l0, if_pos (by omega)]
  by_cases h40 : (i : Int) < 40
  ·rw [decide_eq_true h40, endonymlaw6_TableMore.j2, if_pos rfl]
   have := more_fam l r cs hw hr hc hcl hl i (by omega) 9 1 (by omega) (by omega) k (by omega)
   rw [show ((1 : Nat) : Int) = 1 from rfl] at this
   rw [show k + 10 = k + 9 + 1 by omega, this]
   exact ih (i + 1) (by omega) k (by omega)
  ·rw [decide_eq_false h40]
   exact hend _ _ (by omega)
end
theorem copied_f (l : List S25) (hl : l.length ≤ 1000000) (hs : ∀ x ∈ l, x.f4.length < 1000000000000) (k : Nat) (hk : l.length < k) : endonymref6_Copied.f k l = some l := by
 unfold endonymref6_Copied.f
 have := copied_ok l.length l [] 0 k (by omega) hl rfl hs (by omega)
 rw [show ((0 : Nat) : Int) = 0 from rfl] at this
 rw [this, List.nil_append, List.drop_zero]
theorem law_more (l : List S25) (r : S25) (cs : List Int) (hw : ∀ x ∈ l, Upto.WfRec x) (hr : Upto.WfRec r) (hc : ∀ c ∈ cs, (Lit.int .i32 c).wf = true)
  (hb : (l.map fun x => x.f4.length + x.f5.size + x.f6.size + 1).sum + (r.f4.length + r.f5.size + r.f6.size + 1) + cs.length ≤ 1048576) : ∃ k, endonymlaw6_TableMore.f k l r.f0 r.f1 r.f2 r.f3 r.f4 r.f5 r.f6 r.f7 cs = some true := by
 have hs : ∀ x ∈ l, x.f4.length ≤ 1048576 := fun x hx => by have := sum_le l x hx; omega
 obtain ⟨m, hm⟩ : ∃ m, m = l.take 60 := ⟨_, rfl⟩
 have hml : m.length ≤ 60 := by rw [hm, List.length_take]; omega
 have hmem : ∀ x ∈ m, x ∈ l := fun x hx => by rw [hm] at hx; exact List.mem_of_mem_take hx
 have hmr : ∀ x ∈ m ++ [r], Upto.WfRec x ∧ x.f4.length ≤ 1048576 := fun x hx => by
  rcases List.mem_append.1 hx with hx | hx
  ·exact ⟨hw x (hmem x hx), hs x (hmem x hx)⟩
  ·rw [List.mem_singleton.1 hx]; exact ⟨hr, by omega⟩
 have hlen : (m ++ [r]).length = m.length + 1 := by simp
 obtain ⟨p, K1, hp, hpe⟩ := check_ok m (by omega) (fun x hx => hw x (hmem x hx)) (fun x hx => by have := hs x (hmem x hx); omega)
 obtain ⟨q, K2, hq, hqe⟩ := check_ok (m ++ [r]) (by omega) (fun x hx => (hmr x hx).1) (fun x hx => by have := (hmr x hx).2; omega)
 have key : q.2 = 0 → p.2 = 0 := fun h => by
  obtain ⟨h1, h2⟩ := hqe.1 h
  refine hpe.2 ⟨fun x hx => h1 x (List.mem_append_left _ hx), ?_⟩
  cases hcl : clash (fun _ => []) m with
  | false => rfl
  | true => rw [clash_more m [r] _ hcl] at h2; cases h2
 obtain ⟨K, hK⟩ : ∃ K, K = K1 + K2 + 12 * cs.length + 2000 := ⟨_, rfl⟩
 refine ⟨K, ?_⟩
 unfold endonymlaw6_TableMore.f
 have f1 := few_ok l 60 K (by omega) (fun x hx => by have := hs x hx; omega) (by omega)
 have f2 := few_ok [r] 1 K (by omega) (fun x hx => by rw [List.mem_singleton.1 hx]; omega) (by omega)
 rw [show ((60 : Nat) : Int) = 60 from rfl, ← hm] at f1
 rw [show ((1 : Nat) : Int) = 1 from rfl] at f2
 rw [f1, Option.bind_some, copied_f m (by omega) (fun x hx => by have := hs x (hmem x hx); omega) K (by omega), Option.bind_some, show ([(⟨r.f0, r.f1, r.f2, r.f3, r.f4, r.f5, r.f6, r.f7⟩ : S25)] : List S25) = [r] from rfl, f2, Option.bind_some, show [r].take 1 = [r] from rfl, if_pos (by simp; omega), Option.bind_some, hp K (by omega), Option.bind_some, hq K (by omega), Option.bind_some]
 obtain ⟨k, hk⟩ : ∃ k, K = k + 1 := ⟨K - 1, by omega⟩
 rw [hk]
 have yes : ∀ k', p.2 = 0 ∨ q.2 ≠ 0 → endonymlaw6_TableMore.j0 (k' + 1) cs m (m ++ [r]) p.2 q.2 true = some true := fun k' h => by
  rw [endonymlaw6_TableMore.j0, if_pos rfl, told_t, Option.bind_some, if_pos rfl]
  by_cases h0 : p.2 = 0
  ·rw [if_pos h0]
  ·rw [if_neg h0, bne_iff_ne.2 (h.resolve_left h0)]
 by_cases h0 : p.2 = 0
 ·rw [if_pos h0]
  by_cases h1 : q.2 = 0
  ·rw [show (q.2 != 0) = false by rw [h1]; rfl, endonymlaw6_TableMore.j0, if_neg (by decide)]
   exact more_loop m r cs (fun x hx => hw x (hmem x hx)) hr hc (by omega) hml cs.length 0 (by omega) k (by omega)
  ·rw [bne_iff_ne.2 h1]
   exact yes k (.inl h0)
 ·rw [if_neg h0]
  exact yes k (.inr fun h => h0 (key h))
end Go.Proofs.YtnoppeocbfapdaaGreatDoor.Plain
