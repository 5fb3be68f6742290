import Derived.Test.YtfmjdoofopamkaaGreatDoorPlT
import Derived.Test.YtfmjdoofopamkaaGreatDoorPlR
import Derived.Test.YtfmjdoofopamkaaGreatDoorWx21
import Derived.Test.YtfmjdoofopamkaaGreatDoorWx22
import Derived.Test.YtfmjdoofopamkaaGreatDoorWx20
import Derived.Test.YtfmjdoofopamkaaGreatDoorWx14
import Derived.Test.YtfmjdoofopamkaaGreatDoorWx19
namespace Go.Proofs.YtfmjdoofopamkaaGreatDoor.Plain
open Go.RowKit Go.Proofs.YtfmjdoofopamkaaGreatDoorW.PrintWords Go.Proofs.YtfmjdoofopamkaaGreatDoorW.PrintLast Go.Proofs.YtfmjdoofopamkaaGreatDoorW.PrintMore Go.Proofs.YtfmjdoofopamkaaGreatDoor.W
set_option linter.unusedVariables false
set_option linter.unusedSimpArgs false
set_option exponentiation.threshold 3000
def ui (l : List Nat) : List Int := List.map (fun (x : Nat) => (x : Int)) l
theorem ui_len (l : List Nat) : (ui l).length = l.length := List.length_map _
theorem ui_rd (l : List Nat) (i : Nat) (h : i < l.length) : rd (ui l) (i : Int) = ((l[i] : Nat) : Int) := by
 rw [rd_nat (ui l) i (by rw [ui_len]; exact h)]
 simp [ui]
theorem signed_ok (u : Nat) (hu : u < 18446744073709551616) (hf : u % P63 < INF) : Ev (fun k => endonymref2_signed.f k (u : Int)) (decide (P63 ≤ u), rl (fv (u % P63))) := by
 obtain ⟨r, hr⟩ : ∃ r, u % P63 = r := ⟨_, rfl⟩
 rw [hr] at hf ⊢
 have hr63 : r < P63 := by unfold INF P63 at *; omega
 have ea : Go.bits .andNot .u64 (u : Int) 9223372036854775808 = (r : Int) := by rw [andNot_sign' u hu]; exact congrArg _ hr
 obtain ⟨e, he⟩ : ∃ e, r / P52 = e := ⟨_, rfl⟩
 have hq : e < 2047 := by unfold P52 at he; unfold INF at hf; omega
 have ee : wrap64 (Go.bits .and .u64 ((r : Int) / 4503599627370496) 2047) = (e : Int) := by rw [exp_and_u r hr63, he, w64 (by omega) (by omega)]
 have em : Go.bits .and .u64 (r : Int) 4503599627370495 = ((r % P52 : Nat) : Int) := and_mant r (by unfold P63 at hr63; omega)
 have hsg : decide ((u : Int) ≥ 9223372036854775808) = decide (P63 ≤ u) := decide_eq_decide.2 (by unfold P63; omega)
 unfold endonymref2_signed.f
 rw [ea, hsg]
 by_cases h0 : e = 0
 ·have hlt : r < P52 := by unfold P52 at he ⊢; omega
  have ep : endonymref2_Parts.f (r : Int) = some (((r : Nat) : Int), -1074) := by
   unfold endonymref2_Parts.f
   rw [ee, if_pos (by omega), em, Nat.mod_eq_of_lt hlt]
  rw [ep]
  simp only [Option.bind_some]
  have hb : bl r ≤ 52 := bl_le (k := 52) (by rw [show (2 : Nat) ^ 52 = P52 by decide]; exact hlt)
  have hl := rleft_ok r 0 (by omega) (by omega)
  rw [Nat.pow_zero, Nat.mul_one] at hl
  rw [fv_sub hlt, w64 (x := (-1074 : Int) + 1074) (by omega) (by omega)]
  exact Ev.bind (of_ok r (by unfold P52 at hlt; omega)) (Ev.bind hl (Ev.now _))
 ·have hge : P52 ≤ r := by unfold P52 at he ⊢; omega
  obtain ⟨m, hm⟩ : ∃ m, r % P52 = m := ⟨_, rfl⟩
  have hml : m < P52 := by rw [← hm]; exact Nat.mod_lt r (by decide)
  rw [hm] at em
  have eo : Go.bits .or .u64 (m : Int) 4503599627370496 = ((P52 + m : Nat) : Int) := by
   have := or_exp m 1 hml (by omega)
   rw [Nat.one_mul] at this
   exact this
  have ep : endonymref2_Parts.f (r : Int) = some (((P52 + m : Nat) : Int), (e : Int) - 1075) := by
   unfold endonymref2_Parts.f
   rw [ee, if_neg (by omega), em, eo, w64 (by omega) (by omega)]
  rw [ep]
  simp only [Option.bind_some]
  have hb : bl (P52 + m) ≤ 53 := (bl_le_iff _).2 (by omega)
  have hl := rleft_ok (P52 + m) (e - 1) (by omega) (by omega)
  rw [fv_norm hge, he, hm, w64 (by omega) (by omega), show (e : Int) - 1075 + 1074 = ((e - 1 : Nat) : Int) by omega]
  exact Ev.bind (of_ok (P52 + m) (by unfold P52 at *; omega)) (Ev.bind hl (Ev.now _))
def plusS (m : Bool) (A : Nat) (n : Bool) (B : Nat) : Bool × Nat := if m = n then (m, A + B) else if B ≤ A then (m, A - B) else (n, B - A)
def sval (z : Bool × Nat) : Int := if z.1 then -(z.2 : Int) else (z.2 : Int)
theorem sval_plus (m n : Bool) (A B : Nat) : sval (plusS m A n B) = sval (m, A) + sval (n, B) := by
 by_cases h : B ≤ A
 ·cases m <;> cases n <;> simp [plusS, sval, h] <;> omega
 ·cases m <;> cases n <;> simp [plusS, sval, h] <;> omega
theorem plus_ok (m n : Bool) (A B : Nat) (hA : bl A ≤ 1000000) (hB : bl B ≤ 1000000) : Ev (fun k => endonymref2_plus.f k m (rl A) n (rl B)) ((plusS m A n B).1, rl (plusS m A n B).2) := by
 have lA := rl_bl A (by omega)
 have lB := rl_bl B (by omega)
 unfold endonymref2_plus.f plusS
 by_cases h : m = n
 ·rw [if_pos h]
  exact Ev.congr (fun k => by rw [if_pos (beq_iff_eq.2 h)]) (Ev.bind (rplus_ok A B lA lB) (Ev.now _))
 ·rw [if_neg h]
  refine Ev.congr (fun k => by rw [if_neg (fun hh => h (beq_iff_eq.1 hh))]) (Ev.bind (rcmp_ok A B (by omega) (by omega)) ?_)
  by_cases hc : B ≤ A
  ·rw [if_pos hc]
   exact Ev.congr (fun k => by rw [if_pos (by unfold cmpS; rw [if_neg (by omega)]; split <;> omega)]) (Ev.bind (rless_ok A B lA hc) (Ev.now _))
  ·rw [if_neg hc]
   exact Ev.congr (fun k => by rw [if_neg (by unfold cmpS; rw [if_pos (by omega)]; omega)]) (Ev.bind (rless_ok B A lB (by omega)) (Ev.now _))
theorem ups_downs_cons (x : Nat) (l : List Nat) : ((ups (x :: l) : Nat) : Int) - (downs (x :: l) : Nat) = sval (decide (P63 ≤ x), fv (x % P63)) + ((ups l : Nat) - (downs l : Nat) : Int) := by
 have e1 : ups (x :: l) = (if P63 ≤ x then 0 else fv (x % P63)) + ups l := rfl
 have e2 : downs (x :: l) = (if P63 ≤ x then fv (x % P63) else 0) + downs l := rfl
 rw [e1, e2]
 unfold sval
 by_cases h : P63 ≤ x
 ·rw [decide_eq_true h, if_pos h, if_pos h, if_pos rfl]; omega
 ·rw [decide_eq_false h, if_neg h, if_neg h, if_neg (by simp)]; omega
theorem drop_nat (l : List Nat) (i : Nat) (h : i < l.length) : l.drop i = l[i] :: l.drop (i + 1) := by rw [List.drop_eq_getElem_cons h]
theorem total_loop (l : List Nat) (hl : l.length ≤ 1000) (hf : Fin l) (W : Nat) (hW : Aside0 (2 ^ 2098 = W)) (T : Int) : ∀ (d i : Nat) (m : Bool) (A : Nat), i + d = l.length → A ≤ i * W → sval (m, A) + ((ups (l.drop i) : Nat) - (downs (l.drop i) : Nat) : Int) = T →
  ∃ z : Bool × Nat, Ev (fun k => endonymref2_Total.l0 k (ui l) (i : Int) m (rl A)) (z.1, rl z.2) ∧ sval z = T ∧ z.2 ≤ 1000 * W
 | 0, i, m, A, hi, hA, hv => by
  have e : l.drop i = [] := List.drop_eq_nil_of_le (by omega)
  rw [e] at hv
  refine ⟨(m, A), ?_, ?_, Nat.le_trans hA (Nat.mul_le_mul_right _ (by omega))⟩
  ·exact Ev.step (f := fun _ => some (m, rl A)) (fun k => by rw [endonymref2_Total.l0, if_neg (by rw [ui_len]; omega)]) (Ev.now _)
  ·unfold ups downs at hv; omega
 | d + 1, i, m, A, hi, hA, hv => by
  have hlt : i < l.length := by omega
  obtain ⟨x, hx⟩ : ∃ x, l[i] = x := ⟨_, rfl⟩
  have hxf := hf x (by rw [← hx]; exact List.getElem_mem hlt)
  have hsg := signed_ok x hxf.1 hxf.2
  have hfb : fv (x % P63) < W := by rw [← hW.out]; exact fv_bound hxf.2
  have hblW : bl (1000 * W) ≤ 3000 := by
   rw [← hW.out]
   have := bl_mul_le 1000 2098
   have h2 : bl 1000 ≤ 10 := by decide
   omega
  have hA1 : A ≤ 1000 * W := Nat.le_trans hA (Nat.mul_le_mul_right _ (by omega))
  have hB1 : fv (x % P63) ≤ 1000 * W := by omega
  have hbA := bl_mono hA1
  have hbB := bl_mono hB1
  have hpl := plus_ok m (decide (P63 ≤ x)) A (fv (x % P63)) (by omega) (by omega)
  have hsv := sval_plus m (decide (P63 ≤ x)) A (fv (x % P63))
  obtain ⟨z, hz⟩ : ∃ z, plusS m A (decide (P63 ≤ x)) (fv (x % P63)) = z := ⟨_, rfl⟩
  have hzb : z.2 ≤ (i + 1) * W := by
   rw [Nat.add_mul, Nat.one_mul, ← hz]
   unfold plusS
   split
   ·show A + fv (x % P63) ≤ _; omega
   ·split
    ·show A - fv (x % P63) ≤ _; omega
    ·show fv (x % P63) - A ≤ _; omega
  rw [hz] at hpl hsv
  rw [drop_nat l i hlt, hx, ups_downs_cons] at hv
  obtain ⟨y, y1, y2, y3⟩ := total_loop l hl hf W hW T d (i + 1) z.1 z.2 (by omega) hzb (by rw [hsv]; omega)
  refine ⟨y, ?_, y2, y3⟩
  refine Ev.step (f := fun k => (endonymref2_signed.f k (x : Int)).bind fun bt712 => ((endonymref2_plus.f k m (rl A) bt712.1 bt712.2).bind fun bt716 => (endonymref2_Total.l0 k (ui l) ((i + 1 : Nat) : Int) bt716.1 bt716.2))) (fun k => ?_) (Ev.bind hsg (Ev.bind hpl y1))
  rw [endonymref2_Total.l0, if_pos (by rw [ui_len]; omega), if_pos (by omega), ui_rd l i hlt, hx, succ_w i (by omega)]
theorem total_ok (l : List Nat) (hl : l.length ≤ 1000) (hf : Fin l) : ∃ z : Bool × Nat, Ev (fun k => endonymref2_Total.f k (ui l)) (z.1, rl z.2) ∧ sval z = ((ups l : Nat) : Int) - (downs l : Nat) ∧ bl z.2 ≤ 3000 := by
 obtain ⟨z, z1, z2, z3⟩ := total_loop l hl hf (2 ^ 2098) ⟨rfl⟩ (((ups l : Nat) : Int) - (downs l : Nat)) l.length 0 false 0 (by omega) (by omega) (by rw [List.drop_zero]; unfold sval; simp)
 rw [rl_zero] at z1
 refine ⟨z, z1, z2, ?_⟩
 have h1 := bl_mono z3
 have := bl_mul_le 1000 2098
 have h2 : bl 1000 ≤ 10 := by decide
 omega
theorem rrounded_ok (m : Bool) (A n : Nat) (hA : bl A ≤ 3000) (hn : n ≠ 0) (hn2 : n ≤ 1000) : Ev (fun k => endonymref2_rounded.f k m (rl A) (n : Int)) (((if A = 0 then 0 else (if m then P63 else 0) + wordQ A n : Nat)) : Int) := by
 unfold endonymref2_rounded.f
 by_cases h0 : A = 0
 ·subst h0
  rw [rl_zero, if_pos rfl]
  exact Ev.congr (f := fun _ => some 0) (fun k => by rw [if_pos (by simp)]) (Ev.now _)
 ·have hp := rl_len_pos h0
  rw [if_neg h0]
  refine Ev.congr (fun k => by rw [if_neg (by omega), wu64 (x := (n : Int)) (by omega) (by omega)]) (Ev.bind (of_ok n (by omega)) ?_)
  have hbn : bl n ≤ 10 := Nat.le_trans (bl_mono hn2) (by decide)
  have hbl := bl_mul_le n 1074
  refine Ev.bind (rleft_ok n 1074 (by omega) (by omega)) ?_
  have hnr := near_ok A (n * 2 ^ 1074) (Nat.mul_ne_zero hn (Nat.ne_of_gt (Nat.two_pow_pos _))) (by omega) (by omega)
  rw [wordQ_scale A n _ (Nat.two_pow_pos _)] at hnr
  refine Ev.bind hnr ?_
  obtain ⟨w, hw⟩ : ∃ w, wordQ A n = w := ⟨_, rfl⟩
  have hwle : w ≤ INF := by rw [← hw]; exact wordQ_le _ _
  have hor : ∀ v : Nat, v ≤ INF → Go.bits .or .u64 (v : Int) 9223372036854775808 = (((P63 + v : Nat)) : Int) := by
   intro v hv
   have hlt : v < P63 := by unfold P63 INF at *; omega
   have h3 := u64_or v (2 ^ 63) (by unfold P63 at hlt; omega) (by omega)
   have h4 : v ||| 2 ^ 63 = P63 + v := by
    have := Nat.two_pow_add_eq_or_of_lt (i := 63) (b := v) hlt 1
    rw [Nat.mul_one] at this
    rw [Nat.or_comm]; exact this.symm
   rw [h4] at h3
   exact h3
  rw [hw]
  unfold nearS
  by_cases hi : w = INF
  ·rw [if_pos hi, hi]
   cases m with
   | true =>
    rw [if_pos rfl]
    exact Ev.congr (f := fun _ => some ((P63 + INF : Nat) : Int)) (fun k => by rw [if_neg (by simp), if_pos rfl]; exact congrArg some (hor INF (Nat.le_refl _))) (Ev.now _)
   | false =>
    have e : (if false = true then P63 else 0) + INF = INF := by simp
    rw [e]
    exact Ev.congr (f := fun _ => some ((INF : Nat) : Int)) (fun k => by rw [if_neg (by simp), if_neg (by simp)]; rfl) (Ev.now _)
  ·rw [if_neg hi]
   cases m with
   | true =>
    rw [if_pos rfl]
    exact Ev.congr (f := fun _ => some ((P63 + w : Nat) : Int)) (fun k => by rw [if_pos rfl]; exact congrArg some (hor w hwle)) (Ev.now _)
   | false =>
    have e : (if false = true then P63 else 0) + w = w := by simp
    rw [e]
    exact Ev.congr (f := fun _ => some ((w : Nat) : Int)) (fun k => by rw [if_pos rfl, if_neg (by simp)]) (Ev.now _)
theorem shw_sval (a b n : Nat) (z : Bool × Nat) (h : sval z = (a : Int) - (b : Int)) : (if z.2 = 0 then 0 else (if z.1 then P63 else 0) + wordQ z.2 n) = shw a b n := by
 obtain ⟨m, A⟩ := z
 unfold sval at h
 simp only at h ⊢
 unfold shw
 by_cases h0 : A = 0
 ·rw [if_pos h0, if_neg (by cases m <;> simp at h <;> omega), if_neg (by cases m <;> simp at h <;> omega)]
 ·rw [if_neg h0]
  cases m with
  | true =>
   rw [if_pos rfl] at h ⊢
   rw [if_neg (by omega), if_pos (by omega), show b - a = A by omega]
  | false =>
   rw [if_neg (by simp)] at h ⊢
   rw [if_pos (by omega), show a - b = A by omega, Nat.zero_add]
theorem exact_sum (l : List Nat) (n : Nat) (hl : l.length ≤ 1000) (hf : Fin l) (hn : n ≠ 0) (hn2 : n ≤ 1000) {β : Type} {g : Nat → Int → Option β} {y : β} (hg : Ev (fun k => g k ((shw (ups l) (downs l) n : Nat) : Int)) y) :
  Ev (fun k => (endonymref2_Total.f k (ui l)).bind fun bt => ((endonymref2_rounded.f k bt.1 bt.2 (n : Int)).bind fun t => g k t)) y := by
 obtain ⟨z, z1, z2, z3⟩ := total_ok l hl hf
 have hr := rrounded_ok z.1 z.2 n z3 hn hn2
 rw [shw_sval (ups l) (downs l) n z z2] at hr
 exact Ev.bind z1 (Ev.bind hr hg)
def oddS (l : List Nat) : Nat × Bool := if l.any nanB then (NAN, true) else if INF ∈ l ∧ NINF ∈ l then (NAN, true) else if INF ∈ l then (INF, true) else if NINF ∈ l then (NINF, true) else (0, false)
theorem odd_loop (l : List Nat) (hl : l.length ≤ 1000) (hw : W64 l) : ∀ (d i : Nat) (up dn : Bool), i + d = l.length → (∀ x ∈ l.take i, nanB x = false) → (up = true ↔ INF ∈ l.take i) → (dn = true ↔ NINF ∈ l.take i) →
  Ev (fun k => endonymref2_odd.l0 k (ui l) up dn (i : Int)) (((oddS l).1 : Int), (oddS l).2)
 | 0, i, up, dn, hi, hn, hu, hd => by
  rw [List.take_of_length_le (by omega)] at hn hu hd
  have hany : l.any nanB = false := by rw [List.any_eq_false]; intro x hx; rw [hn x hx]; simp
  have e : oddS l = if up = true ∧ dn = true then (NAN, true) else if up = true then (INF, true) else if dn = true then (NINF, true) else (0, false) := by
   unfold oddS
   rw [hany, if_neg (by simp)]
   simp only [hu, hd]
  rw [e]
  have hs : ∀ k, endonymref2_odd.l0 (k + 2) (ui l) up dn (i : Int) = some ((((if up = true ∧ dn = true then (NAN, true) else if up = true then (INF, true) else if dn = true then (NINF, true) else (0, false)) : Nat × Bool).1 : Int), ((if up = true ∧ dn = true then (NAN, true) else if up = true then (INF, true) else if dn = true then (NINF, true) else (0, false)) : Nat × Bool).2) := by
   intro k
   rw [endonymref2_odd.l0, if_neg (by rw [ui_len]; omega)]
   cases up <;> cases dn <;> simp [endonymref2_odd.j1]
  refine ⟨2, fun k hk => ?_⟩
  obtain ⟨j, rfl⟩ : ∃ j, k = j + 2 := ⟨k - 2, by omega⟩
  exact hs j
 | d + 1, i, up, dn, hi, hn, hu, hd => by
  have hlt : i < l.length := by omega
  obtain ⟨x, hx⟩ : ∃ x, l[i] = x := ⟨_, rfl⟩
  have hxw := hw x (by rw [← hx]; exact List.getElem_mem hlt)
  have ea : Go.bits .andNot .u64 (x : Int) 9223372036854775808 = ((x % P63 : Nat) : Int) := andNot_sign' x hxw
  by_cases hnan : nanB x = true
  ·have hany : l.any nanB = true := List.any_eq_true.2 ⟨x, by rw [← hx]; exact List.getElem_mem hlt, hnan⟩
   have e : oddS l = (NAN, true) := by unfold oddS; rw [hany, if_pos rfl]
   rw [e]
   have hgt : INF < x % P63 := of_decide_eq_true hnan
   refine Ev.step (f := fun _ => some ((NAN : Int), true)) (fun k => ?_) (Ev.now _)
   rw [endonymref2_odd.l0, if_pos (by rw [ui_len]; omega), if_pos (by omega), ui_rd l i hlt, hx, ea, if_pos (by unfold INF at hgt; omega)]
   rfl
  ·have hnf : nanB x = false := by simpa using hnan
   have hle : ¬ INF < x % P63 := of_decide_eq_false hnf
   have ih := odd_loop l hl hw d (i + 1) (up || decide (x = INF)) (dn || decide (x = NINF)) (by omega) (by
    intro y hy
    rcases (mem_take_succ hlt y).1 hy with h | h
    ·exact hn y h
    ·rw [← h, hx]; exact hnf) (by rw [Bool.or_eq_true, decide_eq_true_iff, hu, mem_take_succ hlt, hx]) (by rw [Bool.or_eq_true, decide_eq_true_iff, hd, mem_take_succ hlt, hx])
   refine Ev.step (fun k => ?_) ih
   have b1 : ((x : Int) == 9218868437227405312) = decide (x = INF) := by
    rw [Bool.eq_iff_iff, beq_iff_eq, decide_eq_true_iff]; unfold INF; omega
   have b2 : ((x : Int) == 18442240474082181120) = decide (x = NINF) := by
    rw [Bool.eq_iff_iff, beq_iff_eq, decide_eq_true_iff]; unfold NINF; omega
   rw [endonymref2_odd.l0, if_pos (by rw [ui_len]; omega), if_pos (by omega), ui_rd l i hlt, hx, ea, if_neg (by unfold INF at hle; omega), b1, b2, succ_w i (by omega)]
   cases up <;> cases dn <;> simp
theorem odd_ok (l : List Nat) (hl : l.length ≤ 1000) (hw : W64 l) : Ev (fun k => endonymref2_odd.f k (ui l)) (((oddS l).1 : Int), (oddS l).2) :=
 odd_loop l hl hw l.length 0 false false (by omega) (by intro x hx; simp at hx) (by simp) (by simp)
theorem oddS_snd (l : List Nat) (hw : W64 l) : (oddS l).2 = l.any oddB := by
 by_cases h : l.any oddB = true
 ·rw [h]
  obtain ⟨x, hx, ho⟩ := List.any_eq_true.1 h
  have ho' : INF ≤ x % P63 := of_decide_eq_true ho
  have hxw := hw x hx
  unfold oddS
  by_cases h1 : l.any nanB = true
  ·rw [if_pos h1]
  ·rw [if_neg h1]
   have hnb : ¬ INF < x % P63 := fun hc => h1 (List.any_eq_true.2 ⟨x, hx, decide_eq_true hc⟩)
   have hxe : x = INF ∨ x = NINF := by unfold INF NINF P63 at *; omega
   by_cases h2 : INF ∈ l ∧ NINF ∈ l
   ·rw [if_pos h2]
   ·rw [if_neg h2]
    by_cases h3 : INF ∈ l
    ·rw [if_pos h3]
    ·rw [if_neg h3, if_pos]
     rcases hxe with e | e
     ·exact absurd (e ▸ hx) h3
     ·exact e ▸ hx
 ·have hall : ∀ x ∈ l, ¬ INF ≤ x % P63 := fun x hx hc => h (List.any_eq_true.2 ⟨x, hx, decide_eq_true hc⟩)
  have hf : l.any oddB = false := by simpa using h
  rw [hf]
  unfold oddS
  have h1 : l.any nanB = false := by
   rw [List.any_eq_false]; intro x hx hc
   exact hall x hx (Nat.le_of_lt (of_decide_eq_true hc))
  have h2 : ¬ INF ∈ l := fun hc => hall INF hc (by decide)
  have h3 : ¬ NINF ∈ l := fun hc => hall NINF hc (by decide)
  rw [h1, if_neg (by simp), if_neg (fun hc => h2 hc.1), if_neg h2, if_neg h3]
theorem fin_of_odd {l : List Nat} (hw : W64 l) (h : l.any oddB = false) : Fin l := by
 intro x hx
 refine ⟨hw x hx, Nat.not_le.1 fun hc => ?_⟩
 rw [List.any_eq_false] at h
 exact h x hx (decide_eq_true hc)
theorem ui_of (l : List Int) (hw : ∀ x ∈ l, 0 ≤ x ∧ x ≤ 18446744073709551615) : ui (l.map Int.toNat) = l ∧ W64 (l.map Int.toNat) := by
 constructor
 ·unfold ui
  rw [List.map_map]
  conv => rhs; rw [← List.map_id l]
  refine List.map_congr_left fun x hx => ?_
  have := hw x hx
  show ((x.toNat : Nat) : Int) = x
  omega
 ·intro z hz
  obtain ⟨y, hy, rfl⟩ := List.mem_map.1 hz
  have := hw y hy
  omega
end Go.Proofs.YtfmjdoofopamkaaGreatDoor.Plain
