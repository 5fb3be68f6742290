import Derived.Test.YtfmjdoofopamkaaGreatDoorPlR
import Derived.Laws.NewFold
import Derived.Test.YtfmjdoofopamkaaGreatDoorWx8
namespace Go.Proofs.YtfmjdoofopamkaaGreatDoor.Plain
open Go.RowKit Go.Proofs.YtfmjdoofopamkaaGreatDoorW.PrintWords Go.Proofs.YtfmjdoofopamkaaGreatDoorW.PrintLast Go.Proofs.YtfmjdoofopamkaaGreatDoorW.PrintMore Go.Proofs.YtfmjdoofopamkaaGreatDoor.W
set_option linter.unusedVariables false
set_option linter.unusedSimpArgs false
attribute [local go_sem] max2_int min2_int max_two min_two max_three min_three max_four min_four
def Agree (r X : Nat) : Prop := r < 18446744073709551616 ∧ (if nanB X then nanB r = true else r = X)
def nanOf (x y : Nat) (w : World) : Nat := (Question.nanBits .f64 x y).cut (w.tape w.drawn (.nanBits .f64 x y))
theorem nanOf_nan (x y : Nat) (w : World) : nanOf x y w < 18446744073709551616 ∧ nanB (nanOf x y w) = true := by
 unfold nanOf Question.cut
 simp only
 obtain ⟨t, ht⟩ : ∃ t, w.tape w.drawn (.nanBits .f64 x y) = t := ⟨_, rfl⟩
 rw [ht]
 have h1 : (t / 2) % (2 ^ 52 - 1) < 2 ^ 52 - 1 := Nat.mod_lt _ (by decide)
 have h2 : t % 2 < 2 := Nat.mod_lt _ (by decide)
 generalize (t / 2) % (2 ^ 52 - 1) = b at h1 ⊢
 generalize t % 2 = a at h2 ⊢
 refine ⟨by omega, ?_⟩
 unfold nanB INF P63
 refine decide_eq_true ?_
 have : a = 0 ∨ a = 1 := by omega
 rcases this with rfl | rfl <;> omega
theorem run_add_nan {P : Program} (t : TypeId) (x y : Nat) (h : floatBits .add .f64 x y = none) (w : World) : (binOp .add t (.float .f64 x) (.float .f64 y)).run P w = .ok (.float .f64 (nanOf x y w)) w.drew := by
 unfold floatBits at h
 simp only at h
 simp [binOp, Op.floatArith, h, nanOf, run_choose_drew, Question.forced]
def addC (x y : Nat) : Nat := (floatBits .add .f64 x y).getD NAN
def sumC (x : Nat) : List Nat → Nat
 | [] => x
 | y :: l => sumC (addC x y) l
theorem read_nan (x : Nat) (h : nanB x = true) : ∃ s q, FloatKind.f64.format.read x = .nan s q := by
 have h1 : INF < x % P63 := of_decide_eq_true h
 unfold INF P63 at h1
 rw [read64, if_neg (by omega), if_neg (by omega), if_neg (by omega)]
 exact ⟨_, _, rfl⟩
theorem add_nan_l (x y : Nat) (h : nanB x = true) : floatBits .add .f64 x y = none := by
 obtain ⟨s, q, e⟩ := read_nan x h
 show ((FloatKind.f64.format.read x).sum (FloatKind.f64.format.read y)).map _ = none
 rw [e]; rfl
theorem add_nan_r (x y : Nat) (h : nanB y = true) : floatBits .add .f64 x y = none := by
 obtain ⟨s, q, e⟩ := read_nan y h
 show ((FloatKind.f64.format.read x).sum (FloatKind.f64.format.read y)).map _ = none
 rw [e]
 cases FloatKind.f64.format.read x <;> rfl
theorem nan_NAN : nanB NAN = true := by decide
theorem agree_self {x : Nat} (h : x < 18446744073709551616) : Agree x x := ⟨h, by cases nanB x <;> simp⟩
theorem agree_add {b X c Y : Nat} (h : Agree b X) (h2 : Agree c Y) : (∃ t, floatBits .add .f64 b c = some t ∧ Agree t (addC X Y)) ∨ (floatBits .add .f64 b c = none ∧ nanB (addC X Y) = true) := by
 by_cases hX : nanB X = true
 ·right
  have hb := h.2
  rw [if_pos hX] at hb
  refine ⟨add_nan_l b c hb, ?_⟩
  unfold addC
  rw [add_nan_l X Y hX]; exact nan_NAN
 ·have hb := h.2
  rw [if_neg hX] at hb
  subst hb
  by_cases hY : nanB Y = true
  ·right
   have hc := h2.2
   rw [if_pos hY] at hc
   refine ⟨add_nan_r b c hc, ?_⟩
   unfold addC
   rw [add_nan_r b Y hY]; exact nan_NAN
  ·have hc := h2.2
   rw [if_neg hY] at hc
   subst hc
   cases hf : floatBits .add .f64 b c with
   | some t =>
    left
    refine ⟨t, rfl, ?_⟩
    have e : addC b c = t := by unfold addC; rw [hf]; rfl
    rw [e]
    exact agree_self (FloatKind.f64.format.add_lt hf)
   | none =>
    right
    refine ⟨rfl, ?_⟩
    unfold addC; rw [hf]; exact nan_NAN
theorem agree_nan {x y : Nat} (w : World) {X : Nat} (h : nanB X = true) : Agree (nanOf x y w) X := ⟨(nanOf_nan x y w).1, by rw [if_pos h]; exact (nanOf_nan x y w).2⟩
theorem drop_rdOf (l : List Nat) (i : Nat) (h : i < l.length) : l.drop i = rdOf 0 l (i : Int) :: l.drop (i + 1) := by
 rw [rdOf_nat l i h]; exact List.drop_eq_getElem_cons h
set_option maxHeartbeats 8000000 in
set_option maxRecDepth 100000 in
theorem sum_callsN (A0 : Option Addr) (c0 : Nat) (l0 : List Nat) (w : World) (hr0 : Kd.C Kd.flt w A0 l0.length l0) (hc0 : l0.length ≤ c0) (hw : W64 l0) (hl : l0.length ≤ 1000) :
  Calls Tryz.prog 15 #[.slice A0 l0.length c0] w fun e w' => ∃ r, Agree r (sumC 0 l0) ∧ e = .returned (.float .f64 r) ∧ Drawn0 w w' := by
 have HR0 := Aside0.mk hr0
 have HC0 := Aside0.mk hc0
 have HW0 := Aside0.mk hw
 clear hr0 hc0 hw
 go_enter Tryz.func15, Tryz.ntmps15
 go_wp2
 go_loopg [3, 8] (l0.length + 1) (fun kq v3 v8 w' => ∃ (x3_1 : Nat) (x8_1 : Int), v3 = .float .f64 x3_1 ∧ v8 = .int .i64 x8_1 ∧ Aside0 (∃ X i : Nat, x8_1 = (i : Int) ∧ Agree x3_1 X ∧ sumC X (l0.drop i) = sumC 0 l0 ∧ i ≤ l0.length ∧ kq + i = l0.length + 1) ∧ Drawn0 w w')
 case atStart => exact ⟨0, 0, sqE, sqE, ⟨0, 0, rfl, agree_self (by omega), rfl, Nat.zero_le _, rfl⟩, sqW⟩
 case round =>
  obtain ⟨x3_1, x8_1, rfl, rfl, HA, ⟨m1, rfl⟩⟩ := hrel
  obtain ⟨X, i, hi, a1, a2, a3, hk1⟩ := HA.out
  clear HA
  by_cases c2 : x8_1 < (l0.length : Int)
  ·have hil : i < l0.length := by omega
   have hdr := drop_rdOf l0 i hil
   rw [hdr, ← hi] at a2
   have hcell : rdOf 0 l0 x8_1 < 18446744073709551616 := by rw [hi, rdOf_nat l0 i hil]; exact HW0.out _ (List.getElem_mem hil)
   have hwi : wrap64 (x8_1 + 1) = ((i + 1 : Nat) : Int) := by rw [w64 (by omega) (by omega)]; omega
   have c2b0 := decide_eq_true c2
   have p437 : 0 ≤ (x8_1 : Int) := by omega
   have q437 : x8_1 < (l0.length : Int) := c2
   obtain ⟨ad437, e437, hx437_0⟩ := Kd.at_flt HR0.out x8_1 p437 q437
   cases e437
   have hst : ∀ t : Nat, Agree t (addC X (rdOf 0 l0 x8_1)) → Aside0 (∃ X' i' : Nat, wrap64 (x8_1 + 1) = (i' : Int) ∧ Agree t X' ∧ sumC X' (l0.drop i') = sumC 0 l0 ∧ i' ≤ l0.length ∧ gk - 1 + i' = l0.length + 1) := fun t ht =>
    ⟨addC X (rdOf 0 l0 x8_1), i + 1, hwi, ht, a2, by omega, by omega⟩
   have hg : 0 < gk := by omega
   have HST := Aside0.mk hst
   replace p437 := eq_true p437
   replace q437 := eq_true q437
   rcases agree_add a1 (agree_self hcell) with ⟨t, f1, f2⟩ | ⟨f1, f2⟩
   ·have hf6 : ∀ w_ : World, Sem.run Tryz.prog (binOp .add 22 (.float .f64 x3_1) (.float .f64 (rdOf 0 l0 x8_1))) w_ = .ok (.float .f64 t) w_ := fun w_ => run_float_arith w_ .add 22 .f64 x3_1 (rdOf 0 l0 x8_1) t f1
    have HN := HST.out t f2
    have HG := Aside0.mk hg
    clear f1 f2 a2 hdr c2 hwi a1 hst HST hcell hi hk1 a3 hil hg
    go_wp2
    go_roundg (gk - 1)
    case measure => have := HG.out; omega
    case rel => exact ⟨t, wrap64 (x8_1 + 1), sqE, sqE, HN, sqW⟩
   ·have hf6 : ∀ w_ : World, Sem.run Tryz.prog (binOp .add 22 (.float .f64 x3_1) (.float .f64 (rdOf 0 l0 x8_1))) w_ = .ok (.float .f64 (nanOf x3_1 (rdOf 0 l0 x8_1) w_)) w_.drew := fun w_ => run_add_nan 22 x3_1 (rdOf 0 l0 x8_1) f1 w_
    have HN : ∀ w_ : World, Aside0 (∃ X' i' : Nat, wrap64 (x8_1 + 1) = (i' : Int) ∧ Agree (nanOf x3_1 (rdOf 0 l0 x8_1) w_) X' ∧ sumC X' (l0.drop i') = sumC 0 l0 ∧ i' ≤ l0.length ∧ gk - 1 + i' = l0.length + 1) := fun w_ => HST.out _ (agree_nan w_ f2)
    have HG := Aside0.mk hg
    clear f1 f2 a2 hdr c2 hwi a1 hst HST hcell hi hk1 a3 hil hg
    go_wp2
    go_roundg (gk - 1)
    case measure => have := HG.out; omega
    case rel => exact ⟨_, wrap64 (x8_1 + 1), rfl, sqE, HN _, sqW⟩
  ·have c2b0 := decide_eq_false c2
   have hie : l0.drop i = [] := List.drop_eq_nil_of_le (by omega)
   rw [hie] at a2
   have hX : X = sumC 0 l0 := a2
   rw [hX] at a1
   have HN := Aside0.mk a1
   clear a1 a2 hX hie c2 hi hk1 a3
   go_wp2
   go_ret
   exact ⟨x3_1, HN.out, rfl, sqW⟩
end Go.Proofs.YtfmjdoofopamkaaGreatDoor.Plain
