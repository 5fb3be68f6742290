import Derived.Test.YtnoppeocbfapdaaGreatDoorTx0
namespace Go.Proofs.YtnoppeocbfapdaaGreatDoor.T
open Go.RowKit Go.Proofs.YtnoppeocbfapdaaGreatDoorW.PrintWords Go.Proofs.YtnoppeocbfapdaaGreatDoorW.PrintLast Go.Proofs.YtnoppeocbfapdaaGreatDoorW.PrintMore
set_option maxHeartbeats 8000000
set_option maxRecDepth 100000
attribute [local go_sem] max2_int min2_int max_two min_two max_three min_three max_four min_four
set_option linter.unusedVariables false
set_option linter.unusedSimpArgs false
def endonymref6_Family.f (a0 : Int) : Option (Int) := if a0 < 1 then (some 0) else (if a0 > 15 then (some 0) else (if a0 = 0 then (some 0) else (if a0 = 1 then (some 1) else (if a0 = 2 then (some 1) else (if a0 = 3 then (some 1) else (if a0 = 4 then (some 1) else (if a0 = 5 then (some 1) else (if a0 = 6 then (some 2) else (if a0 = 7 then (some 3) else (if a0 = 8 then (some 3) else (if a0 = 9 then (some 4) else (if a0 = 10 then (some 5) else (if a0 = 11 then (some 6) else (if a0 = 12 then (some 7) else (if a0 = 13 then (some 8) else (if a0 = 14 then (some 9) else (if a0 = 15 then (some 10) else (none))))))))))))))))))
theorem endonymref6_Family.calls (a0 : Int) (r : Int) (w : World) (h : endonymref6_Family.f a0 = some r) :
  Calls Tryz.prog 33 #[.int .i64 a0] w fun e w' => e = .returned (.int .i64 r) ∧ Drawn0 w w' := by
 have H : (if a0 < 1 then (some 0) else (if a0 > 15 then (some 0) else (if a0 = 0 then (some 0) else (if a0 = 1 then (some 1) else (if a0 = 2 then (some 1) else (if a0 = 3 then (some 1) else (if a0 = 4 then (some 1) else (if a0 = 5 then (some 1) else (if a0 = 6 then (some 2) else (if a0 = 7 then (some 3) else (if a0 = 8 then (some 3) else (if a0 = 9 then (some 4) else (if a0 = 10 then (some 5) else (if a0 = 11 then (some 6) else (if a0 = 12 then (some 7) else (if a0 = 13 then (some 8) else (if a0 = 14 then (some 9) else (if a0 = 15 then (some 10) else (none))))))))))))))))))) = some r := h
 clear h
 by_cases c2 : a0 < 1
 ·rw [if_pos c2] at H
  have c2b0 := decide_eq_true c2
  clear c2
  obtain rfl := Option.some.inj H
  go_enter Tryz.func33, Tryz.ntmps33
  go_wp2
  go_ret
  exact ⟨sqE, sqW⟩
 rw [if_neg c2] at H
 have c2b0 := decide_eq_false c2
 clear c2
 by_cases c3 : a0 > 15
 ·rw [if_pos c3] at H
  have c3b0 := decide_eq_true c3
  clear c3
  obtain rfl := Option.some.inj H
  go_enter Tryz.func33, Tryz.ntmps33
  go_wp2
  go_ret
  exact ⟨sqE, sqW⟩
 rw [if_neg c3] at H
 have c3b0 := decide_eq_false c3
 clear c3
 by_cases c4 : a0 = 0
 ·rw [if_pos c4] at H
  have c4r : ∀ w_ : World, Sem.run Tryz.prog (Instr.index 108 (Value.agg #[Value.int IntKind.i64 0, Value.int IntKind.i64 1, Value.int IntKind.i64 1, Value.int IntKind.i64 1, Value.int IntKind.i64 1, Value.int IntKind.i64 1, Value.int IntKind.i64 2, Value.int IntKind.i64 3, Value.int IntKind.i64 3, Value.int IntKind.i64 4, Value.int IntKind.i64 5, Value.int IntKind.i64 6, Value.int IntKind.i64 7, Value.int IntKind.i64 8, Value.int IntKind.i64 9, Value.int IntKind.i64 10]) (Value.int IntKind.i64 0)) w_ = Result.ok (Value.int IntKind.i64 0) w_ := fun _ => rfl
  obtain rfl := Option.some.inj H
  go_enter Tryz.func33, Tryz.ntmps33
  go_wp2
  go_ret
  exact ⟨sqE, sqW⟩
 rw [if_neg c4] at H
 by_cases c5 : a0 = 1
 ·rw [if_pos c5] at H
  have c5r : ∀ w_ : World, Sem.run Tryz.prog (Instr.index 108 (Value.agg #[Value.int IntKind.i64 0, Value.int IntKind.i64 1, Value.int IntKind.i64 1, Value.int IntKind.i64 1, Value.int IntKind.i64 1, Value.int IntKind.i64 1, Value.int IntKind.i64 2, Value.int IntKind.i64 3, Value.int IntKind.i64 3, Value.int IntKind.i64 4, Value.int IntKind.i64 5, Value.int IntKind.i64 6, Value.int IntKind.i64 7, Value.int IntKind.i64 8, Value.int IntKind.i64 9, Value.int IntKind.i64 10]) (Value.int IntKind.i64 1)) w_ = Result.ok (Value.int IntKind.i64 1) w_ := fun _ => rfl
  obtain rfl := Option.some.inj H
  go_enter Tryz.func33, Tryz.ntmps33
  go_wp2
  go_ret
  exact ⟨sqE, sqW⟩
 rw [if_neg c5] at H
 by_cases c6 : a0 = 2
 ·rw [if_pos c6] at H
  have c6r : ∀ w_ : World, Sem.run Tryz.prog (Instr.index 108 (Value.agg #[Value.int IntKind.i64 0, Value.int IntKind.i64 1, Value.int IntKind.i64 1, Value.int IntKind.i64 1, Value.int IntKind.i64 1, Value.int IntKind.i64 1, Value.int IntKind.i64 2, Value.int IntKind.i64 3, Value.int IntKind.i64 3, Value.int IntKind.i64 4, Value.int IntKind.i64 5, Value.int IntKind.i64 6, Value.int IntKind.i64 7, Value.int IntKind.i64 8, Value.int IntKind.i64 9, Value.int IntKind.i64 10]) (Value.int IntKind.i64 2)) w_ = Result.ok (Value.int IntKind.i64 1) w_ := fun _ => rfl
  obtain rfl := Option.some.inj H
  go_enter Tryz.func33, Tryz.ntmps33
  go_wp2
  go_ret
  exact ⟨sqE, sqW⟩
 rw [if_neg c6] at H
 by_cases c7 : a0 = 3
 ·rw [if_pos c7] at H
  have c7r : ∀ w_ : World, Sem.run Tryz.prog (Instr.index 108 (Value.agg #[Value.int IntKind.i64 0, Value.int IntKind.i64 1, Value.int IntKind.i64 1, Value.int IntKind.i64 1, Value.int IntKind.i64 1, Value.int IntKind.i64 1, Value.int IntKind.i64 2, Value.int IntKind.i64 3, Value.int IntKind.i64 3, Value.int IntKind.i64 4, Value.int IntKind.i64 5, Value.int IntKind.i64 6, Value.int IntKind.i64 7, Value.int IntKind.i64 8, Value.int IntKind.i64 9, Value.int IntKind.i64 10]) (Value.int IntKind.i64 3)) w_ = Result.ok (Value.int IntKind.i64 1) w_ := fun _ => rfl
  obtain rfl := Option.some.inj H
  go_enter Tryz.func33, Tryz.ntmps33
  go_wp2
  go_ret
  exact ⟨sqE, sqW⟩
 rw [if_neg c7] at H
 by_cases c8 : a0 = 4
 ·rw [if_pos c8] at H
  have c8r : ∀ w_ : World, Sem.run Tryz.prog (Instr.index 108 (Value.agg #[Value.int IntKind.i64 0, Value.int IntKind.i64 1, Value.int IntKind.i64 1, Value.int IntKind.i64 1, Value.int IntKind.i64 1, Value.int IntKind.i64 1, Value.int IntKind.i64 2, Value.int IntKind.i64 3, Value.int IntKind.i64 3, Value.int IntKind.i64 4, Value.int IntKind.i64 5, Value.int IntKind.i64 6, Value.int IntKind.i64 7, Value.int IntKind.i64 8, Value.int IntKind.i64 9, Value.int IntKind.i64 10]) (Value.int IntKind.i64 4)) w_ = Result.ok (Value.int IntKind.i64 1) w_ := fun _ => rfl
  obtain rfl := Option.some.inj H
  go_enter Tryz.func33, Tryz.ntmps33
  go_wp2
  go_ret
  exact ⟨sqE, sqW⟩
 rw [if_neg c8] at H
 by_cases c9 : a0 = 5
 ·rw [if_pos c9] at H
  have c9r : ∀ w_ : World, Sem.run Tryz.prog (Instr.index 108 (Value.agg #[Value.int IntKind.i64 0, Value.int IntKind.i64 1, Value.int IntKind.i64 1, Value.int IntKind.i64 1, Value.int IntKind.i64 1, Value.int IntKind.i64 1, Value.int IntKind.i64 2, Value.int IntKind.i64 3, Value.int IntKind.i64 3, Value.int IntKind.i64 4, Value.int IntKind.i64 5, Value.int IntKind.i64 6, Value.int IntKind.i64 7, Value.int IntKind.i64 8, Value.int IntKind.i64 9, Value.int IntKind.i64 10]) (Value.int IntKind.i64 5)) w_ = Result.ok (Value.int IntKind.i64 1) w_ := fun _ => rfl
  obtain rfl := Option.some.inj H
  go_enter Tryz.func33, Tryz.ntmps33
  go_wp2
  go_ret
  exact ⟨sqE, sqW⟩
 rw [if_neg c9] at H
 by_cases c10 : a0 = 6
 ·rw [if_pos c10] at H
  have c10r : ∀ w_ : World, Sem.run Tryz.prog (Instr.index 108 (Value.agg #[Value.int IntKind.i64 0, Value.int IntKind.i64 1, Value.int IntKind.i64 1, Value.int IntKind.i64 1, Value.int IntKind.i64 1, Value.int IntKind.i64 1, Value.int IntKind.i64 2, Value.int IntKind.i64 3, Value.int IntKind.i64 3, Value.int IntKind.i64 4, Value.int IntKind.i64 5, Value.int IntKind.i64 6, Value.int IntKind.i64 7, Value.int IntKind.i64 8, Value.int IntKind.i64 9, Value.int IntKind.i64 10]) (Value.int IntKind.i64 6)) w_ = Result.ok (Value.int IntKind.i64 2) w_ := fun _ => rfl
  obtain rfl := Option.some.inj H
  go_enter Tryz.func33, Tryz.ntmps33
  go_wp2
  go_ret
  exact ⟨sqE, sqW⟩
 rw [if_neg c10] at H
 by_cases c11 : a0 = 7
 ·rw [if_pos c11] at H
  have c11r : ∀ w_ : World, Sem.run Tryz.prog (Instr.index 108 (Value.agg #[Value.int IntKind.i64 0, Value.int IntKind.i64 1, Value.int IntKind.i64 1, Value.int IntKind.i64 1, Value.int IntKind.i64 1, Value.int IntKind.i64 1, Value.int IntKind.i64 2, Value.int IntKind.i64 3, Value.int IntKind.i64 3, Value.int IntKind.i64 4, Value.int IntKind.i64 5, Value.int IntKind.i64 6, Value.int IntKind.i64 7, Value.int IntKind.i64 8, Value.int IntKind.i64 9, Value.int IntKind.i64 10]) (Value.int IntKind.i64 7)) w_ = Result.ok (Value.int IntKind.i64 3) w_ := fun _ => rfl
  obtain rfl := Option.some.inj H
  go_enter Tryz.func33, Tryz.ntmps33
  go_wp2
  go_ret
  exact ⟨sqE, sqW⟩
 rw [if_neg c11] at H
 by_cases c12 : a0 = 8
 ·rw [if_pos c12] at H
  have c12r : ∀ w_ : World, Sem.run Tryz.prog (Instr.index 108 (Value.agg #[Value.int IntKind.i64 0, Value.int IntKind.i64 1, Value.int IntKind.i64 1, Value.int IntKind.i64 1, Value.int IntKind.i64 1, Value.int IntKind.i64 1, Value.int IntKind.i64 2, Value.int IntKind.i64 3, Value.int IntKind.i64 3, Value.int IntKind.i64 4, Value.int IntKind.i64 5, Value.int IntKind.i64 6, Value.int IntKind.i64 7, Value.int IntKind.i64 8, Value.int IntKind.i64 9, Value.int IntKind.i64 10]) (Value.int IntKind.i64 8)) w_ = Result.ok (Value.int IntKind.i64 3) w_ := fun _ => rfl
  obtain rfl := Option.some.inj H
  go_enter Tryz.func33, Tryz.ntmps33
  go_wp2
  go_ret
  exact ⟨sqE, sqW⟩
 rw [if_neg c12] at H
 by_cases c13 : a0 = 9
 ·rw [if_pos c13] at H
  have c13r : ∀ w_ : World, Sem.run Tryz.prog (Instr.index 108 (Value.agg #[Value.int IntKind.i64 0, Value.int IntKind.i64 1, Value.int IntKind.i64 1, Value.int IntKind.i64 1, Value.int IntKind.i64 1, Value.int IntKind.i64 1, Value.int IntKind.i64 2, Value.int IntKind.i64 3, Value.int IntKind.i64 3, Value.int IntKind.i64 4, Value.int IntKind.i64 5, Value.int IntKind.i64 6, Value.int IntKind.i64 7, Value.int IntKind.i64 8, Value.int IntKind.i64 9, Value.int IntKind.i64 10]) (Value.int IntKind.i64 9)) w_ = Result.ok (Value.int IntKind.i64 4) w_ := fun _ => rfl
  obtain rfl := Option.some.inj H
  go_enter Tryz.func33, Tryz.ntmps33
  go_wp2
  go_ret
  exact ⟨sqE, sqW⟩
 rw [if_neg c13] at H
 by_cases c14 : a0 = 10
 ·rw [if_pos c14] at H
  have c14r : ∀ w_ : World, Sem.run Tryz.prog (Instr.index 108 (Value.agg #[Value.int IntKind.i64 0, Value.int IntKind.i64 1, Value.int IntKind.i64 1, Value.int IntKind.i64 1, Value.int IntKind.i64 1, Value.int IntKind.i64 1, Value.int IntKind.i64 2, Value.int IntKind.i64 3, Value.int IntKind.i64 3, Value.int IntKind.i64 4, Value.int IntKind.i64 5, Value.int IntKind.i64 6, Value.int IntKind.i64 7, Value.int IntKind.i64 8, Value.int IntKind.i64 9, Value.int IntKind.i64 10]) (Value.int IntKind.i64 10)) w_ = Result.ok (Value.int IntKind.i64 5) w_ := fun _ => rfl
  obtain rfl := Option.some.inj H
  go_enter Tryz.func33, Tryz.ntmps33
  go_wp2
  go_ret
  exact ⟨sqE, sqW⟩
 rw [if_neg c14] at H
 by_cases c15 : a0 = 11
 ·rw [if_pos c15] at H
  have c15r : ∀ w_ : World, Sem.run Tryz.prog (Instr.index 108 (Value.agg #[Value.int IntKind.i64 0, Value.int IntKind.i64 1, Value.int IntKind.i64 1, Value.int IntKind.i64 1, Value.int IntKind.i64 1, Value.int IntKind.i64 1, Value.int IntKind.i64 2, Value.int IntKind.i64 3, Value.int IntKind.i64 3, Value.int IntKind.i64 4, Value.int IntKind.i64 5, Value.int IntKind.i64 6, Value.int IntKind.i64 7, Value.int IntKind.i64 8, Value.int IntKind.i64 9, Value.int IntKind.i64 10]) (Value.int IntKind.i64 11)) w_ = Result.ok (Value.int IntKind.i64 6) w_ := fun _ => rfl
  obtain rfl := Option.some.inj H
  go_enter Tryz.func33, Tryz.ntmps33
  go_wp2
  go_ret
  exact ⟨sqE, sqW⟩
 rw [if_neg c15] at H
 by_cases c16 : a0 = 12
 ·rw [if_pos c16] at H
  have c16r : ∀ w_ : World, Sem.run Tryz.prog (Instr.index 108 (Value.agg #[Value.int IntKind.i64 0, Value.int IntKind.i64 1, Value.int IntKind.i64 1, Value.int IntKind.i64 1, Value.int IntKind.i64 1, Value.int IntKind.i64 1, Value.int IntKind.i64 2, Value.int IntKind.i64 3, Value.int IntKind.i64 3, Value.int IntKind.i64 4, Value.int IntKind.i64 5, Value.int IntKind.i64 6, Value.int IntKind.i64 7, Value.int IntKind.i64 8, Value.int IntKind.i64 9, Value.int IntKind.i64 10]) (Value.int IntKind.i64 12)) w_ = Result.ok (Value.int IntKind.i64 7) w_ := fun _ => rfl
  obtain rfl := Option.some.inj H
  go_enter Tryz.func33, Tryz.ntmps33
  go_wp2
  go_ret
  exact ⟨sqE, sqW⟩
 rw [if_neg c16] at H
 by_cases c17 : a0 = 13
 ·rw [if_pos c17] at H
  have c17r : ∀ w_ : World, Sem.run Tryz.prog (Instr.index 108 (Value.agg #[Value.int IntKind.i64 0, Value.int IntKind.i64 1, Value.int IntKind.i64 1, Value.int IntKind.i64 1, Value.int IntKind.i64 1, Value.int IntKind.i64 1, Value.int IntKind.i64 2, Value.int IntKind.i64 3, Value.int IntKind.i64 3, Value.int IntKind.i64 4, Value.int IntKind.i64 5, Value.int IntKind.i64 6, Value.int IntKind.i64 7, Value.int IntKind.i64 8, Value.int IntKind.i64 9, Value.int IntKind.i64 10]) (Value.int IntKind.i64 13)) w_ = Result.ok (Value.int IntKind.i64 8) w_ := fun _ => rfl
  obtain rfl := Option.some.inj H
  go_enter Tryz.func33, Tryz.ntmps33
  go_wp2
  go_ret
  exact ⟨sqE, sqW⟩
 rw [if_neg c17] at H
 by_cases c18 : a0 = 14
 ·rw [if_pos c18] at H
  have c18r : ∀ w_ : World, Sem.run Tryz.prog (Instr.index 108 (Value.agg #[Value.int IntKind.i64 0, Value.int IntKind.i64 1, Value.int IntKind.i64 1, Value.int IntKind.i64 1, Value.int IntKind.i64 1, Value.int IntKind.i64 1, Value.int IntKind.i64 2, Value.int IntKind.i64 3, Value.int IntKind.i64 3, Value.int IntKind.i64 4, Value.int IntKind.i64 5, Value.int IntKind.i64 6, Value.int IntKind.i64 7, Value.int IntKind.i64 8, Value.int IntKind.i64 9, Value.int IntKind.i64 10]) (Value.int IntKind.i64 14)) w_ = Result.ok (Value.int IntKind.i64 9) w_ := fun _ => rfl
  obtain rfl := Option.some.inj H
  go_enter Tryz.func33, Tryz.ntmps33
  go_wp2
  go_ret
  exact ⟨sqE, sqW⟩
 rw [if_neg c18] at H
 by_cases c19 : a0 = 15
 case neg => rw [if_neg c19] at H; exact absurd H (by simp)
 rw [if_pos c19] at H
 have c19r : ∀ w_ : World, Sem.run Tryz.prog (Instr.index 108 (Value.agg #[Value.int IntKind.i64 0, Value.int IntKind.i64 1, Value.int IntKind.i64 1, Value.int IntKind.i64 1, Value.int IntKind.i64 1, Value.int IntKind.i64 1, Value.int IntKind.i64 2, Value.int IntKind.i64 3, Value.int IntKind.i64 3, Value.int IntKind.i64 4, Value.int IntKind.i64 5, Value.int IntKind.i64 6, Value.int IntKind.i64 7, Value.int IntKind.i64 8, Value.int IntKind.i64 9, Value.int IntKind.i64 10]) (Value.int IntKind.i64 15)) w_ = Result.ok (Value.int IntKind.i64 10) w_ := fun _ => rfl
 obtain rfl := Option.some.inj H
 go_enter Tryz.func33, Tryz.ntmps33
 go_wp2
 go_ret
 exact ⟨sqE, sqW⟩
def endonymref6_step.f (a0_0 : Int) (a0_1 : Int) (a0_2 : Int) (a0_3 : Int) (l0_4 : List Int) (a0_5 : ByteArray) (a0_6 : ByteArray) (a0_7 : Nat) : Option (Int) := if a0_0 = 4 then (some (mx a0_3 0)) else (some 1)
theorem endonymref6_step.calls (a0_0 : Int) (a0_1 : Int) (a0_2 : Int) (a0_3 : Int) (A0_4 : Option Addr) (c0_4 : Nat) (l0_4 : List Int) (a0_5 : ByteArray) (a0_6 : ByteArray) (a0_7 : Nat) (r : Int) (w : World) (hr0_4 : Kd.C (Kd.int .i32) w A0_4 l0_4.length l0_4) (hc0_4 : l0_4.length ≤ c0_4) (h : endonymref6_step.f a0_0 a0_1 a0_2 a0_3 l0_4 a0_5 a0_6 a0_7 = some r) :
  Calls Tryz.prog 92 #[.agg #[.int .i64 a0_0, .int .i64 a0_1, .int .i64 a0_2, .int .i64 a0_3, .slice A0_4 l0_4.length c0_4, .string a0_5, .string a0_6, .float .f64 a0_7]] w fun e w' => e = .returned (.int .i64 r) ∧ Below w.heap.size w w' := by
 have hu25 := Tryz.underlying25
 have HR0_4 := Aside0.mk hr0_4
 have HC0_4 := Aside0.mk hc0_4
 clear hr0_4 hc0_4
 have HB := Aside0.mk (Below.refl w.heap.size w)
 have H : (if a0_0 = 4 then (some (mx a0_3 0)) else (some 1)) = some r := h
 clear h
 by_cases c2 : a0_0 = 4
 case neg =>
  rw [if_neg c2] at H
  have c2b0 := beq_eq_false_iff_ne.mpr c2
  have c2b1 := bne_iff_ne.mpr c2
  obtain rfl := Option.some.inj H
  go_enter Tryz.func92, Tryz.ntmps92
  go_wp2_with (first | ((with_reducible refine gate_dst (N := 1) rfl ?_); refine box_event ?hg (N := 1) ?hd (cs := #[.int .i64 a0_0, .int .i64 a0_1, .int .i64 a0_2, .int .i64 a0_3, .slice A0_4 l0_4.length c0_4, .string a0_5, .string a0_6, .float .f64 a0_7]) (t := 25) ?hr ?_; (case hd => rfl); (case hg => rfl); (case hr => first | (go_simp; done) | (go_simp; rfl)); intro gb546 hg w6 hbox hb; have n0_ := Aside0.mk (below_step sqB hb); have n1_ := Aside0.mk (hbox); have n2_ := Aside0.mk ((by rw [hg]; exact (below_size sqB) : w.heap.size ≤ gb546)); have n3_ := Aside0.mk ((by rw [hg]; exact (below_size sqB) : w.heap.size ≤ gb546)); clear HB; have HB := n0_; have BK546 := n1_; have GW546 := n2_; have GE546 := n3_; clear n0_ n1_ n2_ n3_; clear hb hbox hg; have hcz7_0 : w6.cell? ⟨gb546, 0, none⟩ = some (.int .i64 a0_0) := (blk_cell BK546.out 0).trans rfl; have hcz7_1 : w6.cell? ⟨gb546, 1, none⟩ = some (.int .i64 a0_1) := (blk_cell BK546.out 1).trans rfl; have hcz7_2 : w6.cell? ⟨gb546, 2, none⟩ = some (.int .i64 a0_2) := (blk_cell BK546.out 2).trans rfl; have hcz7_3 : w6.cell? ⟨gb546, 3, none⟩ = some (.int .i64 a0_3) := (blk_cell BK546.out 3).trans rfl; have hcz7_4 : w6.cell? ⟨gb546, 4, none⟩ = some (.slice A0_4 l0_4.length c0_4) := (blk_cell BK546.out 4).trans rfl; have hcz7_5 : w6.cell? ⟨gb546, 5, none⟩ = some (.string a0_5) := (blk_cell BK546.out 5).trans rfl; have hcz7_6 : w6.cell? ⟨gb546, 6, none⟩ = some (.string a0_6) := (blk_cell BK546.out 6).trans rfl; have hcz7_7 : w6.cell? ⟨gb546, 7, none⟩ = some (.float .f64 a0_7) := (blk_cell BK546.out 7).trans rfl; have hfz7_0 := blk_frozen BK546.out 0; have hfz7_1 := blk_frozen BK546.out 1; have hfz7_2 := blk_frozen BK546.out 2; have hfz7_3 := blk_frozen BK546.out 3; have hfz7_4 := blk_frozen BK546.out 4; have hfz7_5 := blk_frozen BK546.out 5; have hfz7_6 := blk_frozen BK546.out 6; have hfz7_7 := blk_frozen BK546.out 7))
  go_ret
  exact ⟨sqE', by repeat (first | (with_reducible first | exact HB.out | apply below_alloc | apply pw_below_drewN | apply below_drew1 | refine below_set ?_ GE546.out) | exact HB.out)⟩
 rw [if_pos c2] at H
 have c2b0 := beq_iff_eq.mpr c2
 have c2b1 := bne_eq_false_iff_eq.mpr c2
 clear c2
 obtain ⟨ji3, hji3⟩ : ∃ j_ : Int, (mx a0_3 0) = j_ := ⟨_, rfl⟩
 replace H : (some ji3) = some r := by first | (rw [hji3] at H; exact H) | (simp only [hji3] at H ⊢; exact H)
 (try (have hji3l : 0 ≤ ji3 := by (rw [← hji3]; unfold mx; (repeat' split) <;> omega)))
 (try (have hji3m : 0 ≤ ji3 := by omega))
 have hji3_ : (if a0_3 < 0 then 0 else a0_3) = ji3 := hji3
 obtain rfl := Option.some.inj H
 go_enter Tryz.func92, Tryz.ntmps92
 go_wp2_with (first | ((with_reducible refine gate_dst (N := 1) rfl ?_); refine box_event ?hg (N := 1) ?hd (cs := #[.int .i64 a0_0, .int .i64 a0_1, .int .i64 a0_2, .int .i64 a0_3, .slice A0_4 l0_4.length c0_4, .string a0_5, .string a0_6, .float .f64 a0_7]) (t := 25) ?hr ?_; (case hd => rfl); (case hg => rfl); (case hr => first | (go_simp; done) | (go_simp; rfl)); intro gb546 hg w4 hbox hb; have n0_ := Aside0.mk (below_step sqB hb); have n1_ := Aside0.mk (hbox); have n2_ := Aside0.mk ((by rw [hg]; exact (below_size sqB) : w.heap.size ≤ gb546)); have n3_ := Aside0.mk ((by rw [hg]; exact (below_size sqB) : w.heap.size ≤ gb546)); clear HB; have HB := n0_; have BK546 := n1_; have GW546 := n2_; have GE546 := n3_; clear n0_ n1_ n2_ n3_; clear hb hbox hg; have hcz5_0 : w4.cell? ⟨gb546, 0, none⟩ = some (.int .i64 a0_0) := (blk_cell BK546.out 0).trans rfl; have hcz5_1 : w4.cell? ⟨gb546, 1, none⟩ = some (.int .i64 a0_1) := (blk_cell BK546.out 1).trans rfl; have hcz5_2 : w4.cell? ⟨gb546, 2, none⟩ = some (.int .i64 a0_2) := (blk_cell BK546.out 2).trans rfl; have hcz5_3 : w4.cell? ⟨gb546, 3, none⟩ = some (.int .i64 a0_3) := (blk_cell BK546.out 3).trans rfl; have hcz5_4 : w4.cell? ⟨gb546, 4, none⟩ = some (.slice A0_4 l0_4.length c0_4) := (blk_cell BK546.out 4).trans rfl; have hcz5_5 : w4.cell? ⟨gb546, 5, none⟩ = some (.string a0_5) := (blk_cell BK546.out 5).trans rfl; have hcz5_6 : w4.cell? ⟨gb546, 6, none⟩ = some (.string a0_6) := (blk_cell BK546.out 6).trans rfl; have hcz5_7 : w4.cell? ⟨gb546, 7, none⟩ = some (.float .f64 a0_7) := (blk_cell BK546.out 7).trans rfl; have hfz5_0 := blk_frozen BK546.out 0; have hfz5_1 := blk_frozen BK546.out 1; have hfz5_2 := blk_frozen BK546.out 2; have hfz5_3 := blk_frozen BK546.out 3; have hfz5_4 := blk_frozen BK546.out 4; have hfz5_5 := blk_frozen BK546.out 5; have hfz5_6 := blk_frozen BK546.out 6; have hfz5_7 := blk_frozen BK546.out 7))
 go_ret
 exact ⟨by first | rfl | (simp [errW_none, errW_some] <;> rfl) | (simp only [← hji3]; first | rfl | (simp [errW_none, errW_some] <;> rfl)) | (simp [*, errW_none, errW_some] <;> rfl), by repeat (first | (with_reducible first | exact HB.out | apply below_alloc | apply pw_below_drewN | apply below_drew1 | refine below_set ?_ GE546.out) | exact HB.out)⟩
def endonymref6_Speaks.f (a0_0 : Int) (a0_1 : Int) (a0_2 : Int) (a0_3 : Int) (l0_4 : List Int) (a0_5 : ByteArray) (a0_6 : ByteArray) (a0_7 : Nat) (a1 : Int) : Option (Bool) := (endonymref6_step.f a0_0 a0_1 a0_2 a0_3 l0_4 a0_5 a0_6 a0_7).bind fun t548 => (if a0_0 = 15 then (some false) else (if t548 > 0 then (if a1 ≥ 0 then (if a1 ≤ 1114111 then (if a1 ≥ a0_1 then (if a1 ≤ a0_2 then (if (IntKind.u64.wrap (t548)) = 0 then (none) else (some ((Int.tmod (IntKind.u64.wrap ((IntKind.u64.wrap (a1)) - (IntKind.u64.wrap (a0_1)))) (IntKind.u64.wrap (t548))) == 0))) else (some false)) else (some false)) else (some false)) else (some false)) else (some false)))
theorem endonymref6_Speaks.calls (a0_0 : Int) (a0_1 : Int) (a0_2 : Int) (a0_3 : Int) (A0_4 : Option Addr) (c0_4 : Nat) (l0_4 : List Int) (a0_5 : ByteArray) (a0_6 : ByteArray) (a0_7 : Nat) (a1 : Int) (r : Bool) (w : World) (hr0_4 : Kd.C (Kd.int .i32) w A0_4 l0_4.length l0_4) (hc0_4 : l0_4.length ≤ c0_4) (h : endonymref6_Speaks.f a0_0 a0_1 a0_2 a0_3 l0_4 a0_5 a0_6 a0_7 a1 = some r) :
  Calls Tryz.prog 71 #[.agg #[.int .i64 a0_0, .int .i64 a0_1, .int .i64 a0_2, .int .i64 a0_3, .slice A0_4 l0_4.length c0_4, .string a0_5, .string a0_6, .float .f64 a0_7], .int .i64 a1] w fun e w' => e = .returned (.bool r) ∧ Below w.heap.size w w' := by
 have hu25 := Tryz.underlying25
 have HR0_4 := Aside0.mk hr0_4
 have HC0_4 := Aside0.mk hc0_4
 clear hr0_4 hc0_4
 have HB := Aside0.mk (Below.refl w.heap.size w)
 have H : ((endonymref6_step.f a0_0 a0_1 a0_2 a0_3 l0_4 a0_5 a0_6 a0_7).bind fun t548 => (if a0_0 = 15 then (some false) else (if t548 > 0 then (if a1 ≥ 0 then (if a1 ≤ 1114111 then (if a1 ≥ a0_1 then (if a1 ≤ a0_2 then (if (IntKind.u64.wrap (t548)) = 0 then (none) else (some ((Int.tmod (IntKind.u64.wrap ((IntKind.u64.wrap (a1)) - (IntKind.u64.wrap (a0_1)))) (IntKind.u64.wrap (t548))) == 0))) else (some false)) else (some false)) else (some false)) else (some false)) else (some false)))) = some r := h
 clear h
 obtain ⟨t548, A3, H⟩ := sqO H
 try dsimp only at H
 by_cases c4 : a0_0 = 15
 ·rw [if_pos c4] at H
  have c4b0 := beq_iff_eq.mpr c4
  have c4b1 := bne_eq_false_iff_eq.mpr c4
  clear c4
  obtain rfl := Option.some.inj H
  go_enter Tryz.func71, Tryz.ntmps71
  go_wp2_with (first | ((with_reducible refine gate_dst (N := 2) rfl ?_); refine box_event ?hg (N := 2) ?hd (cs := #[.int .i64 a0_0, .int .i64 a0_1, .int .i64 a0_2, .int .i64 a0_3, .slice A0_4 l0_4.length c0_4, .string a0_5, .string a0_6, .float .f64 a0_7]) (t := 25) ?hr ?_; (case hd => rfl); (case hg => rfl); (case hr => first | (go_simp; done) | (go_simp; rfl)); intro gb547 hg w5 hbox hb; have n0_ := Aside0.mk (below_step sqB hb); have n1_ := Aside0.mk (hbox); have n2_ := Aside0.mk ((by rw [hg]; exact (below_size sqB) : w.heap.size ≤ gb547)); have n3_ := Aside0.mk ((by rw [hg]; exact (below_size sqB) : w.heap.size ≤ gb547)); clear HB; have HB := n0_; have BK547 := n1_; have GW547 := n2_; have GE547 := n3_; clear n0_ n1_ n2_ n3_; clear hb hbox hg; have hcz6_0 : w5.cell? ⟨gb547, 0, none⟩ = some (.int .i64 a0_0) := (blk_cell BK547.out 0).trans rfl; have hcz6_1 : w5.cell? ⟨gb547, 1, none⟩ = some (.int .i64 a0_1) := (blk_cell BK547.out 1).trans rfl; have hcz6_2 : w5.cell? ⟨gb547, 2, none⟩ = some (.int .i64 a0_2) := (blk_cell BK547.out 2).trans rfl; have hcz6_3 : w5.cell? ⟨gb547, 3, none⟩ = some (.int .i64 a0_3) := (blk_cell BK547.out 3).trans rfl; have hcz6_4 : w5.cell? ⟨gb547, 4, none⟩ = some (.slice A0_4 l0_4.length c0_4) := (blk_cell BK547.out 4).trans rfl; have hcz6_5 : w5.cell? ⟨gb547, 5, none⟩ = some (.string a0_5) := (blk_cell BK547.out 5).trans rfl; have hcz6_6 : w5.cell? ⟨gb547, 6, none⟩ = some (.string a0_6) := (blk_cell BK547.out 6).trans rfl; have hcz6_7 : w5.cell? ⟨gb547, 7, none⟩ = some (.float .f64 a0_7) := (blk_cell BK547.out 7).trans rfl; have hfz6_0 := blk_frozen BK547.out 0; have hfz6_1 := blk_frozen BK547.out 1; have hfz6_2 := blk_frozen BK547.out 2; have hfz6_3 := blk_frozen BK547.out 3; have hfz6_4 := blk_frozen BK547.out 4; have hfz6_5 := blk_frozen BK547.out 5; have hfz6_6 := blk_frozen BK547.out 6; have hfz6_7 := blk_frozen BK547.out 7) | ((with_reducible refine gate_callee (f := 92) rfl ?_); refine goesL_ (some 7) rfl rfl Tryz.func92 (by kernel_rfl) rfl #[.agg #[.int .i64 a0_0, .int .i64 a0_1, .int .i64 a0_2, .int .i64 a0_3, .slice A0_4 l0_4.length c0_4, .string a0_5, .string a0_6, .float .f64 a0_7]] rfl sqA ?_; (with_reducible refine (endonymref6_step.calls a0_0 a0_1 a0_2 a0_3 _ _ l0_4 a0_5 a0_6 a0_7 t548 _ ?side1 ?side2 A3.out).mono ?_); (case side1 => repeat (first | exact (Kd.C_below HR0_4.out HB.out) | (with_reducible refine Kd.C_alloc ?_ _) | (with_reducible refine Kd.C_drewN ?_ _) | (with_reducible refine Kd.C_drew ?_))); (case side2 => exact HC0_4.out); rintro e w7 ⟨rfl, hb⟩; refine ⟨_, rfl, ?_⟩; have n0_ := Aside0.mk (blk_below (g := gb547) (o := .cells #[.int .i64 a0_0, .int .i64 a0_1, .int .i64 a0_2, .int .i64 a0_3, .slice A0_4 l0_4.length c0_4, .string a0_5, .string a0_6, .float .f64 a0_7] 25 (0, 0)) (by (with_reducible repeat (first | refine blk_drewN ?_ _ | refine blk_drew ?_ | refine blk_alloc ?_ _)); exact BK547.out) hb); have n1_ := Aside0.mk (below_step (by repeat (first | (with_reducible first | exact HB.out | apply below_alloc | apply pw_below_drewN | apply below_drew1 | refine below_set ?_ GE547.out) | exact HB.out)) hb); clear BK547; clear HB; have BK547 := n0_; have HB := n1_; clear n0_ n1_; (try clear hb); (try clear hb2); (try clear hk); (try clear hi); have hcz8_0 : w7.cell? ⟨gb547, 0, none⟩ = some (.int .i64 a0_0) := (blk_cell BK547.out 0).trans rfl; have hcz8_1 : w7.cell? ⟨gb547, 1, none⟩ = some (.int .i64 a0_1) := (blk_cell BK547.out 1).trans rfl; have hcz8_2 : w7.cell? ⟨gb547, 2, none⟩ = some (.int .i64 a0_2) := (blk_cell BK547.out 2).trans rfl; have hcz8_3 : w7.cell? ⟨gb547, 3, none⟩ = some (.int .i64 a0_3) := (blk_cell BK547.out 3).trans rfl; have hcz8_4 : w7.cell? ⟨gb547, 4, none⟩ = some (.slice A0_4 l0_4.length c0_4) := (blk_cell BK547.out 4).trans rfl; have hcz8_5 : w7.cell? ⟨gb547, 5, none⟩ = some (.string a0_5) := (blk_cell BK547.out 5).trans rfl; have hcz8_6 : w7.cell? ⟨gb547, 6, none⟩ = some (.string a0_6) := (blk_cell BK547.out 6).trans rfl; have hcz8_7 : w7.cell? ⟨gb547, 7, none⟩ = some (.float .f64 a0_7) := (blk_cell BK547.out 7).trans rfl; have hfz8_0 := blk_frozen BK547.out 0; have hfz8_1 := blk_frozen BK547.out 1; have hfz8_2 := blk_frozen BK547.out 2; have hfz8_3 := blk_frozen BK547.out 3; have hfz8_4 := blk_frozen BK547.out 4; have hfz8_5 := blk_frozen BK547.out 5; have hfz8_6 := blk_frozen BK547.out 6; have hfz8_7 := blk_frozen BK547.out 7))
  go_ret
  exact ⟨sqE', by repeat (first | (with_reducible first | exact HB.out | apply below_alloc | apply pw_below_drewN | apply below_drew1 | refine below_set ?_ GE547.out) | exact HB.out)⟩
 rw [if_neg c4] at H
 have c4b0 := beq_eq_false_iff_ne.mpr c4
 have c4b1 := bne_iff_ne.mpr c4
 by_cases c9 : t548 > 0
 case neg =>
  rw [if_neg c9] at H
  have c9b0 := decide_eq_false c9
  clear c9
  obtain rfl := Option.some.inj H
  go_enter Tryz.func71, Tryz.ntmps71
  go_wp2_with (first | ((with_reducible refine gate_dst (N := 2) rfl ?_); refine box_event ?hg (N := 2) ?hd (cs := #[.int .i64 a0_0, .int .i64 a0_1, .int .i64 a0_2, .int .i64 a0_3, .slice A0_4 l0_4.length c0_4, .string a0_5, .string a0_6, .float .f64 a0_7]) (t := 25) ?hr ?_; (case hd => rfl); (case hg => rfl); (case hr => first | (go_simp; done) | (go_simp; rfl)); intro gb547 hg w35 hbox hb; have n0_ := Aside0.mk (below_step sqB hb); have n1_ := Aside0.mk (hbox); have n2_ := Aside0.mk ((by rw [hg]; exact (below_size sqB) : w.heap.size ≤ gb547)); have n3_ := Aside0.mk ((by rw [hg]; exact (below_size sqB) : w.heap.size ≤ gb547)); clear HB; have HB := n0_; have BK547 := n1_; have GW547 := n2_; have GE547 := n3_; clear n0_ n1_ n2_ n3_; clear hb hbox hg; have hcz36_0 : w35.cell? ⟨gb547, 0, none⟩ = some (.int .i64 a0_0) := (blk_cell BK547.out 0).trans rfl; have hcz36_1 : w35.cell? ⟨gb547, 1, none⟩ = some (.int .i64 a0_1) := (blk_cell BK547.out 1).trans rfl; have hcz36_2 : w35.cell? ⟨gb547, 2, none⟩ = some (.int .i64 a0_2) := (blk_cell BK547.out 2).trans rfl; have hcz36_3 : w35.cell? ⟨gb547, 3, none⟩ = some (.int .i64 a0_3) := (blk_cell BK547.out 3).trans rfl; have hcz36_4 : w35.cell? ⟨gb547, 4, none⟩ = some (.slice A0_4 l0_4.length c0_4) := (blk_cell BK547.out 4).trans rfl; have hcz36_5 : w35.cell? ⟨gb547, 5, none⟩ = some (.string a0_5) := (blk_cell BK547.out 5).trans rfl; have hcz36_6 : w35.cell? ⟨gb547, 6, none⟩ = some (.string a0_6) := (blk_cell BK547.out 6).trans rfl; have hcz36_7 : w35.cell? ⟨gb547, 7, none⟩ = some (.float .f64 a0_7) := (blk_cell BK547.out 7).trans rfl; have hfz36_0 := blk_frozen BK547.out 0; have hfz36_1 := blk_frozen BK547.out 1; have hfz36_2 := blk_frozen BK547.out 2; have hfz36_3 := blk_frozen BK547.out 3; have hfz36_4 := blk_frozen BK547.out 4; have hfz36_5 := blk_frozen BK547.out 5; have hfz36_6 := blk_frozen BK547.out 6; have hfz36_7 := blk_frozen BK547.out 7) | ((with_reducible refine gate_callee (f := 92) rfl ?_); refine goesL_ (some 7) rfl rfl Tryz.func92 (by kernel_rfl) rfl #[.agg #[.int .i64 a0_0, .int .i64 a0_1, .int .i64 a0_2, .int .i64 a0_3, .slice A0_4 l0_4.length c0_4, .string a0_5, .string a0_6, .float .f64 a0_7]] rfl sqA ?_; (with_reducible refine (endonymref6_step.calls a0_0 a0_1 a0_2 a0_3 _ _ l0_4 a0_5 a0_6 a0_7 t548 _ ?side1 ?side2 A3.out).mono ?_); (case side1 => repeat (first | exact (Kd.C_below HR0_4.out HB.out) | (with_reducible refine Kd.C_alloc ?_ _) | (with_reducible refine Kd.C_drewN ?_ _) | (with_reducible refine Kd.C_drew ?_))); (case side2 => exact HC0_4.out); rintro e w37 ⟨rfl, hb⟩; refine ⟨_, rfl, ?_⟩; have n0_ := Aside0.mk (blk_below (g := gb547) (o := .cells #[.int .i64 a0_0, .int .i64 a0_1, .int .i64 a0_2, .int .i64 a0_3, .slice A0_4 l0_4.length c0_4, .string a0_5, .string a0_6, .float .f64 a0_7] 25 (0, 0)) (by (with_reducible repeat (first | refine blk_drewN ?_ _ | refine blk_drew ?_ | refine blk_alloc ?_ _)); exact BK547.out) hb); have n1_ := Aside0.mk (below_step (by repeat (first | (with_reducible first | exact HB.out | apply below_alloc | apply pw_below_drewN | apply below_drew1 | refine below_set ?_ GE547.out) | exact HB.out)) hb); clear BK547; clear HB; have BK547 := n0_; have HB := n1_; clear n0_ n1_; (try clear hb); (try clear hb2); (try clear hk); (try clear hi); have hcz38_0 : w37.cell? ⟨gb547, 0, none⟩ = some (.int .i64 a0_0) := (blk_cell BK547.out 0).trans rfl; have hcz38_1 : w37.cell? ⟨gb547, 1, none⟩ = some (.int .i64 a0_1) := (blk_cell BK547.out 1).trans rfl; have hcz38_2 : w37.cell? ⟨gb547, 2, none⟩ = some (.int .i64 a0_2) := (blk_cell BK547.out 2).trans rfl; have hcz38_3 : w37.cell? ⟨gb547, 3, none⟩ = some (.int .i64 a0_3) := (blk_cell BK547.out 3).trans rfl; have hcz38_4 : w37.cell? ⟨gb547, 4, none⟩ = some (.slice A0_4 l0_4.length c0_4) := (blk_cell BK547.out 4).trans rfl; have hcz38_5 : w37.cell? ⟨gb547, 5, none⟩ = some (.string a0_5) := (blk_cell BK547.out 5).trans rfl; have hcz38_6 : w37.cell? ⟨gb547, 6, none⟩ = some (.string a0_6) := (blk_cell BK547.out 6).trans rfl; have hcz38_7 : w37.cell? ⟨gb547, 7, none⟩ = some (.float .f64 a0_7) := (blk_cell BK547.out 7).trans rfl; have hfz38_0 := blk_frozen BK547.out 0; have hfz38_1 := blk_frozen BK547.out 1; have hfz38_2 := blk_frozen BK547.out 2; have hfz38_3 := blk_frozen BK547.out 3; have hfz38_4 := blk_frozen BK547.out 4; have hfz38_5 := blk_frozen BK547.out 5; have hfz38_6 := blk_frozen BK547.out 6; have hfz38_7 := blk_frozen BK547.out 7))
  go_ret
  exact ⟨sqE', by repeat (first | (with_reducible first | exact HB.out | apply below_alloc | apply pw_below_drewN | apply below_drew1 | refine below_set ?_ GE547.out) | exact HB.out)⟩
 rw [if_pos c9] at H
 have c9b0 := decide_eq_true c9
 clear c9
 by_cases c10 : a1 ≥ 0
 case neg =>
  rw [if_neg c10] at H
  have c10b0 := decide_eq_false c10
  clear c10
  obtain rfl := Option.some.inj H
  go_enter Tryz.func71, Tryz.ntmps71
  go_wp2_with (first | ((with_reducible refine gate_dst (N := 2) rfl ?_); refine box_event ?hg (N := 2) ?hd (cs := #[.int .i64 a0_0, .int .i64 a0_1, .int .i64 a0_2, .int .i64 a0_3, .slice A0_4 l0_4.length c0_4, .string a0_5, .string a0_6, .float .f64 a0_7]) (t := 25) ?hr ?_; (case hd => rfl); (case hg => rfl); (case hr => first | (go_simp; done) | (go_simp; rfl)); intro gb547 hg w31 hbox hb; have n0_ := Aside0.mk (below_step sqB hb); have n1_ := Aside0.mk (hbox); have n2_ := Aside0.mk ((by rw [hg]; exact (below_size sqB) : w.heap.size ≤ gb547)); have n3_ := Aside0.mk ((by rw [hg]; exact (below_size sqB) : w.heap.size ≤ gb547)); clear HB; have HB := n0_; have BK547 := n1_; have GW547 := n2_; have GE547 := n3_; clear n0_ n1_ n2_ n3_; clear hb hbox hg; have hcz32_0 : w31.cell? ⟨gb547, 0, none⟩ = some (.int .i64 a0_0) := (blk_cell BK547.out 0).trans rfl; have hcz32_1 : w31.cell? ⟨gb547, 1, none⟩ = some (.int .i64 a0_1) := (blk_cell BK547.out 1).trans rfl; have hcz32_2 : w31.cell? ⟨gb547, 2, none⟩ = some (.int .i64 a0_2) := (blk_cell BK547.out 2).trans rfl; have hcz32_3 : w31.cell? ⟨gb547, 3, none⟩ = some (.int .i64 a0_3) := (blk_cell BK547.out 3).trans rfl; have hcz32_4 : w31.cell? ⟨gb547, 4, none⟩ = some (.slice A0_4 l0_4.length c0_4) := (blk_cell BK547.out 4).trans rfl; have hcz32_5 : w31.cell? ⟨gb547, 5, none⟩ = some (.string a0_5) := (blk_cell BK547.out 5).trans rfl; have hcz32_6 : w31.cell? ⟨gb547, 6, none⟩ = some (.string a0_6) := (blk_cell BK547.out 6).trans rfl; have hcz32_7 : w31.cell? ⟨gb547, 7, none⟩ = some (.float .f64 a0_7) := (blk_cell BK547.out 7).trans rfl; have hfz32_0 := blk_frozen BK547.out 0; have hfz32_1 := blk_frozen BK547.out 1; have hfz32_2 := blk_frozen BK547.out 2; have hfz32_3 := blk_frozen BK547.out 3; have hfz32_4 := blk_frozen BK547.out 4; have hfz32_5 := blk_frozen BK547.out 5; have hfz32_6 := blk_frozen BK547.out 6; have hfz32_7 := blk_frozen BK547.out 7) | ((with_reducible refine gate_callee (f := 92) rfl ?_); refine goesL_ (some 7) rfl rfl Tryz.func92 (by kernel_rfl) rfl #[.agg #[.int .i64 a0_0, .int .i64 a0_1, .int .i64 a0_2, .int .i64 a0_3, .slice A0_4 l0_4.length c0_4, .string a0_5, .string a0_6, .float .f64 a0_7]] rfl sqA ?_; (with_reducible refine (endonymref6_step.calls a0_0 a0_1 a0_2 a0_3 _ _ l0_4 a0_5 a0_6 a0_7 t548 _ ?side1 ?side2 A3.out).mono ?_); (case side1 => repeat (first | exact (Kd.C_below HR0_4.out HB.out) | (with_reducible refine Kd.C_alloc ?_ _) | (with_reducible refine Kd.C_drewN ?_ _) | (with_reducible refine Kd.C_drew ?_))); (case side2 => exact HC0_4.out); rintro e w33 ⟨rfl, hb⟩; refine ⟨_, rfl, ?_⟩; have n0_ := Aside0.mk (blk_below (g := gb547) (o := .cells #[.int .i64 a0_0, .int .i64 a0_1, .int .i64 a0_2, .int .i64 a0_3, .slice A0_4 l0_4.length c0_4, .string a0_5, .string a0_6, .float .f64 a0_7] 25 (0, 0)) (by (with_reducible repeat (first | refine blk_drewN ?_ _ | refine blk_drew ?_ | refine blk_alloc ?_ _)); exact BK547.out) hb); have n1_ := Aside0.mk (below_step (by repeat (first | (with_reducible first | exact HB.out | apply below_alloc | apply pw_below_drewN | apply below_drew1 | refine below_set ?_ GE547.out) | exact HB.out)) hb); clear BK547; clear HB; have BK547 := n0_; have HB := n1_; clear n0_ n1_; (try clear hb); (try clear hb2); (try clear hk); (try clear hi); have hcz34_0 : w33.cell? ⟨gb547, 0, none⟩ = some (.int .i64 a0_0) := (blk_cell BK547.out 0).trans rfl; have hcz34_1 : w33.cell? ⟨gb547, 1, none⟩ = some (.int .i64 a0_1) := (blk_cell BK547.out 1).trans rfl; have hcz34_2 : w33.cell? ⟨gb547, 2, none⟩ = some (.int .i64 a0_2) := (blk_cell BK547.out 2).trans rfl; have hcz34_3 : w33.cell? ⟨gb547, 3, none⟩ = some (.int .i64 a0_3) := (blk_cell BK547.out 3).trans rfl; have hcz34_4 : w33.cell? ⟨gb547, 4, none⟩ = some (.slice A0_4 l0_4.length c0_4) := (blk_cell BK547.out 4).trans rfl; have hcz34_5 : w33.cell? ⟨gb547, 5, none⟩ = some (.string a0_5) := (blk_cell BK547.out 5).trans rfl; have hcz34_6 : w33.cell? ⟨gb547, 6, none⟩ = some (.string a0_6) := (blk_cell BK547.out 6).trans rfl; have hcz34_7 : w33.cell? ⟨gb547, 7, none⟩ = some (.float .f64 a0_7) := (blk_cell BK547.out 7).trans rfl; have hfz34_0 := blk_frozen BK547.out 0; have hfz34_1 := blk_frozen BK547.out 1; have hfz34_2 := blk_frozen BK547.out 2; have hfz34_3 := blk_frozen BK547.out 3; have hfz34_4 := blk_frozen BK547.out 4; have hfz34_5 := blk_frozen BK547.out 5; have hfz34_6 := blk_frozen BK547.out 6; have hfz34_7 := blk_frozen BK547.out 7))
  go_ret
  exact ⟨sqE', by repeat (first | (with_reducible first | exact HB.out | apply below_alloc | apply pw_below_drewN | apply below_drew1 | refine below_set ?_ GE547.out) | exact HB.out)⟩
 rw [if_pos c10] at H
 have c10b0 := decide_eq_true c10
 clear c10
 by_cases c11 : a1 ≤ 1114111
 case neg =>
  rw [if_neg c11] at H
  have c11b0 := decide_eq_false c11
  clear c11
  obtain rfl := Option.some.inj H
  go_enter Tryz.func71, Tryz.ntmps71
  go_wp2_with (first | ((with_reducible refine gate_dst (N := 2) rfl ?_); refine box_event ?hg (N := 2) ?hd (cs := #[.int .i64 a0_0, .int .i64 a0_1, .int .i64 a0_2, .int .i64 a0_3, .slice A0_4 l0_4.length c0_4, .string a0_5, .string a0_6, .float .f64 a0_7]) (t := 25) ?hr ?_; (case hd => rfl); (case hg => rfl); (case hr => first | (go_simp; done) | (go_simp; rfl)); intro gb547 hg w27 hbox hb; have n0_ := Aside0.mk (below_step sqB hb); have n1_ := Aside0.mk (hbox); have n2_ := Aside0.mk ((by rw [hg]; exact (below_size sqB) : w.heap.size ≤ gb547)); have n3_ := Aside0.mk ((by rw [hg]; exact (below_size sqB) : w.heap.size ≤ gb547)); clear HB; have HB := n0_; have BK547 := n1_; have GW547 := n2_; have GE547 := n3_; clear n0_ n1_ n2_ n3_; clear hb hbox hg; have hcz28_0 : w27.cell? ⟨gb547, 0, none⟩ = some (.int .i64 a0_0) := (blk_cell BK547.out 0).trans rfl; have hcz28_1 : w27.cell? ⟨gb547, 1, none⟩ = some (.int .i64 a0_1) := (blk_cell BK547.out 1).trans rfl; have hcz28_2 : w27.cell? ⟨gb547, 2, none⟩ = some (.int .i64 a0_2) := (blk_cell BK547.out 2).trans rfl; have hcz28_3 : w27.cell? ⟨gb547, 3, none⟩ = some (.int .i64 a0_3) := (blk_cell BK547.out 3).trans rfl; have hcz28_4 : w27.cell? ⟨gb547, 4, none⟩ = some (.slice A0_4 l0_4.length c0_4) := (blk_cell BK547.out 4).trans rfl; have hcz28_5 : w27.cell? ⟨gb547, 5, none⟩ = some (.string a0_5) := (blk_cell BK547.out 5).trans rfl; have hcz28_6 : w27.cell? ⟨gb547, 6, none⟩ = some (.string a0_6) := (blk_cell BK547.out 6).trans rfl; have hcz28_7 : w27.cell? ⟨gb547, 7, none⟩ = some (.float .f64 a0_7) := (blk_cell BK547.out 7).trans rfl; have hfz28_0 := blk_frozen BK547.out 0; have hfz28_1 := blk_frozen BK547.out 1; have hfz28_2 := blk_frozen BK547.out 2; have hfz28_3 := blk_frozen BK547.out 3; have hfz28_4 := blk_frozen BK547.out 4; have hfz28_5 := blk_frozen BK547.out 5; have hfz28_6 := blk_frozen BK547.out 6; have hfz28_7 := blk_frozen BK547.out 7) | ((with_reducible refine gate_callee (f := 92) rfl ?_); refine goesL_ (some 7) rfl rfl Tryz.func92 (by kernel_rfl) rfl #[.agg #[.int .i64 a0_0, .int .i64 a0_1, .int .i64 a0_2, .int .i64 a0_3, .slice A0_4 l0_4.length c0_4, .string a0_5, .string a0_6, .float .f64 a0_7]] rfl sqA ?_; (with_reducible refine (endonymref6_step.calls a0_0 a0_1 a0_2 a0_3 _ _ l0_4 a0_5 a0_6 a0_7 t548 _ ?side1 ?side2 A3.out).mono ?_); (case side1 => repeat (first | exact (Kd.C_below HR0_4.out HB.out) | (with_reducible refine Kd.C_alloc ?_ _) | (with_reducible refine Kd.C_drewN ?_ _) | (with_reducible refine Kd.C_drew ?_))); (case side2 => exact HC0_4.out); rintro e w29 ⟨rfl, hb⟩; refine ⟨_, rfl, ?_⟩; have n0_ := Aside0.mk (blk_below (g := gb547) (o := .cells #[.int .i64 a0_0, .int .i64 a0_1, .int .i64 a0_2, .int .i64 a0_3, .slice A0_4 l0_4.length c0_4, .string a0_5, .string a0_6, .float .f64 a0_7] 25 (0, 0)) (by (with_reducible repeat (first | refine blk_drewN ?_ _ | refine blk_drew ?_ | refine blk_alloc ?_ _)); exact BK547.out) hb); have n1_ := Aside0.mk (below_step (by repeat (first | (with_reducible first | exact HB.out | apply below_alloc | apply pw_below_drewN | apply below_drew1 | refine below_set ?_ GE547.out) | exact HB.out)) hb); clear BK547; clear HB; have BK547 := n0_; have HB := n1_; clear n0_ n1_; (try clear hb); (try clear hb2); (try clear hk); (try clear hi); have hcz30_0 : w29.cell? ⟨gb547, 0, none⟩ = some (.int .i64 a0_0) := (blk_cell BK547.out 0).trans rfl; have hcz30_1 : w29.cell? ⟨gb547, 1, none⟩ = some (.int .i64 a0_1) := (blk_cell BK547.out 1).trans rfl; have hcz30_2 : w29.cell? ⟨gb547, 2, none⟩ = some (.int .i64 a0_2) := (blk_cell BK547.out 2).trans rfl; have hcz30_3 : w29.cell? ⟨gb547, 3, none⟩ = some (.int .i64 a0_3) := (blk_cell BK547.out 3).trans rfl; have hcz30_4 : w29.cell? ⟨gb547, 4, none⟩ = some (.slice A0_4 l0_4.length c0_4) := (blk_cell BK547.out 4).trans rfl; have hcz30_5 : w29.cell? ⟨gb547, 5, none⟩ = some (.string a0_5) := (blk_cell BK547.out 5).trans rfl; have hcz30_6 : w29.cell? ⟨gb547, 6, none⟩ = some (.string a0_6) := (blk_cell BK547.out 6).trans rfl; have hcz30_7 : w29.cell? ⟨gb547, 7, none⟩ = some (.float .f64 a0_7) := (blk_cell BK547.out 7).trans rfl; have hfz30_0 := blk_frozen BK547.out 0; have hfz30_1 := blk_frozen BK547.out 1; have hfz30_2 := blk_frozen BK547.out 2; have hfz30_3 := blk_frozen BK547.out 3; have hfz30_4 := blk_frozen BK547.out 4; have hfz30_5 := blk_frozen BK547.out 5; have hfz30_6 := blk_frozen BK547.out 6; have hfz30_7 := blk_frozen BK547.out 7))
  go_ret
  exact ⟨sqE', by repeat (first | (with_reducible first | exact HB.out | apply below_alloc | apply pw_below_drewN | apply below_drew1 | refine below_set ?_ GE547.out) | exact HB.out)⟩
 rw [if_pos c11] at H
 have c11b0 := decide_eq_true c11
 clear c11
 by_cases c12 : a1 ≥ a0_1
 case neg =>
  rw [if_neg c12] at H
  have c12b0 := decide_eq_false c12
  clear c12
  obtain rfl := Option.some.inj H
  go_enter Tryz.func71, Tryz.ntmps71
  go_wp2_with (first | ((with_reducible refine gate_dst (N := 2) rfl ?_); refine box_event ?hg (N := 2) ?hd (cs := #[.int .i64 a0_0, .int .i64 a0_1, .int .i64 a0_2, .int .i64 a0_3, .slice A0_4 l0_4.length c0_4, .string a0_5, .string a0_6, .float .f64 a0_7]) (t := 25) ?hr ?_; (case hd => rfl); (case hg => rfl); (case hr => first | (go_simp; done) | (go_simp; rfl)); intro gb547 hg w23 hbox hb; have n0_ := Aside0.mk (below_step sqB hb); have n1_ := Aside0.mk (hbox); have n2_ := Aside0.mk ((by rw [hg]; exact (below_size sqB) : w.heap.size ≤ gb547)); have n3_ := Aside0.mk ((by rw [hg]; exact (below_size sqB) : w.heap.size ≤ gb547)); clear HB; have HB := n0_; have BK547 := n1_; have GW547 := n2_; have GE547 := n3_; clear n0_ n1_ n2_ n3_; clear hb hbox hg; have hcz24_0 : w23.cell? ⟨gb547, 0, none⟩ = some (.int .i64 a0_0) := (blk_cell BK547.out 0).trans rfl; have hcz24_1 : w23.cell? ⟨gb547, 1, none⟩ = some (.int .i64 a0_1) := (blk_cell BK547.out 1).trans rfl; have hcz24_2 : w23.cell? ⟨gb547, 2, none⟩ = some (.int .i64 a0_2) := (blk_cell BK547.out 2).trans rfl; have hcz24_3 : w23.cell? ⟨gb547, 3, none⟩ = some (.int .i64 a0_3) := (blk_cell BK547.out 3).trans rfl; have hcz24_4 : w23.cell? ⟨gb547, 4, none⟩ = some (.slice A0_4 l0_4.length c0_4) := (blk_cell BK547.out 4).trans rfl; have hcz24_5 : w23.cell? ⟨gb547, 5, none⟩ = some (.string a0_5) := (blk_cell BK547.out 5).trans rfl; have hcz24_6 : w23.cell? ⟨gb547, 6, none⟩ = some (.string a0_6) := (blk_cell BK547.out 6).trans rfl; have hcz24_7 : w23.cell? ⟨gb547, 7, none⟩ = some (.float .f64 a0_7) := (blk_cell BK547.out 7).trans rfl; have hfz24_0 := blk_frozen BK547.out 0; have hfz24_1 := blk_frozen BK547.out 1; have hfz24_2 := blk_frozen BK547.out 2; have hfz24_3 := blk_frozen BK547.out 3; have hfz24_4 := blk_frozen BK547.out 4; have hfz24_5 := blk_frozen BK547.out 5; have hfz24_6 := blk_frozen BK547.out 6; have hfz24_7 := blk_frozen BK547.out 7) | ((with_reducible refine gate_callee (f := 92) rfl ?_); refine goesL_ (some 7) rfl rfl Tryz.func92 (by kernel_rfl) rfl #[.agg #[.int .i64 a0_0, .int .i64 a0_1, .int .i64 a0_2, .int .i64 a0_3, .slice A0_4 l0_4.length c0_4, .string a0_5, .string a0_6, .float .f64 a0_7]] rfl sqA ?_; (with_reducible refine (endonymref6_step.calls a0_0 a0_1 a0_2 a0_3 _ _ l0_4 a0_5 a0_6 a0_7 t548 _ ?side1 ?side2 A3.out).mono ?_); (case side1 => repeat (first | exact (Kd.C_below HR0_4.out HB.out) | (with_reducible refine Kd.C_alloc ?_ _) | (with_reducible refine Kd.C_drewN ?_ _) | (with_reducible refine Kd.C_drew ?_))); (case side2 => exact HC0_4.out); rintro e w25 ⟨rfl, hb⟩; refine ⟨_, rfl, ?_⟩; have n0_ := Aside0.mk (blk_below (g := gb547) (o := .cells #[.int .i64 a0_0, .int .i64 a0_1, .int .i64 a0_2, .int .i64 a0_3, .slice A0_4 l0_4.length c0_4, .string a0_5, .string a0_6, .float .f64 a0_7] 25 (0, 0)) (by (with_reducible repeat (first | refine blk_drewN ?_ _ | refine blk_drew ?_ | refine blk_alloc ?_ _)); exact BK547.out) hb); have n1_ := Aside0.mk (below_step (by repeat (first | (with_reducible first | exact HB.out | apply below_alloc | apply pw_below_drewN | apply below_drew1 | refine below_set ?_ GE547.out) | exact HB.out)) hb); clear BK547; clear HB; have BK547 := n0_; have HB := n1_; clear n0_ n1_; (try clear hb); (try clear hb2); (try clear hk); (try clear hi); have hcz26_0 : w25.cell? ⟨gb547, 0, none⟩ = some (.int .i64 a0_0) := (blk_cell BK547.out 0).trans rfl; have hcz26_1 : w25.cell? ⟨gb547, 1, none⟩ = some (.int .i64 a0_1) := (blk_cell BK547.out 1).trans rfl; have hcz26_2 : w25.cell? ⟨gb547, 2, none⟩ = some (.int .i64 a0_2) := (blk_cell BK547.out 2).trans rfl; have hcz26_3 : w25.cell? ⟨gb547, 3, none⟩ = some (.int .i64 a0_3) := (blk_cell BK547.out 3).trans rfl; have hcz26_4 : w25.cell? ⟨gb547, 4, none⟩ = some (.slice A0_4 l0_4.length c0_4) := (blk_cell BK547.out 4).trans rfl; have hcz26_5 : w25.cell? ⟨gb547, 5, none⟩ = some (.string a0_5) := (blk_cell BK547.out 5).trans rfl; have hcz26_6 : w25.cell? ⟨gb547, 6, none⟩ = some (.string a0_6) := (blk_cell BK547.out 6).trans rfl; have hcz26_7 : w25.cell? ⟨gb547, 7, none⟩ = some (.float .f64 a0_7) := (blk_cell BK547.out 7).trans rfl; have hfz26_0 := blk_frozen BK547.out 0; have hfz26_1 := blk_frozen BK547.out 1; have hfz26_2 := blk_frozen BK547.out 2; have hfz26_3 := blk_frozen BK547.out 3; have hfz26_4 := blk_frozen BK547.out 4; have hfz26_5 := blk_frozen BK547.out 5; have hfz26_6 := blk_frozen BK547.out 6; have hfz26_7 := blk_frozen BK547.out 7))
  go_ret
  exact ⟨sqE', by repeat (first | (with_reducible first | exact HB.out | apply below_alloc | apply pw_below_drewN | apply below_drew1 | refine below_set ?_ GE547.out) | exact HB.out)⟩
 rw [if_pos c12] at H
 have c12b0 := decide_eq_true c12
 clear c12
 by_cases c13 : a1 ≤ a0_2
 case neg =>
  rw [if_neg c13] at H
  have c13b0 := decide_eq_false c13
  clear c13
  obtain rfl := Option.some.inj H
  go_enter Tryz.func71, Tryz.ntmps71
  go_wp2_with (first | ((with_reducible refine gate_dst (N := 2) rfl ?_); refine box_event ?hg (N := 2) ?hd (cs := #[.int .i64 a0_0, .int .i64 a0_1, .int .i64 a0_2, .int .i64 a0_3, .slice A0_4 l0_4.length c0_4, .string a0_5, .string a0_6, .float .f64 a0_7]) (t := 25) ?hr ?_; (case hd => rfl); (case hg => rfl); (case hr => first | (go_simp; done) | (go_simp; rfl)); intro gb547 hg w19 hbox hb; have n0_ := Aside0.mk (below_step sqB hb); have n1_ := Aside0.mk (hbox); have n2_ := Aside0.mk ((by rw [hg]; exact (below_size sqB) : w.heap.size ≤ gb547)); have n3_ := Aside0.mk ((by rw [hg]; exact (below_size sqB) : w.heap.size ≤ gb547)); clear HB; have HB := n0_; have BK547 := n1_; have GW547 := n2_; have GE547 := n3_; clear n0_ n1_ n2_ n3_; clear hb hbox hg; have hcz20_0 : w19.cell? ⟨gb547, 0, none⟩ = some (.int .i64 a0_0) := (blk_cell BK547.out 0).trans rfl; have hcz20_1 : w19.cell? ⟨gb547, 1, none⟩ = some (.int .i64 a0_1) := (blk_cell BK547.out 1).trans rfl; have hcz20_2 : w19.cell? ⟨gb547, 2, none⟩ = some (.int .i64 a0_2) := (blk_cell BK547.out 2).trans rfl; have hcz20_3 : w19.cell? ⟨gb547, 3, none⟩ = some (.int .i64 a0_3) := (blk_cell BK547.out 3).trans rfl; have hcz20_4 : w19.cell? ⟨gb547, 4, none⟩ = some (.slice A0_4 l0_4.length c0_4) := (blk_cell BK547.out 4).trans rfl; have hcz20_5 : w19.cell? ⟨gb547, 5, none⟩ = some (.string a0_5) := (blk_cell BK547.out 5).trans rfl; have hcz20_6 : w19.cell? ⟨gb547, 6, none⟩ = some (.string a0_6) := (blk_cell BK547.out 6).trans rfl; have hcz20_7 : w19.cell? ⟨gb547, 7, none⟩ = some (.float .f64 a0_7) := (blk_cell BK547.out 7).trans rfl; have hfz20_0 := blk_frozen BK547.out 0; have hfz20_1 := blk_frozen BK547.out 1; have hfz20_2 := blk_frozen BK547.out 2; have hfz20_3 := blk_frozen BK547.out 3; have hfz20_4 := blk_frozen BK547.out 4; have hfz20_5 := blk_frozen BK547.out 5; have hfz20_6 := blk_frozen BK547.out 6; have hfz20_7 := blk_frozen BK547.out 7) | ((with_reducible refine gate_callee (f := 92) rfl ?_); refine goesL_ (some 7) rfl rfl Tryz.func92 (by kernel_rfl) rfl #[.agg #[.int .i64 a0_0, .int .i64 a0_1, .int .i64 a0_2, .int .i64 a0_3, .slice A0_4 l0_4.length c0_4, .string a0_5, .string a0_6, .float .f64 a0_7]] rfl sqA ?_; (with_reducible refine (endonymref6_step.calls a0_0 a0_1 a0_2 a0_3 _ _ l0_4 a0_5 a0_6 a0_7 t548 _ ?side1 ?side2 A3.out).mono ?_); (case side1 => repeat (first | exact (Kd.C_below HR0_4.out HB.out) | (with_reducible refine Kd.C_alloc ?_ _) | (with_reducible refine Kd.C_drewN ?_ _) | (with_reducible refine Kd.C_drew ?_))); (case side2 => exact HC0_4.out); rintro e w21 ⟨rfl, hb⟩; refine ⟨_, rfl, ?_⟩; have n0_ := Aside0.mk (blk_below (g := gb547) (o := .cells #[.int .i64 a0_0, .int .i64 a0_1, .int .i64 a0_2, .int .i64 a0_3, .slice A0_4 l0_4.length c0_4, .string a0_5, .string a0_6, .float .f64 a0_7] 25 (0, 0)) (by (with_reducible repeat (first | refine blk_drewN ?_ _ | refine blk_drew ?_ | refine blk_alloc ?_ _)); exact BK547.out) hb); have n1_ := Aside0.mk (below_step (by repeat (first | (with_reducible first | exact HB.out | apply below_alloc | apply pw_below_drewN | apply below_drew1 | refine below_set ?_ GE547.out) | exact HB.out)) hb); clear BK547; clear HB; have BK547 := n0_; have HB := n1_; clear n0_ n1_; (try clear hb); (try clear hb2); (try clear hk); (try clear hi); have hcz22_0 : w21.cell? ⟨gb547, 0, none⟩ = some (.int .i64 a0_0) := (blk_cell BK547.out 0).trans rfl; have hcz22_1 : w21.cell? ⟨gb547, 1, none⟩ = some (.int .i64 a0_1) := (blk_cell BK547.out 1).trans rfl; have hcz22_2 : w21.cell? ⟨gb547, 2, none⟩ = some (.int .i64 a0_2) := (blk_cell BK547.out 2).trans rfl; have hcz22_3 : w21.cell? ⟨gb547, 3, none⟩ = some (.int .i64 a0_3) := (blk_cell BK547.out 3).trans rfl; have hcz22_4 : w21.cell? ⟨gb547, 4, none⟩ = some (.slice A0_4 l0_4.length c0_4) := (blk_cell BK547.out 4).trans rfl; have hcz22_5 : w21.cell? ⟨gb547, 5, none⟩ = some (.string a0_5) := (blk_cell BK547.out 5).trans rfl; have hcz22_6 : w21.cell? ⟨gb547, 6, none⟩ = some (.string a0_6) := (blk_cell BK547.out 6).trans rfl; have hcz22_7 : w21.cell? ⟨gb547, 7, none⟩ = some (.float .f64 a0_7) := (blk_cell BK547.out 7).trans rfl; have hfz22_0 := blk_frozen BK547.out 0; have hfz22_1 := blk_frozen BK547.out 1; have hfz22_2 := blk_frozen BK547.out 2; have hfz22_3 := blk_frozen BK547.out 3; have hfz22_4 := blk_frozen BK547.out 4; have hfz22_5 := blk_frozen BK547.out 5; have hfz22_6 := blk_frozen BK547.out 6; have hfz22_7 := blk_frozen BK547.out 7))
  go_ret
  exact ⟨sqE', by repeat (first | (with_reducible first | exact HB.out | apply below_alloc | apply pw_below_drewN | apply below_drew1 | refine below_set ?_ GE547.out) | exact HB.out)⟩
 rw [if_pos c13] at H
 have c13b0 := decide_eq_true c13
 clear c13
 by_cases c14 : (IntKind.u64.wrap (t548)) = 0
 ·rw [if_pos c14] at H
  exact absurd H (by simp)
 rw [if_neg c14] at H
 have c14b0 := beq_eq_false_iff_ne.mpr c14
 have c14b1 := bne_iff_ne.mpr c14
 obtain rfl := Option.some.inj H
 go_enter Tryz.func71, Tryz.ntmps71
 go_wp2_with (first | ((with_reducible refine gate_dst (N := 2) rfl ?_); refine box_event ?hg (N := 2) ?hd (cs := #[.int .i64 a0_0, .int .i64 a0_1, .int .i64 a0_2, .int .i64 a0_3, .slice A0_4 l0_4.length c0_4, .string a0_5, .string a0_6, .float .f64 a0_7]) (t := 25) ?hr ?_; (case hd => rfl); (case hg => rfl); (case hr => first | (go_simp; done) | (go_simp; rfl)); intro gb547 hg w15 hbox hb; have n0_ := Aside0.mk (below_step sqB hb); have n1_ := Aside0.mk (hbox); have n2_ := Aside0.mk ((by rw [hg]; exact (below_size sqB) : w.heap.size ≤ gb547)); have n3_ := Aside0.mk ((by rw [hg]; exact (below_size sqB) : w.heap.size ≤ gb547)); clear HB; have HB := n0_; have BK547 := n1_; have GW547 := n2_; have GE547 := n3_; clear n0_ n1_ n2_ n3_; clear hb hbox hg; have hcz16_0 : w15.cell? ⟨gb547, 0, none⟩ = some (.int .i64 a0_0) := (blk_cell BK547.out 0).trans rfl; have hcz16_1 : w15.cell? ⟨gb547, 1, none⟩ = some (.int .i64 a0_1) := (blk_cell BK547.out 1).trans rfl; have hcz16_2 : w15.cell? ⟨gb547, 2, none⟩ = some (.int .i64 a0_2) := (blk_cell BK547.out 2).trans rfl; have hcz16_3 : w15.cell? ⟨gb547, 3, none⟩ = some (.int .i64 a0_3) := (blk_cell BK547.out 3).trans rfl; have hcz16_4 : w15.cell? ⟨gb547, 4, none⟩ = some (.slice A0_4 l0_4.length c0_4) := (blk_cell BK547.out 4).trans rfl; have hcz16_5 : w15.cell? ⟨gb547, 5, none⟩ = some (.string a0_5) := (blk_cell BK547.out 5).trans rfl; have hcz16_6 : w15.cell? ⟨gb547, 6, none⟩ = some (.string a0_6) := (blk_cell BK547.out 6).trans rfl; have hcz16_7 : w15.cell? ⟨gb547, 7, none⟩ = some (.float .f64 a0_7) := (blk_cell BK547.out 7).trans rfl; have hfz16_0 := blk_frozen BK547.out 0; have hfz16_1 := blk_frozen BK547.out 1; have hfz16_2 := blk_frozen BK547.out 2; have hfz16_3 := blk_frozen BK547.out 3; have hfz16_4 := blk_frozen BK547.out 4; have hfz16_5 := blk_frozen BK547.out 5; have hfz16_6 := blk_frozen BK547.out 6; have hfz16_7 := blk_frozen BK547.out 7) | ((with_reducible refine gate_callee (f := 92) rfl ?_); refine goesL_ (some 7) rfl rfl Tryz.func92 (by kernel_rfl) rfl #[.agg #[.int .i64 a0_0, .int .i64 a0_1, .int .i64 a0_2, .int .i64 a0_3, .slice A0_4 l0_4.length c0_4, .string a0_5, .string a0_6, .float .f64 a0_7]] rfl sqA ?_; (with_reducible refine (endonymref6_step.calls a0_0 a0_1 a0_2 a0_3 _ _ l0_4 a0_5 a0_6 a0_7 t548 _ ?side1 ?side2 A3.out).mono ?_); (case side1 => repeat (first | exact (Kd.C_below HR0_4.out HB.out) | (with_reducible refine Kd.C_alloc ?_ _) | (with_reducible refine Kd.C_drewN ?_ _) | (with_reducible refine Kd.C_drew ?_))); (case side2 => exact HC0_4.out); rintro e w17 ⟨rfl, hb⟩; refine ⟨_, rfl, ?_⟩; have n0_ := Aside0.mk (blk_below (g := gb547) (o := .cells #[.int .i64 a0_0, .int .i64 a0_1, .int .i64 a0_2, .int .i64 a0_3, .slice A0_4 l0_4.length c0_4, .string a0_5, .string a0_6, .float .f64 a0_7] 25 (0, 0)) (by (with_reducible repeat (first | refine blk_drewN ?_ _ | refine blk_drew ?_ | refine blk_alloc ?_ _)); exact BK547.out) hb); have n1_ := Aside0.mk (below_step (by repeat (first | (with_reducible first | exact HB.out | apply below_alloc | apply pw_below_drewN | apply below_drew1 | refine below_set ?_ GE547.out) | exact HB.out)) hb); clear BK547; clear HB; have BK547 := n0_; have HB := n1_; clear n0_ n1_; (try clear hb); (try clear hb2); (try clear hk); (try clear hi); have hcz18_0 : w17.cell? ⟨gb547, 0, none⟩ = some (.int .i64 a0_0) := (blk_cell BK547.out 0).trans rfl; have hcz18_1 : w17.cell? ⟨gb547, 1, none⟩ = some (.int .i64 a0_1) := (blk_cell BK547.out 1).trans rfl; have hcz18_2 : w17.cell? ⟨gb547, 2, none⟩ = some (.int .i64 a0_2) := (blk_cell BK547.out 2).trans rfl; have hcz18_3 : w17.cell? ⟨gb547, 3, none⟩ = some (.int .i64 a0_3) := (blk_cell BK547.out 3).trans rfl; have hcz18_4 : w17.cell? ⟨gb547, 4, none⟩ = some (.slice A0_4 l0_4.length c0_4) := (blk_cell BK547.out 4).trans rfl; have hcz18_5 : w17.cell? ⟨gb547, 5, none⟩ = some (.string a0_5) := (blk_cell BK547.out 5).trans rfl; have hcz18_6 : w17.cell? ⟨gb547, 6, none⟩ = some (.string a0_6) := (blk_cell BK547.out 6).trans rfl; have hcz18_7 : w17.cell? ⟨gb547, 7, none⟩ = some (.float .f64 a0_7) := (blk_cell BK547.out 7).trans rfl; have hfz18_0 := blk_frozen BK547.out 0; have hfz18_1 := blk_frozen BK547.out 1; have hfz18_2 := blk_frozen BK547.out 2; have hfz18_3 := blk_frozen BK547.out 3; have hfz18_4 := blk_frozen BK547.out 4; have hfz18_5 := blk_frozen BK547.out 5; have hfz18_6 := blk_frozen BK547.out 6; have hfz18_7 := blk_frozen BK547.out 7))
 go_ret
 exact ⟨sqE', by repeat (first | (with_reducible first | exact HB.out | apply below_alloc | apply pw_below_drewN | apply below_drew1 | refine below_set ?_ GE547.out) | exact HB.out)⟩
mutual
def endonymref6_Find.j0 : Nat → List (S25) → Int → Int → Bool → Option (Int)
 | 0, _, _, _, _ => none
 | k + 1, x0, x1, x2, x13 => if x13 = true then (some (-1)) else (endonymref6_Find.l0 k x0 x1 x2 0)
def endonymref6_Find.l0 : Nat → List (S25) → Int → Int → Int → Option (Int)
 | 0, _, _, _, _ => none
 | k + 1, x0, x1, x2, x7 => if x7 < (x0.length : Int) then (if 0 ≤ x7 then ((endonymref6_Family.f ((rd_T25 x0 x7).f0)).bind fun t550 => (if t550 = x1 then ((endonymref6_Speaks.f ((rd_T25 x0 x7).f0) ((rd_T25 x0 x7).f1) ((rd_T25 x0 x7).f2) ((rd_T25 x0 x7).f3) ((rd_T25 x0 x7).f4) ((rd_T25 x0 x7).f5) ((rd_T25 x0 x7).f6) ((rd_T25 x0 x7).f7) (wrap64 (x2))).bind fun t552 => (if t552 = true then (some x7) else (endonymref6_Find.l0 k x0 x1 x2 (wrap64 (x7 + 1))))) else (endonymref6_Find.l0 k x0 x1 x2 (wrap64 (x7 + 1))))) else (none)) else (some (-1))
end
def endonymref6_Find.f (k : Nat) (l0 : List (S25)) (a1 : Int) (a2 : Int) : Option (Int) := if a1 = 10 then (endonymref6_Find.j0 k l0 a1 a2 true) else (endonymref6_Find.j0 k l0 a1 a2 (a1 == 0))
theorem endonymref6_Find.mono_l : ∀ k, (∀ y0 y1 y2 y3, LeO (endonymref6_Find.j0 k y0 y1 y2 y3) (endonymref6_Find.j0 (k + 1) y0 y1 y2 y3)) ∧ (∀ y0 y1 y2 y3, LeO (endonymref6_Find.l0 k y0 y1 y2 y3) (endonymref6_Find.l0 (k + 1) y0 y1 y2 y3))
 | 0 => ⟨fun _ _ _ _ r h => by simp [endonymref6_Find.j0] at h, fun _ _ _ _ r h => by simp [endonymref6_Find.l0] at h⟩
 | k + 1 => by
  obtain ⟨ih0, ih1⟩ := endonymref6_Find.mono_l k
  refine ⟨?_, ?_⟩
  ·intro y0 y1 y2 y3
   unfold endonymref6_Find.j0
   repeat' first | (with_reducible first | apply ih0 | apply ih1 | apply LeO.refl | apply LeO.none | refine LeO.ite ?_ ?_ | refine LeO.bind ?_ (fun _ => ?_)) | apply LeO.none | refine LeO.ite ?_ ?_ | refine LeO.bind ?_ (fun _ => ?_)
  intro y0 y1 y2 y3
  unfold endonymref6_Find.l0
  repeat' first | (with_reducible first | apply ih0 | apply ih1 | apply LeO.refl | apply LeO.none | refine LeO.ite ?_ ?_ | refine LeO.bind ?_ (fun _ => ?_)) | apply LeO.none | refine LeO.ite ?_ ?_ | refine LeO.bind ?_ (fun _ => ?_)
theorem endonymref6_Find.mono : ∀ a0 a1 a2 k, LeO (endonymref6_Find.f k a0 a1 a2) (endonymref6_Find.f (k + 1) a0 a1 a2) := by
 intro a0 a1 a2 k
 obtain ⟨ih0, ih1⟩ := endonymref6_Find.mono_l k
 unfold endonymref6_Find.f
 repeat' first | (with_reducible first | apply ih0 | apply ih1 | apply LeO.refl | apply LeO.none | refine LeO.ite ?_ ?_ | refine LeO.bind ?_ (fun _ => ?_)) | apply LeO.none | refine LeO.ite ?_ ?_ | refine LeO.bind ?_ (fun _ => ?_)
theorem endonymref6_Find.calls (k : Nat) (A0 : Option Addr) (c0 : Nat) (l0 : List (S25)) (a1 : Int) (a2 : Int) (r : Int) (w : World) (hr0 : Kd.C k25 w A0 l0.length l0) (hc0 : l0.length ≤ c0) (h : endonymref6_Find.f k l0 a1 a2 = some r) :
  Calls Tryz.prog 31 #[.slice A0 l0.length c0, .int .i64 a1, .int .i32 a2] w fun e w' => e = .returned (.int .i64 r) ∧ Below w.heap.size w w' := by
 have hu25 := Tryz.underlying25
 have HR0 := Aside0.mk hr0
 have HC0 := Aside0.mk hc0
 clear hr0 hc0
 have HB := Aside0.mk (Below.refl w.heap.size w)
 have H : (if a1 = 10 then (endonymref6_Find.j0 k l0 a1 a2 true) else (endonymref6_Find.j0 k l0 a1 a2 (a1 == 0))) = some r := h
 clear h
 have HC4 := Aside0.mk H
 clear H
 go_enter Tryz.func31, Tryz.ntmps31
 go_upto_region 1 with (fail)
 go_cut [13] (fun v13 wc => ∃ (kq : Nat) (x13_3 : Bool), v13 = .bool x13_3 ∧ Aside0 (endonymref6_Find.j0 kq l0 a1 a2 x13_3 = some r) ∧ Aside0 (kq ≤ k) ∧ Aside0 (Below w.heap.size w wc))
 case first =>
  have H := HC4.out
  clear HC4
  by_cases c5 : a1 = 10
  ·rw [if_pos c5] at H
   have c5b0 := beq_iff_eq.mpr c5
   have c5b1 := bne_eq_false_iff_eq.mpr c5
   clear c5
   (first | rw [c5b0] | (simp only [i64_w, i32_w]; rw [c5b0]) | skip)
   have H' := Aside0.mk H
   clear H
   go_wp2
   go_meet
   case rel => exact ⟨_, (true), sqE, H', ⟨by first | omega | exact Nat.le_refl _⟩, ⟨sqB⟩⟩
  rw [if_neg c5] at H
  have c5b0 := beq_eq_false_iff_ne.mpr c5
  have c5b1 := bne_iff_ne.mpr c5
  (first | rw [c5b0] | (simp only [i64_w, i32_w]; rw [c5b0]) | skip)
  have H' := Aside0.mk H
  clear H
  go_wp2
  go_meet
  case rel => exact ⟨_, ((a1 == 0)), sqE, H', ⟨by first | omega | exact Nat.le_refl _⟩, ⟨sqB⟩⟩
 case rest =>
  clear HC4
  try clear p2
  try clear c3
  try clear c5
  try clear c5b0
  try clear c5b1
  obtain ⟨kq, x13_3, rfl, HA, HJ3, HB⟩ := hcut
  cases kq with
  | zero => exact absurd HA.out (by simp [endonymref6_Find.j0])
  | succ kj3 =>
   have H := HA.out
   clear HA
   simp only [endonymref6_Find.j0] at H
   by_cases c6 : x13_3 = true
   ·subst c6
    have H1 : (some (-1)) = some r := by rw [if_pos rfl] at H; exact H
    clear H
    have H := H1
    clear H1
    obtain rfl := Option.some.inj H
    go_wp2
    go_ret
    exact ⟨sqE', sqB⟩
   replace c6 := Bool.eq_false_iff.mpr c6
   subst c6
   have H1 : (endonymref6_Find.l0 kj3 l0 a1 a2 0) = some r := by rw [if_neg (show ¬ (false = true) by decide)] at H; exact H
   clear H
   have H := H1
   clear H1
   have H' := Aside0.mk H
   clear H
   go_wp2
   go_loopg [7] kj3 (fun kq v7 w' => ∃ (x7_2 : Int), v7 = .int .i64 x7_2 ∧ Aside0 (endonymref6_Find.l0 kq l0 a1 a2 x7_2 = some r) ∧ Aside0 (kq ≤ kj3) ∧ Aside0 (Below w.heap.size w w'))
   case atStart => exact ⟨(0), sqE, H', ⟨Nat.le_refl _⟩, ⟨sqB⟩⟩
   case round =>
    clear H'
    try clear p2
    try clear c3
    try clear c5
    try clear c5b0
    try clear c5b1
    try clear c6
    try clear p2
    obtain ⟨x7_2, rfl, HA, HK2, HB⟩ := hrel
    cases gk with
    | zero => exact absurd HA.out (by simp [endonymref6_Find.l0])
    | succ k2 =>
     have H := HA.out
     clear HA
     simp only [endonymref6_Find.l0] at H
     by_cases c7 : x7_2 < (l0.length : Int)
     case neg =>
      rw [if_neg c7] at H
      have c7b0 := decide_eq_false c7
      clear c7
      obtain rfl := Option.some.inj H
      go_wp2
      go_ret
      exact ⟨sqE', sqB⟩
     rw [if_pos c7] at H
     have c7b0 := decide_eq_true c7
     clear c7
     by_cases c8 : 0 ≤ x7_2
     case neg => rw [if_neg c8] at H; exact absurd H (by simp)
     rw [if_pos c8] at H
     have c8b0 := decide_eq_true c8
     clear c8
     obtain ⟨t550, A9, H⟩ := sqO H
     try dsimp only at H
     by_cases c10 : t550 = a1
     case neg =>
      rw [if_neg c10] at H
      have c10b0 := beq_eq_false_iff_ne.mpr c10
      have c10b1 := bne_iff_ne.mpr c10
      have H' := Aside0.mk H
      clear H
      have p549 : 0 ≤ (x7_2 : Int) := sqD
      have q549 : x7_2 < (l0.length : Int) := sqD
      obtain ⟨ad549, A549_4, c549_4, e549, hx549_0, hx549_1, hx549_2, hx549_3, hx549_4, hx549_5, hx549_6, hx549_7, hl549_4, hi549_4⟩ := at_T25 HR0.out x7_2 p549 q549
      cases e549
      replace hx549_0 := (HB.out.cell (World.block_lt_of_cell? w _ hx549_0)).trans hx549_0
      replace hx549_1 := (HB.out.cell (World.block_lt_of_cell? w _ hx549_1)).trans hx549_1
      replace hx549_2 := (HB.out.cell (World.block_lt_of_cell? w _ hx549_2)).trans hx549_2
      replace hx549_3 := (HB.out.cell (World.block_lt_of_cell? w _ hx549_3)).trans hx549_3
      replace hx549_4 := (HB.out.cell (World.block_lt_of_cell? w _ hx549_4)).trans hx549_4
      replace hx549_5 := (HB.out.cell (World.block_lt_of_cell? w _ hx549_5)).trans hx549_5
      replace hx549_6 := (HB.out.cell (World.block_lt_of_cell? w _ hx549_6)).trans hx549_6
      replace hx549_7 := (HB.out.cell (World.block_lt_of_cell? w _ hx549_7)).trans hx549_7
      have HR549_4 := Aside0.mk hi549_4
      have HC549_4 := Aside0.mk hl549_4
      clear hi549_4 hl549_4
      replace p549 := eq_true p549
      replace q549 := eq_true q549
      go_wp2_with (first | ((with_reducible refine gate_callee (f := 33) rfl ?_); refine goesL_ (some 25) rfl rfl Tryz.func33 (by kernel_rfl) rfl #[.int .i64 ((rd_T25 l0 x7_2).f0)] rfl sqA ?_; (with_reducible refine (endonymref6_Family.calls ((rd_T25 l0 x7_2).f0) t550 _ A9.out).mono ?_); rintro e w' ⟨rfl, ⟨nd, rfl⟩⟩; refine ⟨_, rfl, ?_⟩))
      go_roundg k2
      case measure => have := HJ3.out; have := HK2.out; omega
      case rel => exact ⟨(wrap64 (x7_2 + 1)), sqE, H', ⟨by have := HJ3.out; have := HK2.out; omega⟩, ⟨sqB⟩⟩
     rw [if_pos c10] at H
     have c10b0 := beq_iff_eq.mpr c10
     have c10b1 := bne_eq_false_iff_eq.mpr c10
     clear c10
     obtain ⟨t552, A11, H⟩ := sqO H
     try dsimp only at H
     by_cases c12 : t552 = true
     ·subst c12
      have H1 : (some x7_2) = some r := by rw [if_pos rfl] at H; exact H
      clear H
      have H := H1
      clear H1
      obtain rfl := Option.some.inj H
      have p549 : 0 ≤ (x7_2 : Int) := sqD
      have q549 : x7_2 < (l0.length : Int) := sqD
      obtain ⟨ad549, A549_4, c549_4, e549, hx549_0, hx549_1, hx549_2, hx549_3, hx549_4, hx549_5, hx549_6, hx549_7, hl549_4, hi549_4⟩ := at_T25 HR0.out x7_2 p549 q549
      cases e549
      replace hx549_0 := (HB.out.cell (World.block_lt_of_cell? w _ hx549_0)).trans hx549_0
      replace hx549_1 := (HB.out.cell (World.block_lt_of_cell? w _ hx549_1)).trans hx549_1
      replace hx549_2 := (HB.out.cell (World.block_lt_of_cell? w _ hx549_2)).trans hx549_2
      replace hx549_3 := (HB.out.cell (World.block_lt_of_cell? w _ hx549_3)).trans hx549_3
      replace hx549_4 := (HB.out.cell (World.block_lt_of_cell? w _ hx549_4)).trans hx549_4
      replace hx549_5 := (HB.out.cell (World.block_lt_of_cell? w _ hx549_5)).trans hx549_5
      replace hx549_6 := (HB.out.cell (World.block_lt_of_cell? w _ hx549_6)).trans hx549_6
      replace hx549_7 := (HB.out.cell (World.block_lt_of_cell? w _ hx549_7)).trans hx549_7
      have HR549_4 := Aside0.mk hi549_4
      have HC549_4 := Aside0.mk hl549_4
      clear hi549_4 hl549_4
      replace p549 := eq_true p549
      replace q549 := eq_true q549
      go_wp2_with (first | ((with_reducible refine gate_callee (f := 33) rfl ?_); refine goesL_ (some 25) rfl rfl Tryz.func33 (by kernel_rfl) rfl #[.int .i64 ((rd_T25 l0 x7_2).f0)] rfl sqA ?_; (with_reducible refine (endonymref6_Family.calls ((rd_T25 l0 x7_2).f0) t550 _ A9.out).mono ?_); rintro e w' ⟨rfl, ⟨nd, rfl⟩⟩; refine ⟨_, rfl, ?_⟩; have p551 : 0 ≤ (x7_2 : Int) := sqD; have q551 : x7_2 < (l0.length : Int) := sqD; obtain ⟨ad551, A551_4, c551_4, e551, hx551_0, hx551_1, hx551_2, hx551_3, hx551_4, hx551_5, hx551_6, hx551_7, hl551_4, hi551_4⟩ := at_T25 HR0.out x7_2 p551 q551; obtain rfl : ad549 = ad551 := (by injection e551); replace hx551_0 := (HB.out.cell (World.block_lt_of_cell? w _ hx551_0)).trans hx551_0; replace hx551_1 := (HB.out.cell (World.block_lt_of_cell? w _ hx551_1)).trans hx551_1; replace hx551_2 := (HB.out.cell (World.block_lt_of_cell? w _ hx551_2)).trans hx551_2; replace hx551_3 := (HB.out.cell (World.block_lt_of_cell? w _ hx551_3)).trans hx551_3; replace hx551_4 := (HB.out.cell (World.block_lt_of_cell? w _ hx551_4)).trans hx551_4; replace hx551_5 := (HB.out.cell (World.block_lt_of_cell? w _ hx551_5)).trans hx551_5; replace hx551_6 := (HB.out.cell (World.block_lt_of_cell? w _ hx551_6)).trans hx551_6; replace hx551_7 := (HB.out.cell (World.block_lt_of_cell? w _ hx551_7)).trans hx551_7; have HR551_4 := Aside0.mk hi551_4; have HC551_4 := Aside0.mk hl551_4; clear hi551_4 hl551_4; replace p551 := eq_true p551; replace q551 := eq_true q551; have ea_ := Option.some.inj (hx549_4.symm.trans hx551_4); injection ea_ with ea_ en_ ec_; subst ea_; subst ec_; clear en_) | (go_at_call 71; (with_reducible refine (endonymref6_Speaks.calls ((rd_T25 l0 x7_2).f0) ((rd_T25 l0 x7_2).f1) ((rd_T25 l0 x7_2).f2) ((rd_T25 l0 x7_2).f3) _ _ ((rd_T25 l0 x7_2).f4) ((rd_T25 l0 x7_2).f5) ((rd_T25 l0 x7_2).f6) ((rd_T25 l0 x7_2).f7) (wrap64 (a2)) true _ ?side1 ?side2 A11.out).mono ?_); (case side1 => repeat (first | exact (Kd.C_below HR551_4.out sqB) | (with_reducible refine Kd.C_alloc ?_ _) | (with_reducible refine Kd.C_drewN ?_ _) | (with_reducible refine Kd.C_drew ?_))); (case side2 => exact HC551_4.out); rintro e w13 ⟨rfl, hb⟩; have n0_ := Aside0.mk (below_step sqB hb); clear HB; have HB := n0_; clear n0_; (try clear hb); (try clear hb2); (try clear hk); (try clear hi)))
      go_ret
      exact ⟨sqE', sqB⟩
     replace c12 := Bool.eq_false_iff.mpr c12
     subst c12
     have H1 : (endonymref6_Find.l0 k2 l0 a1 a2 (wrap64 (x7_2 + 1))) = some r := by rw [if_neg (show ¬ (false = true) by decide)] at H; exact H
     clear H
     have H := H1
     clear H1
     have H' := Aside0.mk H
     clear H
     have p549 : 0 ≤ (x7_2 : Int) := sqD
     have q549 : x7_2 < (l0.length : Int) := sqD
     obtain ⟨ad549, A549_4, c549_4, e549, hx549_0, hx549_1, hx549_2, hx549_3, hx549_4, hx549_5, hx549_6, hx549_7, hl549_4, hi549_4⟩ := at_T25 HR0.out x7_2 p549 q549
     cases e549
     replace hx549_0 := (HB.out.cell (World.block_lt_of_cell? w _ hx549_0)).trans hx549_0
     replace hx549_1 := (HB.out.cell (World.block_lt_of_cell? w _ hx549_1)).trans hx549_1
     replace hx549_2 := (HB.out.cell (World.block_lt_of_cell? w _ hx549_2)).trans hx549_2
     replace hx549_3 := (HB.out.cell (World.block_lt_of_cell? w _ hx549_3)).trans hx549_3
     replace hx549_4 := (HB.out.cell (World.block_lt_of_cell? w _ hx549_4)).trans hx549_4
     replace hx549_5 := (HB.out.cell (World.block_lt_of_cell? w _ hx549_5)).trans hx549_5
     replace hx549_6 := (HB.out.cell (World.block_lt_of_cell? w _ hx549_6)).trans hx549_6
     replace hx549_7 := (HB.out.cell (World.block_lt_of_cell? w _ hx549_7)).trans hx549_7
     have HR549_4 := Aside0.mk hi549_4
     have HC549_4 := Aside0.mk hl549_4
     clear hi549_4 hl549_4
     replace p549 := eq_true p549
     replace q549 := eq_true q549
     go_wp2_with (first | ((with_reducible refine gate_callee (f := 33) rfl ?_); refine goesL_ (some 25) rfl rfl Tryz.func33 (by kernel_rfl) rfl #[.int .i64 ((rd_T25 l0 x7_2).f0)] rfl sqA ?_; (with_reducible refine (endonymref6_Family.calls ((rd_T25 l0 x7_2).f0) t550 _ A9.out).mono ?_); rintro e w' ⟨rfl, ⟨nd, rfl⟩⟩; refine ⟨_, rfl, ?_⟩; have p551 : 0 ≤ (x7_2 : Int) := sqD; have q551 : x7_2 < (l0.length : Int) := sqD; obtain ⟨ad551, A551_4, c551_4, e551, hx551_0, hx551_1, hx551_2, hx551_3, hx551_4, hx551_5, hx551_6, hx551_7, hl551_4, hi551_4⟩ := at_T25 HR0.out x7_2 p551 q551; obtain rfl : ad549 = ad551 := (by injection e551); replace hx551_0 := (HB.out.cell (World.block_lt_of_cell? w _ hx551_0)).trans hx551_0; replace hx551_1 := (HB.out.cell (World.block_lt_of_cell? w _ hx551_1)).trans hx551_1; replace hx551_2 := (HB.out.cell (World.block_lt_of_cell? w _ hx551_2)).trans hx551_2; replace hx551_3 := (HB.out.cell (World.block_lt_of_cell? w _ hx551_3)).trans hx551_3; replace hx551_4 := (HB.out.cell (World.block_lt_of_cell? w _ hx551_4)).trans hx551_4; replace hx551_5 := (HB.out.cell (World.block_lt_of_cell? w _ hx551_5)).trans hx551_5; replace hx551_6 := (HB.out.cell (World.block_lt_of_cell? w _ hx551_6)).trans hx551_6; replace hx551_7 := (HB.out.cell (World.block_lt_of_cell? w _ hx551_7)).trans hx551_7; have HR551_4 := Aside0.mk hi551_4; have HC551_4 := Aside0.mk hl551_4; clear hi551_4 hl551_4; replace p551 := eq_true p551; replace q551 := eq_true q551; have ea_ := Option.some.inj (hx549_4.symm.trans hx551_4); injection ea_ with ea_ en_ ec_; subst ea_; subst ec_; clear en_) | (go_at_call 71; (with_reducible refine (endonymref6_Speaks.calls ((rd_T25 l0 x7_2).f0) ((rd_T25 l0 x7_2).f1) ((rd_T25 l0 x7_2).f2) ((rd_T25 l0 x7_2).f3) _ _ ((rd_T25 l0 x7_2).f4) ((rd_T25 l0 x7_2).f5) ((rd_T25 l0 x7_2).f6) ((rd_T25 l0 x7_2).f7) (wrap64 (a2)) false _ ?side1 ?side2 A11.out).mono ?_); (case side1 => repeat (first | exact (Kd.C_below HR551_4.out sqB) | (with_reducible refine Kd.C_alloc ?_ _) | (with_reducible refine Kd.C_drewN ?_ _) | (with_reducible refine Kd.C_drew ?_))); (case side2 => exact HC551_4.out); rintro e w14 ⟨rfl, hb⟩; have n0_ := Aside0.mk (below_step sqB hb); clear HB; have HB := n0_; clear n0_; (try clear hb); (try clear hb2); (try clear hk); (try clear hi)))
     go_roundg k2
     case measure => have := HJ3.out; have := HK2.out; omega
     case rel => exact ⟨(wrap64 (x7_2 + 1)), sqE, H', ⟨by have := HJ3.out; have := HK2.out; omega⟩, ⟨sqB⟩⟩
end Go.Proofs.YtnoppeocbfapdaaGreatDoor.T
