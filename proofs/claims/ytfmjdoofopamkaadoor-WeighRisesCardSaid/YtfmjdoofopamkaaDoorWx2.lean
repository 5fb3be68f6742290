-- written by wip/pp.py of this session (the kit's print with patches); checked by Lean alone
import Derived.Test.YtfmjdoofopamkaaDoorWx0
import Derived.Test.YtfmjdoofopamkaaDoorWx1
namespace Go.Proofs.YtfmjdoofopamkaaDoor.W
open Go.RowKit Go.Proofs.YtfmjdoofopamkaaDoorW.PrintWords Go.Proofs.YtfmjdoofopamkaaDoorW.PrintLast Go.Proofs.YtfmjdoofopamkaaDoorW.PrintMore
attribute [local go_sem] max2_int min2_int max_two min_two max_three min_three max_four min_four   -- for this text's walks alone
set_option linter.unusedVariables false
set_option linter.unusedSimpArgs false

/-! ### math_log: function 96 -/
def math_log.j0 : Nat → Nat → Bool → Option (Nat)
 | 0, _, _ => none
 | k + 1, x0, x14 => if x14 = true then (some x0) else (if (FloatKind.f64.format.order x0 (0 : Nat) == some .lt) = true then ((math_NaN.f).bind fun t123 => (some t123)) else (if (FloatKind.f64.format.order x0 (0 : Nat) == some .eq) = true then ((math_Inf.f (-1)).bind fun t124 => (some t124)) else ((math_Frexp.f k x0).bind fun bt125 => (if (FloatKind.f64.format.order bt125.1 (4604544271217802189 : Nat) == some .lt) = true then ((floatBits .mul .f64 bt125.1 (4611686018427387904 : Nat)).bind fun t127 => ((floatBits .sub .f64 t127 (4607182418800017408 : Nat)).bind fun t128 => ((floatBits .add .f64 (4611686018427387904 : Nat) t128).bind fun t129 => ((floatBits .quo .f64 t128 t129).bind fun t130 => ((floatBits .mul .f64 t130 t130).bind fun t131 => ((floatBits .mul .f64 t131 t131).bind fun t132 => ((floatBits .mul .f64 t132 (4594499633228436036 : Nat)).bind fun t133 => ((floatBits .add .f64 (4595719342595441630 : Nat) t133).bind fun t134 => ((floatBits .mul .f64 t132 t134).bind fun t135 => ((floatBits .add .f64 (4598818590951641945 : Nat) t135).bind fun t136 => ((floatBits .mul .f64 t132 t136).bind fun t137 => ((floatBits .add .f64 (4604180019048437139 : Nat) t137).bind fun t138 => ((floatBits .mul .f64 t131 t138).bind fun t139 => ((floatBits .mul .f64 t132 (4594685411790997151 : Nat)).bind fun t140 => ((floatBits .add .f64 (4597174411056806063 : Nat) t140).bind fun t141 => ((floatBits .mul .f64 t132 t141).bind fun t142 => ((floatBits .add .f64 (4600877379321592324 : Nat) t142).bind fun t143 => ((floatBits .mul .f64 t132 t143).bind fun t144 => ((floatBits .add .f64 t139 t144).bind fun t145 => ((floatBits .mul .f64 (4602678819172646912 : Nat) t128).bind fun t146 => ((floatBits .mul .f64 t146 t128).bind fun t147 => ((floatBits .mul .f64 (floatOfInt .f64 (wrap64 (bt125.2 - 1))) (4604418534311723008 : Nat)).bind fun t148 => ((floatBits .add .f64 t147 t145).bind fun t149 => ((floatBits .mul .f64 t130 t149).bind fun t150 => ((floatBits .mul .f64 (floatOfInt .f64 (wrap64 (bt125.2 - 1))) (4461442080421002358 : Nat)).bind fun t151 => ((floatBits .add .f64 t150 t151).bind fun t152 => ((floatBits .sub .f64 t147 t152).bind fun t153 => ((floatBits .sub .f64 t153 t128).bind fun t154 => ((floatBits .sub .f64 t148 t154).bind fun t155 => (some t155)))))))))))))))))))))))))))))) else ((floatBits .sub .f64 bt125.1 (4607182418800017408 : Nat)).bind fun t156 => ((floatBits .add .f64 (4611686018427387904 : Nat) t156).bind fun t157 => ((floatBits .quo .f64 t156 t157).bind fun t158 => ((floatBits .mul .f64 t158 t158).bind fun t159 => ((floatBits .mul .f64 t159 t159).bind fun t160 => ((floatBits .mul .f64 t160 (4594499633228436036 : Nat)).bind fun t161 => ((floatBits .add .f64 (4595719342595441630 : Nat) t161).bind fun t162 => ((floatBits .mul .f64 t160 t162).bind fun t163 => ((floatBits .add .f64 (4598818590951641945 : Nat) t163).bind fun t164 => ((floatBits .mul .f64 t160 t164).bind fun t165 => ((floatBits .add .f64 (4604180019048437139 : Nat) t165).bind fun t166 => ((floatBits .mul .f64 t159 t166).bind fun t167 => ((floatBits .mul .f64 t160 (4594685411790997151 : Nat)).bind fun t168 => ((floatBits .add .f64 (4597174411056806063 : Nat) t168).bind fun t169 => ((floatBits .mul .f64 t160 t169).bind fun t170 => ((floatBits .add .f64 (4600877379321592324 : Nat) t170).bind fun t171 => ((floatBits .mul .f64 t160 t171).bind fun t172 => ((floatBits .add .f64 t167 t172).bind fun t173 => ((floatBits .mul .f64 (4602678819172646912 : Nat) t156).bind fun t174 => ((floatBits .mul .f64 t174 t156).bind fun t175 => ((floatBits .mul .f64 (floatOfInt .f64 bt125.2) (4604418534311723008 : Nat)).bind fun t176 => ((floatBits .add .f64 t175 t173).bind fun t177 => ((floatBits .mul .f64 t158 t177).bind fun t178 => ((floatBits .mul .f64 (floatOfInt .f64 bt125.2) (4461442080421002358 : Nat)).bind fun t179 => ((floatBits .add .f64 t178 t179).bind fun t180 => ((floatBits .sub .f64 t175 t180).bind fun t181 => ((floatBits .sub .f64 t181 t156).bind fun t182 => ((floatBits .sub .f64 t176 t182).bind fun t183 => (some t183)))))))))))))))))))))))))))))))))
def math_log.f (k : Nat) (a0 : Nat) : Option (Nat) := (math_IsNaN.f a0).bind fun t121 => (if t121 = true then (math_log.j0 k a0 true) else ((math_IsInf.f a0 1).bind fun t122 => (math_log.j0 k a0 t122)))
theorem math_log.mono_l : ∀ k, (∀ y0 y1, LeO (math_log.j0 k y0 y1) (math_log.j0 (k + 1) y0 y1))
 | 0 => fun _ _ r h => by simp [math_log.j0] at h
 | k + 1 => by
  have ih0 := math_log.mono_l k
  ·
   intro y0 y1
   unfold math_log.j0
   repeat' first | (with_reducible first | apply ih0 | apply math_Frexp.mono | apply LeO.refl | apply LeO.none | refine LeO.ite ?_ ?_ | refine LeO.bind ?_ (fun _ => ?_)) | apply ih0 | apply math_Frexp.mono | apply LeO.none | refine LeO.ite ?_ ?_ | refine LeO.bind ?_ (fun _ => ?_)
theorem math_log.mono : ∀ a0 k, LeO (math_log.f k a0) (math_log.f (k + 1) a0) := by
 intro a0 k
 have ih0 := math_log.mono_l k
 unfold math_log.f
 repeat' first | (with_reducible first | apply ih0 | apply math_Frexp.mono | apply LeO.refl | apply LeO.none | refine LeO.ite ?_ ?_ | refine LeO.bind ?_ (fun _ => ?_)) | apply ih0 | apply math_Frexp.mono | apply LeO.none | refine LeO.ite ?_ ?_ | refine LeO.bind ?_ (fun _ => ?_)
set_option maxHeartbeats 8000000 in
set_option maxRecDepth 100000 in
theorem math_log.calls (k : Nat) (a0 : Nat) (r : Nat) (w : World) (h : math_log.f k a0 = some r) :
  Calls Tryd.prog 96 #[.float .f64 a0] w fun e w' => e = .returned (.float .f64 r) ∧ Drawn0 w w' := by
 have H : ((math_IsNaN.f a0).bind fun t121 => (if t121 = true then (math_log.j0 k a0 true) else ((math_IsInf.f a0 1).bind fun t122 => (math_log.j0 k a0 t122)))) = some r := h
 clear h
 have HC2 := Aside0.mk H
 clear H
 go_enter Tryd.func96, Tryd.ntmps96
 go_upto_region 1 with (fail)
 go_cut [14] (fun v14 wc => ∃ (kq : Nat) (x14_1 : Bool), v14 = .bool x14_1 ∧ Aside0 (math_log.j0 kq a0 x14_1 = some r) ∧ Aside0 (kq ≤ k) ∧ Drawn0 w wc)
 case first =>
  have H := HC2.out
  clear HC2
  replace H := Option.bind_eq_some_iff.mp H
  obtain ⟨t121, A30, H⟩ := H
  try dsimp only at H
  have A3 := Aside0.mk A30
  clear A30
  by_cases c4 : t121 = true
  ·
   subst c4
   have H1 : (math_log.j0 k a0 true) = some r := by rw [if_pos rfl] at H; exact H
   clear H
   have H := H1
   clear H1
   have H' := Aside0.mk H
   clear H
   go_wp2_with (first | ((with_reducible refine gate_callee (f := 83) rfl ?_); refine goesL_ (some 16) rfl rfl Tryd.func83 (by kernel_rfl) rfl #[.float .f64 a0] rfl sqA ?_; (with_reducible refine (math_IsNaN.calls a0 true _ A3.out).mono ?_); rintro e w' ⟨rfl, ⟨nd, rfl⟩⟩; refine ⟨_, rfl, ?_⟩))
   go_meet
   case rel => exact ⟨_, (true), sqE, H', ⟨by first | omega | exact Nat.le_refl _⟩, sqW⟩
  ·
   replace c4 := Bool.eq_false_iff.mpr c4
   subst c4
   have H1 : ((math_IsInf.f a0 1).bind fun t122 => (math_log.j0 k a0 t122)) = some r := by rw [if_neg (show ¬ (false = true) by decide)] at H; exact H
   clear H
   have H := H1
   clear H1
   replace H := Option.bind_eq_some_iff.mp H
   obtain ⟨t122, A50, H⟩ := H
   try dsimp only at H
   have A5 := Aside0.mk A50
   clear A50
   have H' := Aside0.mk H
   clear H
   go_wp2_with (first | ((with_reducible refine gate_callee (f := 83) rfl ?_); refine goesL_ (some 16) rfl rfl Tryd.func83 (by kernel_rfl) rfl #[.float .f64 a0] rfl sqA ?_; (with_reducible refine (math_IsNaN.calls a0 false _ A3.out).mono ?_); rintro e w' ⟨rfl, ⟨nd, rfl⟩⟩; refine ⟨_, rfl, ?_⟩) | (go_at_call 37; (with_reducible refine (math_IsInf.calls a0 1 t122 _ A5.out).mono ?_); rintro e w' ⟨rfl, ⟨nd, rfl⟩⟩))
   go_meet
   case rel => exact ⟨_, (t122), sqE, H', ⟨by first | omega | exact Nat.le_refl _⟩, sqW⟩
 case rest =>
  clear HC2
  try clear p2
  try clear c4
  obtain ⟨kq, x14_1, rfl, HA, HJ1, ⟨mc1, rfl⟩⟩ := hcut
  cases kq with
  | zero => exact absurd HA.out (by simp [math_log.j0])
  | succ kj1 =>
   have H := HA.out
   clear HA
   simp only [math_log.j0] at H
   by_cases c6 : x14_1 = true
   ·
    subst c6
    have H1 : (some a0) = some r := by rw [if_pos rfl] at H; exact H
    clear H
    have H := H1
    clear H1
    obtain rfl := Option.some.inj H
    go_wp2
    go_ret
    exact ⟨sqE, sqW⟩
   ·
    replace c6 := Bool.eq_false_iff.mpr c6
    subst c6
    have H1 : (if (FloatKind.f64.format.order a0 (0 : Nat) == some .lt) = true then ((math_NaN.f).bind fun t123 => (some t123)) else (if (FloatKind.f64.format.order a0 (0 : Nat) == some .eq) = true then ((math_Inf.f (-1)).bind fun t124 => (some t124)) else ((math_Frexp.f kj1 a0).bind fun bt125 => (if (FloatKind.f64.format.order bt125.1 (4604544271217802189 : Nat) == some .lt) = true then ((floatBits .mul .f64 bt125.1 (4611686018427387904 : Nat)).bind fun t127 => ((floatBits .sub .f64 t127 (4607182418800017408 : Nat)).bind fun t128 => ((floatBits .add .f64 (4611686018427387904 : Nat) t128).bind fun t129 => ((floatBits .quo .f64 t128 t129).bind fun t130 => ((floatBits .mul .f64 t130 t130).bind fun t131 => ((floatBits .mul .f64 t131 t131).bind fun t132 => ((floatBits .mul .f64 t132 (4594499633228436036 : Nat)).bind fun t133 => ((floatBits .add .f64 (4595719342595441630 : Nat) t133).bind fun t134 => ((floatBits .mul .f64 t132 t134).bind fun t135 => ((floatBits .add .f64 (4598818590951641945 : Nat) t135).bind fun t136 => ((floatBits .mul .f64 t132 t136).bind fun t137 => ((floatBits .add .f64 (4604180019048437139 : Nat) t137).bind fun t138 => ((floatBits .mul .f64 t131 t138).bind fun t139 => ((floatBits .mul .f64 t132 (4594685411790997151 : Nat)).bind fun t140 => ((floatBits .add .f64 (4597174411056806063 : Nat) t140).bind fun t141 => ((floatBits .mul .f64 t132 t141).bind fun t142 => ((floatBits .add .f64 (4600877379321592324 : Nat) t142).bind fun t143 => ((floatBits .mul .f64 t132 t143).bind fun t144 => ((floatBits .add .f64 t139 t144).bind fun t145 => ((floatBits .mul .f64 (4602678819172646912 : Nat) t128).bind fun t146 => ((floatBits .mul .f64 t146 t128).bind fun t147 => ((floatBits .mul .f64 (floatOfInt .f64 (wrap64 (bt125.2 - 1))) (4604418534311723008 : Nat)).bind fun t148 => ((floatBits .add .f64 t147 t145).bind fun t149 => ((floatBits .mul .f64 t130 t149).bind fun t150 => ((floatBits .mul .f64 (floatOfInt .f64 (wrap64 (bt125.2 - 1))) (4461442080421002358 : Nat)).bind fun t151 => ((floatBits .add .f64 t150 t151).bind fun t152 => ((floatBits .sub .f64 t147 t152).bind fun t153 => ((floatBits .sub .f64 t153 t128).bind fun t154 => ((floatBits .sub .f64 t148 t154).bind fun t155 => (some t155)))))))))))))))))))))))))))))) else ((floatBits .sub .f64 bt125.1 (4607182418800017408 : Nat)).bind fun t156 => ((floatBits .add .f64 (4611686018427387904 : Nat) t156).bind fun t157 => ((floatBits .quo .f64 t156 t157).bind fun t158 => ((floatBits .mul .f64 t158 t158).bind fun t159 => ((floatBits .mul .f64 t159 t159).bind fun t160 => ((floatBits .mul .f64 t160 (4594499633228436036 : Nat)).bind fun t161 => ((floatBits .add .f64 (4595719342595441630 : Nat) t161).bind fun t162 => ((floatBits .mul .f64 t160 t162).bind fun t163 => ((floatBits .add .f64 (4598818590951641945 : Nat) t163).bind fun t164 => ((floatBits .mul .f64 t160 t164).bind fun t165 => ((floatBits .add .f64 (4604180019048437139 : Nat) t165).bind fun t166 => ((floatBits .mul .f64 t159 t166).bind fun t167 => ((floatBits .mul .f64 t160 (4594685411790997151 : Nat)).bind fun t168 => ((floatBits .add .f64 (4597174411056806063 : Nat) t168).bind fun t169 => ((floatBits .mul .f64 t160 t169).bind fun t170 => ((floatBits .add .f64 (4600877379321592324 : Nat) t170).bind fun t171 => ((floatBits .mul .f64 t160 t171).bind fun t172 => ((floatBits .add .f64 t167 t172).bind fun t173 => ((floatBits .mul .f64 (4602678819172646912 : Nat) t156).bind fun t174 => ((floatBits .mul .f64 t174 t156).bind fun t175 => ((floatBits .mul .f64 (floatOfInt .f64 bt125.2) (4604418534311723008 : Nat)).bind fun t176 => ((floatBits .add .f64 t175 t173).bind fun t177 => ((floatBits .mul .f64 t158 t177).bind fun t178 => ((floatBits .mul .f64 (floatOfInt .f64 bt125.2) (4461442080421002358 : Nat)).bind fun t179 => ((floatBits .add .f64 t178 t179).bind fun t180 => ((floatBits .sub .f64 t175 t180).bind fun t181 => ((floatBits .sub .f64 t181 t156).bind fun t182 => ((floatBits .sub .f64 t176 t182).bind fun t183 => (some t183))))))))))))))))))))))))))))))))) = some r := by rw [if_neg (show ¬ (false = true) by decide)] at H; exact H
    clear H
    have H := H1
    clear H1
    by_cases c7 : (FloatKind.f64.format.order a0 (0 : Nat) == some .lt) = true
    ·
     rw [if_pos c7] at H
     have c7b0 : (FloatKind.f64.format.order a0 (0 : Nat) == some .lt) = true := c7
     (try (have c7b1 : decide (FloatKind.f64.format.order a0 (0 : Nat) = some .lt) = true := by simpa using c7))
     (try (have c7b2 : (FloatKind.f64.format.order a0 (0 : Nat) == some .lt) = true := by simpa using c7))
     clear c7
     replace H := Option.bind_eq_some_iff.mp H
     obtain ⟨t123, A80, H⟩ := H
     try dsimp only at H
     have A8 := Aside0.mk A80
     clear A80
     obtain rfl := Option.some.inj H
     go_wp2_with (first | ((with_reducible refine gate_callee (f := 103) rfl ?_); refine goesL_ (some 25) rfl rfl Tryd.func103 (by kernel_rfl) rfl #[] rfl sqA ?_; (with_reducible refine (math_NaN.calls  t123 _ A8.out).mono ?_); rintro e w' ⟨rfl, ⟨nd, rfl⟩⟩; refine ⟨_, rfl, ?_⟩))
     go_ret
     exact ⟨sqE, sqW⟩
    ·
     rw [if_neg c7] at H
     have c7b0 : (FloatKind.f64.format.order a0 (0 : Nat) == some .lt) = false := by simpa using c7
     (try (have c7b1 : decide (FloatKind.f64.format.order a0 (0 : Nat) = some .lt) = false := by simpa using c7))
     (try (have c7b2 : (FloatKind.f64.format.order a0 (0 : Nat) == some .lt) = false := by simpa using c7))
     (try (have c7b3 : ¬ (FloatKind.f64.format.order a0 (0 : Nat) = some .lt) := by simpa using c7))
     clear c7
     by_cases c9 : (FloatKind.f64.format.order a0 (0 : Nat) == some .eq) = true
     ·
      rw [if_pos c9] at H
      have c9b0 : (FloatKind.f64.format.order a0 (0 : Nat) == some .eq) = true := c9
      (try (have c9b1 : decide (FloatKind.f64.format.order a0 (0 : Nat) = some .eq) = true := by simpa using c9))
      (try (have c9b2 : (FloatKind.f64.format.order a0 (0 : Nat) == some .eq) = true := by simpa using c9))
      clear c9
      replace H := Option.bind_eq_some_iff.mp H
      obtain ⟨t124, A100, H⟩ := H
      try dsimp only at H
      have A10 := Aside0.mk A100
      clear A100
      obtain rfl := Option.some.inj H
      go_wp2_with (first | ((with_reducible refine gate_callee (f := 42) rfl ?_); refine goesL_ (some 29) rfl rfl Tryd.func42 (by kernel_rfl) rfl #[.int .i64 (-1)] rfl sqA ?_; (with_reducible refine (math_Inf.calls (-1) t124 _ A10.out).mono ?_); rintro e w' ⟨rfl, ⟨nd, rfl⟩⟩; refine ⟨_, rfl, ?_⟩))
      go_ret
      exact ⟨sqE, sqW⟩
     ·
      rw [if_neg c9] at H
      have c9b0 : (FloatKind.f64.format.order a0 (0 : Nat) == some .eq) = false := by simpa using c9
      (try (have c9b1 : decide (FloatKind.f64.format.order a0 (0 : Nat) = some .eq) = false := by simpa using c9))
      (try (have c9b2 : (FloatKind.f64.format.order a0 (0 : Nat) == some .eq) = false := by simpa using c9))
      (try (have c9b3 : ¬ (FloatKind.f64.format.order a0 (0 : Nat) = some .eq) := by simpa using c9))
      clear c9
      replace H := Option.bind_eq_some_iff.mp H
      obtain ⟨⟨t125, t126⟩, A110, H⟩ := H
      try dsimp only at H
      have A11 := Aside0.mk A110
      clear A110
      by_cases c12 : (FloatKind.f64.format.order t125 (4604544271217802189 : Nat) == some .lt) = true
      ·
       rw [if_pos c12] at H
       have c12b0 : (FloatKind.f64.format.order t125 (4604544271217802189 : Nat) == some .lt) = true := c12
       (try (have c12b1 : decide (FloatKind.f64.format.order t125 (4604544271217802189 : Nat) = some .lt) = true := by simpa using c12))
       (try (have c12b2 : (FloatKind.f64.format.order t125 (4604544271217802189 : Nat) == some .lt) = true := by simpa using c12))
       clear c12
       replace H := Option.bind_eq_some_iff.mp H
       obtain ⟨t127, A130, H⟩ := H
       try dsimp only at H
       have hf14 : ∀ w_ : World, Sem.run Tryd.prog (binOp .mul 23 (.float .f64 t125) (.float .f64 (4611686018427387904 : Nat))) w_ = .ok (.float .f64 t127) w_ := fun w_ => run_float_arith w_ .mul 23 .f64 t125 (4611686018427387904 : Nat) t127 A130
       clear A130
       replace H := Option.bind_eq_some_iff.mp H
       obtain ⟨t128, A150, H⟩ := H
       try dsimp only at H
       have hf16 : ∀ w_ : World, Sem.run Tryd.prog (binOp .sub 23 (.float .f64 t127) (.float .f64 (4607182418800017408 : Nat))) w_ = .ok (.float .f64 t128) w_ := fun w_ => run_float_arith w_ .sub 23 .f64 t127 (4607182418800017408 : Nat) t128 A150
       clear A150
       replace H := Option.bind_eq_some_iff.mp H
       obtain ⟨t129, A170, H⟩ := H
       try dsimp only at H
       have hf18 : ∀ w_ : World, Sem.run Tryd.prog (binOp .add 23 (.float .f64 (4611686018427387904 : Nat)) (.float .f64 t128)) w_ = .ok (.float .f64 t129) w_ := fun w_ => run_float_arith w_ .add 23 .f64 (4611686018427387904 : Nat) t128 t129 A170
       clear A170
       replace H := Option.bind_eq_some_iff.mp H
       obtain ⟨t130, A190, H⟩ := H
       try dsimp only at H
       have hf20 : ∀ w_ : World, Sem.run Tryd.prog (binOp .quo 23 (.float .f64 t128) (.float .f64 t129)) w_ = .ok (.float .f64 t130) w_ := fun w_ => run_float_arith w_ .quo 23 .f64 t128 t129 t130 A190
       clear A190
       replace H := Option.bind_eq_some_iff.mp H
       obtain ⟨t131, A210, H⟩ := H
       try dsimp only at H
       have hf22 : ∀ w_ : World, Sem.run Tryd.prog (binOp .mul 23 (.float .f64 t130) (.float .f64 t130)) w_ = .ok (.float .f64 t131) w_ := fun w_ => run_float_arith w_ .mul 23 .f64 t130 t130 t131 A210
       clear A210
       replace H := Option.bind_eq_some_iff.mp H
       obtain ⟨t132, A230, H⟩ := H
       try dsimp only at H
       have hf24 : ∀ w_ : World, Sem.run Tryd.prog (binOp .mul 23 (.float .f64 t131) (.float .f64 t131)) w_ = .ok (.float .f64 t132) w_ := fun w_ => run_float_arith w_ .mul 23 .f64 t131 t131 t132 A230
       clear A230
       replace H := Option.bind_eq_some_iff.mp H
       obtain ⟨t133, A250, H⟩ := H
       try dsimp only at H
       have hf26 : ∀ w_ : World, Sem.run Tryd.prog (binOp .mul 23 (.float .f64 t132) (.float .f64 (4594499633228436036 : Nat))) w_ = .ok (.float .f64 t133) w_ := fun w_ => run_float_arith w_ .mul 23 .f64 t132 (4594499633228436036 : Nat) t133 A250
       clear A250
       replace H := Option.bind_eq_some_iff.mp H
       obtain ⟨t134, A270, H⟩ := H
       try dsimp only at H
       have hf28 : ∀ w_ : World, Sem.run Tryd.prog (binOp .add 23 (.float .f64 (4595719342595441630 : Nat)) (.float .f64 t133)) w_ = .ok (.float .f64 t134) w_ := fun w_ => run_float_arith w_ .add 23 .f64 (4595719342595441630 : Nat) t133 t134 A270
       clear A270
       replace H := Option.bind_eq_some_iff.mp H
       obtain ⟨t135, A290, H⟩ := H
       try dsimp only at H
       have hf30 : ∀ w_ : World, Sem.run Tryd.prog (binOp .mul 23 (.float .f64 t132) (.float .f64 t134)) w_ = .ok (.float .f64 t135) w_ := fun w_ => run_float_arith w_ .mul 23 .f64 t132 t134 t135 A290
       clear A290
       replace H := Option.bind_eq_some_iff.mp H
       obtain ⟨t136, A310, H⟩ := H
       try dsimp only at H
       have hf32 : ∀ w_ : World, Sem.run Tryd.prog (binOp .add 23 (.float .f64 (4598818590951641945 : Nat)) (.float .f64 t135)) w_ = .ok (.float .f64 t136) w_ := fun w_ => run_float_arith w_ .add 23 .f64 (4598818590951641945 : Nat) t135 t136 A310
       clear A310
       replace H := Option.bind_eq_some_iff.mp H
       obtain ⟨t137, A330, H⟩ := H
       try dsimp only at H
       have hf34 : ∀ w_ : World, Sem.run Tryd.prog (binOp .mul 23 (.float .f64 t132) (.float .f64 t136)) w_ = .ok (.float .f64 t137) w_ := fun w_ => run_float_arith w_ .mul 23 .f64 t132 t136 t137 A330
       clear A330
       replace H := Option.bind_eq_some_iff.mp H
       obtain ⟨t138, A350, H⟩ := H
       try dsimp only at H
       have hf36 : ∀ w_ : World, Sem.run Tryd.prog (binOp .add 23 (.float .f64 (4604180019048437139 : Nat)) (.float .f64 t137)) w_ = .ok (.float .f64 t138) w_ := fun w_ => run_float_arith w_ .add 23 .f64 (4604180019048437139 : Nat) t137 t138 A350
       clear A350
       replace H := Option.bind_eq_some_iff.mp H
       obtain ⟨t139, A370, H⟩ := H
       try dsimp only at H
       have hf38 : ∀ w_ : World, Sem.run Tryd.prog (binOp .mul 23 (.float .f64 t131) (.float .f64 t138)) w_ = .ok (.float .f64 t139) w_ := fun w_ => run_float_arith w_ .mul 23 .f64 t131 t138 t139 A370
       clear A370
       replace H := Option.bind_eq_some_iff.mp H
       obtain ⟨t140, A390, H⟩ := H
       try dsimp only at H
       have hf40 : ∀ w_ : World, Sem.run Tryd.prog (binOp .mul 23 (.float .f64 t132) (.float .f64 (4594685411790997151 : Nat))) w_ = .ok (.float .f64 t140) w_ := fun w_ => run_float_arith w_ .mul 23 .f64 t132 (4594685411790997151 : Nat) t140 A390
       clear A390
       replace H := Option.bind_eq_some_iff.mp H
       obtain ⟨t141, A410, H⟩ := H
       try dsimp only at H
       have hf42 : ∀ w_ : World, Sem.run Tryd.prog (binOp .add 23 (.float .f64 (4597174411056806063 : Nat)) (.float .f64 t140)) w_ = .ok (.float .f64 t141) w_ := fun w_ => run_float_arith w_ .add 23 .f64 (4597174411056806063 : Nat) t140 t141 A410
       clear A410
       replace H := Option.bind_eq_some_iff.mp H
       obtain ⟨t142, A430, H⟩ := H
       try dsimp only at H
       have hf44 : ∀ w_ : World, Sem.run Tryd.prog (binOp .mul 23 (.float .f64 t132) (.float .f64 t141)) w_ = .ok (.float .f64 t142) w_ := fun w_ => run_float_arith w_ .mul 23 .f64 t132 t141 t142 A430
       clear A430
       replace H := Option.bind_eq_some_iff.mp H
       obtain ⟨t143, A450, H⟩ := H
       try dsimp only at H
       have hf46 : ∀ w_ : World, Sem.run Tryd.prog (binOp .add 23 (.float .f64 (4600877379321592324 : Nat)) (.float .f64 t142)) w_ = .ok (.float .f64 t143) w_ := fun w_ => run_float_arith w_ .add 23 .f64 (4600877379321592324 : Nat) t142 t143 A450
       clear A450
       replace H := Option.bind_eq_some_iff.mp H
       obtain ⟨t144, A470, H⟩ := H
       try dsimp only at H
       have hf48 : ∀ w_ : World, Sem.run Tryd.prog (binOp .mul 23 (.float .f64 t132) (.float .f64 t143)) w_ = .ok (.float .f64 t144) w_ := fun w_ => run_float_arith w_ .mul 23 .f64 t132 t143 t144 A470
       clear A470
       replace H := Option.bind_eq_some_iff.mp H
       obtain ⟨t145, A490, H⟩ := H
       try dsimp only at H
       have hf50 : ∀ w_ : World, Sem.run Tryd.prog (binOp .add 23 (.float .f64 t139) (.float .f64 t144)) w_ = .ok (.float .f64 t145) w_ := fun w_ => run_float_arith w_ .add 23 .f64 t139 t144 t145 A490
       clear A490
       replace H := Option.bind_eq_some_iff.mp H
       obtain ⟨t146, A510, H⟩ := H
       try dsimp only at H
       have hf52 : ∀ w_ : World, Sem.run Tryd.prog (binOp .mul 23 (.float .f64 (4602678819172646912 : Nat)) (.float .f64 t128)) w_ = .ok (.float .f64 t146) w_ := fun w_ => run_float_arith w_ .mul 23 .f64 (4602678819172646912 : Nat) t128 t146 A510
       clear A510
       replace H := Option.bind_eq_some_iff.mp H
       obtain ⟨t147, A530, H⟩ := H
       try dsimp only at H
       have hf54 : ∀ w_ : World, Sem.run Tryd.prog (binOp .mul 23 (.float .f64 t146) (.float .f64 t128)) w_ = .ok (.float .f64 t147) w_ := fun w_ => run_float_arith w_ .mul 23 .f64 t146 t128 t147 A530
       clear A530
       replace H := Option.bind_eq_some_iff.mp H
       obtain ⟨t148, A550, H⟩ := H
       try dsimp only at H
       have hf56 : ∀ w_ : World, Sem.run Tryd.prog (binOp .mul 23 (.float .f64 (floatOfInt .f64 (wrap64 (t126 - 1)))) (.float .f64 (4604418534311723008 : Nat))) w_ = .ok (.float .f64 t148) w_ := fun w_ => run_float_arith w_ .mul 23 .f64 (floatOfInt .f64 (wrap64 (t126 - 1))) (4604418534311723008 : Nat) t148 A550
       clear A550
       replace H := Option.bind_eq_some_iff.mp H
       obtain ⟨t149, A570, H⟩ := H
       try dsimp only at H
       have hf58 : ∀ w_ : World, Sem.run Tryd.prog (binOp .add 23 (.float .f64 t147) (.float .f64 t145)) w_ = .ok (.float .f64 t149) w_ := fun w_ => run_float_arith w_ .add 23 .f64 t147 t145 t149 A570
       clear A570
       replace H := Option.bind_eq_some_iff.mp H
       obtain ⟨t150, A590, H⟩ := H
       try dsimp only at H
       have hf60 : ∀ w_ : World, Sem.run Tryd.prog (binOp .mul 23 (.float .f64 t130) (.float .f64 t149)) w_ = .ok (.float .f64 t150) w_ := fun w_ => run_float_arith w_ .mul 23 .f64 t130 t149 t150 A590
       clear A590
       replace H := Option.bind_eq_some_iff.mp H
       obtain ⟨t151, A610, H⟩ := H
       try dsimp only at H
       have hf62 : ∀ w_ : World, Sem.run Tryd.prog (binOp .mul 23 (.float .f64 (floatOfInt .f64 (wrap64 (t126 - 1)))) (.float .f64 (4461442080421002358 : Nat))) w_ = .ok (.float .f64 t151) w_ := fun w_ => run_float_arith w_ .mul 23 .f64 (floatOfInt .f64 (wrap64 (t126 - 1))) (4461442080421002358 : Nat) t151 A610
       clear A610
       replace H := Option.bind_eq_some_iff.mp H
       obtain ⟨t152, A630, H⟩ := H
       try dsimp only at H
       have hf64 : ∀ w_ : World, Sem.run Tryd.prog (binOp .add 23 (.float .f64 t150) (.float .f64 t151)) w_ = .ok (.float .f64 t152) w_ := fun w_ => run_float_arith w_ .add 23 .f64 t150 t151 t152 A630
       clear A630
       replace H := Option.bind_eq_some_iff.mp H
       obtain ⟨t153, A650, H⟩ := H
       try dsimp only at H
       have hf66 : ∀ w_ : World, Sem.run Tryd.prog (binOp .sub 23 (.float .f64 t147) (.float .f64 t152)) w_ = .ok (.float .f64 t153) w_ := fun w_ => run_float_arith w_ .sub 23 .f64 t147 t152 t153 A650
       clear A650
       replace H := Option.bind_eq_some_iff.mp H
       obtain ⟨t154, A670, H⟩ := H
       try dsimp only at H
       have hf68 : ∀ w_ : World, Sem.run Tryd.prog (binOp .sub 23 (.float .f64 t153) (.float .f64 t128)) w_ = .ok (.float .f64 t154) w_ := fun w_ => run_float_arith w_ .sub 23 .f64 t153 t128 t154 A670
       clear A670
       replace H := Option.bind_eq_some_iff.mp H
       obtain ⟨t155, A690, H⟩ := H
       try dsimp only at H
       have hf70 : ∀ w_ : World, Sem.run Tryd.prog (binOp .sub 23 (.float .f64 t148) (.float .f64 t154)) w_ = .ok (.float .f64 t155) w_ := fun w_ => run_float_arith w_ .sub 23 .f64 t148 t154 t155 A690
       clear A690
       obtain rfl := Option.some.inj H
       go_wp2_with (first | ((with_reducible refine gate_callee (f := 100) rfl ?_); refine goesL_ (some 32) rfl rfl Tryd.func100 (by kernel_rfl) rfl #[.float .f64 a0] rfl sqA ?_; (with_reducible refine (math_Frexp.calls kj1 a0 t125 t126 _ A11.out).mono ?_); rintro e w' ⟨rfl, ⟨nd, rfl⟩⟩; refine ⟨_, rfl, ?_⟩))
       go_ret
       exact ⟨sqE, sqW⟩
      ·
       rw [if_neg c12] at H
       have c12b0 : (FloatKind.f64.format.order t125 (4604544271217802189 : Nat) == some .lt) = false := by simpa using c12
       (try (have c12b1 : decide (FloatKind.f64.format.order t125 (4604544271217802189 : Nat) = some .lt) = false := by simpa using c12))
       (try (have c12b2 : (FloatKind.f64.format.order t125 (4604544271217802189 : Nat) == some .lt) = false := by simpa using c12))
       (try (have c12b3 : ¬ (FloatKind.f64.format.order t125 (4604544271217802189 : Nat) = some .lt) := by simpa using c12))
       clear c12
       replace H := Option.bind_eq_some_iff.mp H
       obtain ⟨t156, A710, H⟩ := H
       try dsimp only at H
       have hf72 : ∀ w_ : World, Sem.run Tryd.prog (binOp .sub 23 (.float .f64 t125) (.float .f64 (4607182418800017408 : Nat))) w_ = .ok (.float .f64 t156) w_ := fun w_ => run_float_arith w_ .sub 23 .f64 t125 (4607182418800017408 : Nat) t156 A710
       clear A710
       replace H := Option.bind_eq_some_iff.mp H
       obtain ⟨t157, A730, H⟩ := H
       try dsimp only at H
       have hf74 : ∀ w_ : World, Sem.run Tryd.prog (binOp .add 23 (.float .f64 (4611686018427387904 : Nat)) (.float .f64 t156)) w_ = .ok (.float .f64 t157) w_ := fun w_ => run_float_arith w_ .add 23 .f64 (4611686018427387904 : Nat) t156 t157 A730
       clear A730
       replace H := Option.bind_eq_some_iff.mp H
       obtain ⟨t158, A750, H⟩ := H
       try dsimp only at H
       have hf76 : ∀ w_ : World, Sem.run Tryd.prog (binOp .quo 23 (.float .f64 t156) (.float .f64 t157)) w_ = .ok (.float .f64 t158) w_ := fun w_ => run_float_arith w_ .quo 23 .f64 t156 t157 t158 A750
       clear A750
       replace H := Option.bind_eq_some_iff.mp H
       obtain ⟨t159, A770, H⟩ := H
       try dsimp only at H
       have hf78 : ∀ w_ : World, Sem.run Tryd.prog (binOp .mul 23 (.float .f64 t158) (.float .f64 t158)) w_ = .ok (.float .f64 t159) w_ := fun w_ => run_float_arith w_ .mul 23 .f64 t158 t158 t159 A770
       clear A770
       replace H := Option.bind_eq_some_iff.mp H
       obtain ⟨t160, A790, H⟩ := H
       try dsimp only at H
       have hf80 : ∀ w_ : World, Sem.run Tryd.prog (binOp .mul 23 (.float .f64 t159) (.float .f64 t159)) w_ = .ok (.float .f64 t160) w_ := fun w_ => run_float_arith w_ .mul 23 .f64 t159 t159 t160 A790
       clear A790
       replace H := Option.bind_eq_some_iff.mp H
       obtain ⟨t161, A810, H⟩ := H
       try dsimp only at H
       have hf82 : ∀ w_ : World, Sem.run Tryd.prog (binOp .mul 23 (.float .f64 t160) (.float .f64 (4594499633228436036 : Nat))) w_ = .ok (.float .f64 t161) w_ := fun w_ => run_float_arith w_ .mul 23 .f64 t160 (4594499633228436036 : Nat) t161 A810
       clear A810
       replace H := Option.bind_eq_some_iff.mp H
       obtain ⟨t162, A830, H⟩ := H
       try dsimp only at H
       have hf84 : ∀ w_ : World, Sem.run Tryd.prog (binOp .add 23 (.float .f64 (4595719342595441630 : Nat)) (.float .f64 t161)) w_ = .ok (.float .f64 t162) w_ := fun w_ => run_float_arith w_ .add 23 .f64 (4595719342595441630 : Nat) t161 t162 A830
       clear A830
       replace H := Option.bind_eq_some_iff.mp H
       obtain ⟨t163, A850, H⟩ := H
       try dsimp only at H
       have hf86 : ∀ w_ : World, Sem.run Tryd.prog (binOp .mul 23 (.float .f64 t160) (.float .f64 t162)) w_ = .ok (.float .f64 t163) w_ := fun w_ => run_float_arith w_ .mul 23 .f64 t160 t162 t163 A850
       clear A850
       replace H := Option.bind_eq_some_iff.mp H
       obtain ⟨t164, A870, H⟩ := H
       try dsimp only at H
       have hf88 : ∀ w_ : World, Sem.run Tryd.prog (binOp .add 23 (.float .f64 (4598818590951641945 : Nat)) (.float .f64 t163)) w_ = .ok (.float .f64 t164) w_ := fun w_ => run_float_arith w_ .add 23 .f64 (4598818590951641945 : Nat) t163 t164 A870
       clear A870
       replace H := Option.bind_eq_some_iff.mp H
       obtain ⟨t165, A890, H⟩ := H
       try dsimp only at H
       have hf90 : ∀ w_ : World, Sem.run Tryd.prog (binOp .mul 23 (.float .f64 t160) (.float .f64 t164)) w_ = .ok (.float .f64 t165) w_ := fun w_ => run_float_arith w_ .mul 23 .f64 t160 t164 t165 A890
       clear A890
       replace H := Option.bind_eq_some_iff.mp H
       obtain ⟨t166, A910, H⟩ := H
       try dsimp only at H
       have hf92 : ∀ w_ : World, Sem.run Tryd.prog (binOp .add 23 (.float .f64 (4604180019048437139 : Nat)) (.float .f64 t165)) w_ = .ok (.float .f64 t166) w_ := fun w_ => run_float_arith w_ .add 23 .f64 (4604180019048437139 : Nat) t165 t166 A910
       clear A910
       replace H := Option.bind_eq_some_iff.mp H
       obtain ⟨t167, A930, H⟩ := H
       try dsimp only at H
       have hf94 : ∀ w_ : World, Sem.run Tryd.prog (binOp .mul 23 (.float .f64 t159) (.float .f64 t166)) w_ = .ok (.float .f64 t167) w_ := fun w_ => run_float_arith w_ .mul 23 .f64 t159 t166 t167 A930
       clear A930
       replace H := Option.bind_eq_some_iff.mp H
       obtain ⟨t168, A950, H⟩ := H
       try dsimp only at H
       have hf96 : ∀ w_ : World, Sem.run Tryd.prog (binOp .mul 23 (.float .f64 t160) (.float .f64 (4594685411790997151 : Nat))) w_ = .ok (.float .f64 t168) w_ := fun w_ => run_float_arith w_ .mul 23 .f64 t160 (4594685411790997151 : Nat) t168 A950
       clear A950
       replace H := Option.bind_eq_some_iff.mp H
       obtain ⟨t169, A970, H⟩ := H
       try dsimp only at H
       have hf98 : ∀ w_ : World, Sem.run Tryd.prog (binOp .add 23 (.float .f64 (4597174411056806063 : Nat)) (.float .f64 t168)) w_ = .ok (.float .f64 t169) w_ := fun w_ => run_float_arith w_ .add 23 .f64 (4597174411056806063 : Nat) t168 t169 A970
       clear A970
       replace H := Option.bind_eq_some_iff.mp H
       obtain ⟨t170, A990, H⟩ := H
       try dsimp only at H
       have hf100 : ∀ w_ : World, Sem.run Tryd.prog (binOp .mul 23 (.float .f64 t160) (.float .f64 t169)) w_ = .ok (.float .f64 t170) w_ := fun w_ => run_float_arith w_ .mul 23 .f64 t160 t169 t170 A990
       clear A990
       replace H := Option.bind_eq_some_iff.mp H
       obtain ⟨t171, A1010, H⟩ := H
       try dsimp only at H
       have hf102 : ∀ w_ : World, Sem.run Tryd.prog (binOp .add 23 (.float .f64 (4600877379321592324 : Nat)) (.float .f64 t170)) w_ = .ok (.float .f64 t171) w_ := fun w_ => run_float_arith w_ .add 23 .f64 (4600877379321592324 : Nat) t170 t171 A1010
       clear A1010
       replace H := Option.bind_eq_some_iff.mp H
       obtain ⟨t172, A1030, H⟩ := H
       try dsimp only at H
       have hf104 : ∀ w_ : World, Sem.run Tryd.prog (binOp .mul 23 (.float .f64 t160) (.float .f64 t171)) w_ = .ok (.float .f64 t172) w_ := fun w_ => run_float_arith w_ .mul 23 .f64 t160 t171 t172 A1030
       clear A1030
       replace H := Option.bind_eq_some_iff.mp H
       obtain ⟨t173, A1050, H⟩ := H
       try dsimp only at H
       have hf106 : ∀ w_ : World, Sem.run Tryd.prog (binOp .add 23 (.float .f64 t167) (.float .f64 t172)) w_ = .ok (.float .f64 t173) w_ := fun w_ => run_float_arith w_ .add 23 .f64 t167 t172 t173 A1050
       clear A1050
       replace H := Option.bind_eq_some_iff.mp H
       obtain ⟨t174, A1070, H⟩ := H
       try dsimp only at H
       have hf108 : ∀ w_ : World, Sem.run Tryd.prog (binOp .mul 23 (.float .f64 (4602678819172646912 : Nat)) (.float .f64 t156)) w_ = .ok (.float .f64 t174) w_ := fun w_ => run_float_arith w_ .mul 23 .f64 (4602678819172646912 : Nat) t156 t174 A1070
       clear A1070
       replace H := Option.bind_eq_some_iff.mp H
       obtain ⟨t175, A1090, H⟩ := H
       try dsimp only at H
       have hf110 : ∀ w_ : World, Sem.run Tryd.prog (binOp .mul 23 (.float .f64 t174) (.float .f64 t156)) w_ = .ok (.float .f64 t175) w_ := fun w_ => run_float_arith w_ .mul 23 .f64 t174 t156 t175 A1090
       clear A1090
       replace H := Option.bind_eq_some_iff.mp H
       obtain ⟨t176, A1110, H⟩ := H
       try dsimp only at H
       have hf112 : ∀ w_ : World, Sem.run Tryd.prog (binOp .mul 23 (.float .f64 (floatOfInt .f64 t126)) (.float .f64 (4604418534311723008 : Nat))) w_ = .ok (.float .f64 t176) w_ := fun w_ => run_float_arith w_ .mul 23 .f64 (floatOfInt .f64 t126) (4604418534311723008 : Nat) t176 A1110
       clear A1110
       replace H := Option.bind_eq_some_iff.mp H
       obtain ⟨t177, A1130, H⟩ := H
       try dsimp only at H
       have hf114 : ∀ w_ : World, Sem.run Tryd.prog (binOp .add 23 (.float .f64 t175) (.float .f64 t173)) w_ = .ok (.float .f64 t177) w_ := fun w_ => run_float_arith w_ .add 23 .f64 t175 t173 t177 A1130
       clear A1130
       replace H := Option.bind_eq_some_iff.mp H
       obtain ⟨t178, A1150, H⟩ := H
       try dsimp only at H
       have hf116 : ∀ w_ : World, Sem.run Tryd.prog (binOp .mul 23 (.float .f64 t158) (.float .f64 t177)) w_ = .ok (.float .f64 t178) w_ := fun w_ => run_float_arith w_ .mul 23 .f64 t158 t177 t178 A1150
       clear A1150
       replace H := Option.bind_eq_some_iff.mp H
       obtain ⟨t179, A1170, H⟩ := H
       try dsimp only at H
       have hf118 : ∀ w_ : World, Sem.run Tryd.prog (binOp .mul 23 (.float .f64 (floatOfInt .f64 t126)) (.float .f64 (4461442080421002358 : Nat))) w_ = .ok (.float .f64 t179) w_ := fun w_ => run_float_arith w_ .mul 23 .f64 (floatOfInt .f64 t126) (4461442080421002358 : Nat) t179 A1170
       clear A1170
       replace H := Option.bind_eq_some_iff.mp H
       obtain ⟨t180, A1190, H⟩ := H
       try dsimp only at H
       have hf120 : ∀ w_ : World, Sem.run Tryd.prog (binOp .add 23 (.float .f64 t178) (.float .f64 t179)) w_ = .ok (.float .f64 t180) w_ := fun w_ => run_float_arith w_ .add 23 .f64 t178 t179 t180 A1190
       clear A1190
       replace H := Option.bind_eq_some_iff.mp H
       obtain ⟨t181, A1210, H⟩ := H
       try dsimp only at H
       have hf122 : ∀ w_ : World, Sem.run Tryd.prog (binOp .sub 23 (.float .f64 t175) (.float .f64 t180)) w_ = .ok (.float .f64 t181) w_ := fun w_ => run_float_arith w_ .sub 23 .f64 t175 t180 t181 A1210
       clear A1210
       replace H := Option.bind_eq_some_iff.mp H
       obtain ⟨t182, A1230, H⟩ := H
       try dsimp only at H
       have hf124 : ∀ w_ : World, Sem.run Tryd.prog (binOp .sub 23 (.float .f64 t181) (.float .f64 t156)) w_ = .ok (.float .f64 t182) w_ := fun w_ => run_float_arith w_ .sub 23 .f64 t181 t156 t182 A1230
       clear A1230
       replace H := Option.bind_eq_some_iff.mp H
       obtain ⟨t183, A1250, H⟩ := H
       try dsimp only at H
       have hf126 : ∀ w_ : World, Sem.run Tryd.prog (binOp .sub 23 (.float .f64 t176) (.float .f64 t182)) w_ = .ok (.float .f64 t183) w_ := fun w_ => run_float_arith w_ .sub 23 .f64 t176 t182 t183 A1250
       clear A1250
       obtain rfl := Option.some.inj H
       go_wp2_with (first | ((with_reducible refine gate_callee (f := 100) rfl ?_); refine goesL_ (some 32) rfl rfl Tryd.func100 (by kernel_rfl) rfl #[.float .f64 a0] rfl sqA ?_; (with_reducible refine (math_Frexp.calls kj1 a0 t125 t126 _ A11.out).mono ?_); rintro e w' ⟨rfl, ⟨nd, rfl⟩⟩; refine ⟨_, rfl, ?_⟩))
       go_ret
       exact ⟨sqE, sqW⟩

/-! ### math_Log: function 85 -/
def math_Log.f (a0 : Nat) : Option (Nat) := (Rm.archLogP a0).bind fun t184 => (some t184)
set_option maxHeartbeats 8000000 in
set_option maxRecDepth 100000 in
theorem math_Log.calls (a0 : Nat) (r : Nat) (w : World) (h : math_Log.f a0 = some r) :
  Calls Tryd.prog 85 #[.float .f64 a0] w fun e w' => e = .returned (.float .f64 r) ∧ Drawn0 w w' := by
 have H : ((Rm.archLogP a0).bind fun t184 => (some t184)) = some r := h
 clear h
 replace H := Option.bind_eq_some_iff.mp H
 obtain ⟨t184, A20, H⟩ := H
 try dsimp only at H
 have hf3 := fun w_ : World => Rm.x_archLog a0 t184 A20 w_
 clear A20
 obtain rfl := Option.some.inj H
 go_enter Tryd.func85, Tryd.ntmps85
 go_wp2
 go_ret
 exact ⟨sqE, sqW⟩

/-! ### math_log10: function 64 -/
def math_log10.f (a0 : Nat) : Option (Nat) := (math_Log.f a0).bind fun t185 => ((floatBits .mul .f64 t185 (4601495173785380110 : Nat)).bind fun t186 => (some t186))
set_option maxHeartbeats 8000000 in
set_option maxRecDepth 100000 in
theorem math_log10.calls (a0 : Nat) (r : Nat) (w : World) (h : math_log10.f a0 = some r) :
  Calls Tryd.prog 64 #[.float .f64 a0] w fun e w' => e = .returned (.float .f64 r) ∧ Drawn0 w w' := by
 have H : ((math_Log.f a0).bind fun t185 => ((floatBits .mul .f64 t185 (4601495173785380110 : Nat)).bind fun t186 => (some t186))) = some r := h
 clear h
 replace H := Option.bind_eq_some_iff.mp H
 obtain ⟨t185, A20, H⟩ := H
 try dsimp only at H
 have A2 := Aside0.mk A20
 clear A20
 replace H := Option.bind_eq_some_iff.mp H
 obtain ⟨t186, A30, H⟩ := H
 try dsimp only at H
 have hf4 : ∀ w_ : World, Sem.run Tryd.prog (binOp .mul 23 (.float .f64 t185) (.float .f64 (4601495173785380110 : Nat))) w_ = .ok (.float .f64 t186) w_ := fun w_ => run_float_arith w_ .mul 23 .f64 t185 (4601495173785380110 : Nat) t186 A30
 clear A30
 obtain rfl := Option.some.inj H
 go_enter Tryd.func64, Tryd.ntmps64
 go_wp2_with (first | ((with_reducible refine gate_callee (f := 85) rfl ?_); refine goesL_ (some 4) rfl rfl Tryd.func85 (by kernel_rfl) rfl #[.float .f64 a0] rfl sqA ?_; (with_reducible refine (math_Log.calls a0 t185 _ A2.out).mono ?_); rintro e w' ⟨rfl, ⟨nd, rfl⟩⟩; refine ⟨_, rfl, ?_⟩))
 go_ret
 exact ⟨sqE, sqW⟩

/-! ### math_Log10: function 39 -/
def math_Log10.f (a0 : Nat) : Option (Nat) := (math_log10.f a0).bind fun t187 => (some t187)
set_option maxHeartbeats 8000000 in
set_option maxRecDepth 100000 in
theorem math_Log10.calls (a0 : Nat) (r : Nat) (w : World) (h : math_Log10.f a0 = some r) :
  Calls Tryd.prog 39 #[.float .f64 a0] w fun e w' => e = .returned (.float .f64 r) ∧ Drawn0 w w' := by
 have H : ((math_log10.f a0).bind fun t187 => (some t187)) = some r := h
 clear h
 replace H := Option.bind_eq_some_iff.mp H
 obtain ⟨t187, A20, H⟩ := H
 try dsimp only at H
 have A2 := Aside0.mk A20
 clear A20
 obtain rfl := Option.some.inj H
 go_enter Tryd.func39, Tryd.ntmps39
 go_wp2_with (first | ((with_reducible refine gate_callee (f := 64) rfl ?_); refine goesL_ (some 6) rfl rfl Tryd.func64 (by kernel_rfl) rfl #[.float .f64 a0] rfl sqA ?_; (with_reducible refine (math_log10.calls a0 t187 _ A2.out).mono ?_); rintro e w' ⟨rfl, ⟨nd, rfl⟩⟩; refine ⟨_, rfl, ?_⟩))
 go_ret
 exact ⟨sqE, sqW⟩

/-! ### bits_Len32: function 89 -/
def bits_Len32.f (a0 : Int) : Option Int := if 0 ≤ a0 ∧ a0 ≤ 4294967295 then some (Lib.bitLen a0.toNat : Nat) else none
set_option maxHeartbeats 8000000 in
set_option maxRecDepth 100000 in
theorem bits_Len32.calls (a0 : Int) (r : Int) (w : World) (h : bits_Len32.f a0 = some r) :
  Calls Tryd.prog 89 #[.int .u32 a0] w fun e w' => e = .returned (.int .i64 r) ∧ Drawn0 w w' := by
 unfold bits_Len32.f at h
 by_cases hc : 0 ≤ a0 ∧ a0 ≤ 4294967295
 ·
  rw [if_pos hc] at h
  obtain rfl := Option.some.inj h
  exact (Rm.len32_calls a0 w hc.1 hc.2).mono fun e w' hh => ⟨hh.1, hh.2 ▸ Drawn0.refl w⟩
 ·
  rw [if_neg hc] at h
  exact absurd h (by simp)


/-! ### weigh_nat_length: function 68 -/
def weigh_nat_length.f (l0 : List Int) : Option (Int) := if (l0.length : Int) = 0 then (some 0) else (if 0 ≤ (wrap64 ((l0.length : Int) - 1)) then (if (wrap64 ((l0.length : Int) - 1)) < (l0.length : Int) then ((bits_Len32.f (rd l0 (wrap64 ((l0.length : Int) - 1)))).bind fun t189 => (some (wrap64 ((wrap64 (32 * (wrap64 ((l0.length : Int) - 1)))) + t189)))) else (none)) else (none))
set_option maxHeartbeats 8000000 in
set_option maxRecDepth 100000 in
theorem weigh_nat_length.calls (A0 : Option Addr) (c0 : Nat) (l0 : List Int) (r : Int) (w : World) (hr0 : Kd.C (Kd.int .u32) w A0 l0.length l0) (hc0 : l0.length ≤ c0) (h : weigh_nat_length.f l0 = some r) :
  Calls Tryd.prog 68 #[.slice A0 l0.length c0] w fun e w' => e = .returned (.int .i64 r) ∧ Drawn0 w w' := by
 have HR0 := Aside0.mk hr0
 have HC0 := Aside0.mk hc0
 clear hr0 hc0
 have H : (if (l0.length : Int) = 0 then (some 0) else (if 0 ≤ (wrap64 ((l0.length : Int) - 1)) then (if (wrap64 ((l0.length : Int) - 1)) < (l0.length : Int) then ((bits_Len32.f (rd l0 (wrap64 ((l0.length : Int) - 1)))).bind fun t189 => (some (wrap64 ((wrap64 (32 * (wrap64 ((l0.length : Int) - 1)))) + t189)))) else (none)) else (none))) = some r := h
 clear h
 by_cases c2 : (l0.length : Int) = 0
 ·
  rw [if_pos c2] at H
  have c2b0 := beq_iff_eq.mpr c2
  have c2b1 := bne_eq_false_iff_eq.mpr c2
  clear c2
  obtain rfl := Option.some.inj H
  go_enter Tryd.func68, Tryd.ntmps68
  go_wp2
  go_ret
  exact ⟨sqE, sqW⟩
 ·
  rw [if_neg c2] at H
  have c2b0 := beq_eq_false_iff_ne.mpr c2
  have c2b1 := bne_iff_ne.mpr c2
  have c2b2 : ¬ (l0 = []) := fun h_ => c2 (by rw [h_]; rfl)
  obtain ⟨ji3, hji3⟩ : ∃ j_ : Int, (wrap64 ((l0.length : Int) - 1)) = j_ := ⟨_, rfl⟩
  replace H : (if 0 ≤ (ji3) then (if (ji3) < (l0.length : Int) then ((bits_Len32.f (rd l0 (ji3))).bind fun t189 => (some (wrap64 ((wrap64 (32 * (ji3))) + t189)))) else (none)) else (none)) = some r := by first | (rw [hji3] at H; exact H) | (simp only [hji3] at H ⊢; exact H)
  have hji3w : (IntKind.i64.wrap ((l0.length : Int) - 1)) = ji3 := (i64_w _).trans hji3
  by_cases c4 : 0 ≤ (ji3)
  ·
   rw [if_pos c4] at H
   have c4b0 := decide_eq_true c4
   clear c4
   by_cases c5 : (ji3) < (l0.length : Int)
   ·
    rw [if_pos c5] at H
    have c5b0 := decide_eq_true c5
    clear c5
    replace H := Option.bind_eq_some_iff.mp H
    obtain ⟨t189, A60, H⟩ := H
    try dsimp only at H
    have A6 := Aside0.mk A60
    clear A60
    obtain rfl := Option.some.inj H
    have p188 : 0 ≤ ((ji3) : Int) := sqD
    have q188 : (ji3) < (l0.length : Int) := sqD
    obtain ⟨ad188, e188, hx188_0⟩ := Kd.at_int HR0.out (ji3) p188 q188
    cases e188
    replace p188 := eq_true p188
    replace q188 := eq_true q188
    go_enter Tryd.func68, Tryd.ntmps68
    go_wp2_with (first | ((with_reducible refine gate_callee (f := 89) rfl ?_); refine goesL_ (some 16) rfl rfl Tryd.func89 (by kernel_rfl) rfl #[.int .u32 (rd l0 (ji3))] rfl (by (try simp only [List.map_toArray, List.map_cons, List.map_nil]); first | done | (simp only [hji3]; rfl) | rfl | (simp only [List.length_drop, List.length_take]; rfl)) ?_; (with_reducible refine (bits_Len32.calls (rd l0 (ji3)) t189 _ A6.out).mono ?_); rintro e w' ⟨rfl, ⟨nd, rfl⟩⟩; refine ⟨_, rfl, ?_⟩))
    go_ret
    exact ⟨by first | rfl | (simp; done) | (simp only [← hji3] <;> (first | rfl | simp)) | (simp [*]; done), sqW⟩
   ·
    rw [if_neg c5] at H
    exact absurd H (by simp)
  ·
   rw [if_neg c4] at H
   exact absurd H (by simp)

/-! ### weigh_trim: function 74 -/
def weigh_trim.l0 : Nat → List Int → Option (List Int)
 | 0, _ => none
 | k + 1, x0 => if (x0.length : Int) > 0 then (if 0 ≤ (wrap64 ((x0.length : Int) - 1)) then (if (wrap64 ((x0.length : Int) - 1)) < (x0.length : Int) then (if (rd x0 (wrap64 ((x0.length : Int) - 1))) = 0 then (if (wrap64 ((x0.length : Int) - 1)) ≤ (x0.length : Int) then (weigh_trim.l0 k (x0.take ((wrap64 ((x0.length : Int) - 1)) : Int).toNat)) else (none)) else (some x0)) else (none)) else (none)) else (some x0)
def weigh_trim.f (k : Nat) (l0 : List Int) : Option (List Int) := weigh_trim.l0 k l0
theorem weigh_trim.mono_l : ∀ k, (∀ y0, LeO (weigh_trim.l0 k y0) (weigh_trim.l0 (k + 1) y0))
 | 0 => fun _ r h => by simp [weigh_trim.l0] at h
 | k + 1 => by
  have ih0 := weigh_trim.mono_l k
  ·
   intro y0
   unfold weigh_trim.l0
   repeat' first | (with_reducible first | apply ih0 | apply LeO.refl | apply LeO.none | refine LeO.ite ?_ ?_ | refine LeO.bind ?_ (fun _ => ?_)) | apply ih0 | apply LeO.none | refine LeO.ite ?_ ?_ | refine LeO.bind ?_ (fun _ => ?_)
theorem weigh_trim.mono : ∀ a0 k, LeO (weigh_trim.f k a0) (weigh_trim.f (k + 1) a0) := by
 intro a0 k
 have ih0 := weigh_trim.mono_l k
 unfold weigh_trim.f
 repeat' first | (with_reducible first | apply ih0 | apply LeO.refl | apply LeO.none | refine LeO.ite ?_ ?_ | refine LeO.bind ?_ (fun _ => ?_)) | apply ih0 | apply LeO.none | refine LeO.ite ?_ ?_ | refine LeO.bind ?_ (fun _ => ?_)
set_option maxHeartbeats 8000000 in
set_option maxRecDepth 100000 in
theorem weigh_trim.calls (k : Nat) (P0_ : Nat → Prop) (A0 : Option Addr) (c0 : Nat) (l0 : List Int) (r : List Int) (w : World) (hs0 : Kd.V (Kd.int .u32) 84 w w.heap.size (fun k_ => P0_ k_) (.slice A0 l0.length c0) l0) (h : weigh_trim.f k l0 = some r) :
  Calls Tryd.prog 74 #[.slice A0 l0.length c0] w fun e w' => ∃ v0_ : Value, e = .returned (v0_) ∧ Kd.V (Kd.int .u32) 84 w' w.heap.size (fun k_ => (P0_ k_ ∨ w.heap.size ≤ k_)) v0_ r ∧ Below w.heap.size w w' := by
 have HO0 := Aside0.mk (show Kd.V (Kd.int .u32) 84 w w.heap.size (fun k_ => (P0_ k_ ∨ w.heap.size ≤ k_)) (.slice A0 l0.length c0) l0 from Kd.V_mono hs0 (fun k_ hk => .inl hk))
 have HB := Aside0.mk (Below.refl w.heap.size w)
 have H : (weigh_trim.l0 k l0) = some r := h
 clear h
 have H' := Aside0.mk H
 clear H
 go_enter Tryd.func74, Tryd.ntmps74
 go_wp2
 go_loopg [0] k (fun kq v0 w' => ∃ (x0_1 : List Int), Aside0 (weigh_trim.l0 kq x0_1 = some r) ∧ Aside0 (kq ≤ k) ∧ Aside0 (Kd.V (Kd.int .u32) 84 w' w.heap.size (fun k_ => (P0_ k_ ∨ w.heap.size ≤ k_)) v0 x0_1) ∧ Aside0 (Below w.heap.size w w'))
 case atStart => exact ⟨(l0), H', ⟨Nat.le_refl _⟩, ⟨sqV HO0.out⟩, ⟨sqB⟩⟩
 case round =>
  clear H'
  obtain ⟨x0_1, HA, HK1, HO_0, HB⟩ := hrel
  cases gk with
  | zero => exact absurd HA.out (by simp [weigh_trim.l0])
  | succ k1 =>
   have H := HA.out
   clear HA
   simp only [weigh_trim.l0] at H
   by_cases c2 : (x0_1.length : Int) > 0
   ·
    rw [if_pos c2] at H
    have c2b0 := decide_eq_true c2
    have c2b1 : decide (0 < x0_1.length) = true := decide_eq_true (by omega)
    clear c2
    obtain ⟨ji3, hji3⟩ : ∃ j_ : Int, (wrap64 ((x0_1.length : Int) - 1)) = j_ := ⟨_, rfl⟩
    replace H : (if 0 ≤ (ji3) then (if (ji3) < (x0_1.length : Int) then (if (rd x0_1 (ji3)) = 0 then (if (ji3) ≤ (x0_1.length : Int) then (weigh_trim.l0 k1 (x0_1.take ((ji3) : Int).toNat)) else (none)) else (some x0_1)) else (none)) else (none)) = some r := by first | (rw [hji3] at H; exact H) | (simp only [hji3] at H ⊢; exact H)
    have hji3w : (IntKind.i64.wrap ((x0_1.length : Int) - 1)) = ji3 := (i64_w _).trans hji3
    by_cases c4 : 0 ≤ (ji3)
    ·
     rw [if_pos c4] at H
     have c4b0 := decide_eq_true c4
     clear c4
     by_cases c5 : (ji3) < (x0_1.length : Int)
     ·
      rw [if_pos c5] at H
      have c5b0 := decide_eq_true c5
      clear c5
      by_cases c6 : (rd x0_1 (ji3)) = 0
      ·
       rw [if_pos c6] at H
       have c6b0 := beq_iff_eq.mpr c6
       have c6b1 := bne_eq_false_iff_eq.mpr c6
       clear c6
       have c7b0 := eq_true (sqD : 0 ≤ (ji3))
       by_cases c8 : (ji3) ≤ (x0_1.length : Int)
       ·
        rw [if_pos c8] at H
        have c8b0 := eq_true c8
        have c8b1 := decide_eq_true c8
        clear c8
        obtain ⟨y191, hy191⟩ : ∃ y_ : List Int, y_ = (x0_1.take ((ji3) : Int).toNat) := ⟨_, rfl⟩
        replace H : (weigh_trim.l0 k1 y191) = some r := by first | (rw [hy191]; with_reducible exact H) | (have H2_ := (Option.bind_some _ _).symm.trans H; rw [hy191]; with_reducible exact H2_) | (have H2_ := (Option.bind_some _ _).symm.trans H; with_reducible exact H2_) | with_reducible exact H | (rw [hy191]; exact H) | exact H
        have Ny191 := Aside0.mk hy191
        clear hy191
        have H' := Aside0.mk H
        clear H
        obtain ⟨Ao9, co9, eo9⟩ := Kd.V_slice HO_0.out
        subst eo9
        have p190 : 0 ≤ ((ji3) : Int) := sqD
        have q190 : (ji3) < (x0_1.length : Int) := sqD
        obtain ⟨ad190, e190, hx190_0⟩ := Kd.at_int (Kd.V_reads' HO_0.out).2.2 (ji3) p190 q190
        cases e190
        replace p190 := eq_true p190
        replace q190 := eq_true q190
        have q10 : ((ji3) : Int) ≤ ((x0_1.length : Int) : Int) := sqD
        obtain ⟨i010, hi010, _, hsz10, _⟩ := info_parts info84
        have hroom10 : x0_1.length ≤ co9 := (Kd.V_reads' HO_0.out).2.1
        have hC10 : Kd.F (Kd.int .u32) _ _ (some ad190) x0_1.length x0_1 := (Kd.V_at (base := w.heap.size) HO_0.out).2.2
        have hcut10 := cut_to (P := Tryd.prog) 74 84 .i64 Tryd.underlying74 hi010 (some ad190) x0_1.length co9 (ji3) sqD q10 hroom10
        have hr10 := Kd.F_take (m := ((ji3) : Int).toNat) hC10 (by omega)
        have hy10 : y191.length = ((ji3) : Int).toNat := (by rw [Ny191.out, List.length_take]; omega)
        rw [← Ny191.out] at hr10
        rw [← hy10] at hcut10
        have HO195 := Aside0.mk (show Kd.V (Kd.int .u32) 84 _ w.heap.size _ (.slice (some ad190) y191.length co9) y191 from Kd.V_mk (by omega) hr10)
        have HC195 := Aside0.mk (show y191.length ≤ co9 from by omega)
        clear hr10 hC10 hroom10 hi010 hsz10
        have KY10 := Aside0.mk hy10
        clear hy10
        replace q10 := eq_true q10
        go_wp2
        go_roundg k1
        case measure => have := HK1.out; omega
        case rel => exact ⟨(y191), H', ⟨by have := HK1.out; omega⟩, ⟨sqV HO195.out⟩, ⟨sqB⟩⟩
       ·
        rw [if_neg c8] at H
        exact absurd H (by simp)
      ·
       rw [if_neg c6] at H
       have c6b0 := beq_eq_false_iff_ne.mpr c6
       have c6b1 := bne_iff_ne.mpr c6
       obtain rfl := Option.some.inj H
       obtain ⟨Ao11, co11, eo11⟩ := Kd.V_slice HO_0.out
       subst eo11
       have p190 : 0 ≤ ((ji3) : Int) := sqD
       have q190 : (ji3) < (x0_1.length : Int) := sqD
       obtain ⟨ad190, e190, hx190_0⟩ := Kd.at_int (Kd.V_reads' HO_0.out).2.2 (ji3) p190 q190
       cases e190
       replace p190 := eq_true p190
       replace q190 := eq_true q190
       go_wp2
       go_ret
       exact ⟨_, by first | rfl | (simp [errW_none, errW_some] <;> rfl) | (simp only [← hji3]; first | rfl | (simp [errW_none, errW_some] <;> rfl)) | (simp [*, errW_none, errW_some] <;> rfl), sqV HO_0.out, sqB⟩
     ·
      rw [if_neg c5] at H
      exact absurd H (by simp)
    ·
     rw [if_neg c4] at H
     exact absurd H (by simp)
   ·
    rw [if_neg c2] at H
    have c2b0 := decide_eq_false c2
    have c2b1 : decide (0 < x0_1.length) = false := decide_eq_false (by omega)
    clear c2
    obtain rfl := Option.some.inj H
    obtain ⟨Ao12, co12, eo12⟩ := Kd.V_slice HO_0.out
    subst eo12
    go_wp2
    go_ret
    exact ⟨_, sqE', sqV HO_0.out, sqB⟩

end Go.Proofs.YtfmjdoofopamkaaDoor.W
