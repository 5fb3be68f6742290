import Derived.Test.YtfmjdoofopamkaaGreatDoorWx0
namespace Go.Proofs.YtfmjdoofopamkaaGreatDoor.W
open Go.RowKit Go.Proofs.YtfmjdoofopamkaaGreatDoorW.PrintWords Go.Proofs.YtfmjdoofopamkaaGreatDoorW.PrintLast Go.Proofs.YtfmjdoofopamkaaGreatDoorW.PrintMore
set_option maxHeartbeats 8000000
set_option maxRecDepth 100000
attribute [local go_sem] max2_int min2_int max_two min_two max_three min_three max_four min_four
set_option linter.unusedVariables false
set_option linter.unusedSimpArgs false
def weigh_Pairs.f : Nat → List Nat → Option (Nat)
 | 0, _ => none
 | k + 1, l0 => if (l0.length : Int) = 0 then (some (0 : Nat)) else (if (l0.length : Int) = 1 then (if 0 < (l0.length : Int) then (some (rdOf 0 l0 0)) else (none)) else (if 0 ≤ (wrap64 ((l0.length : Int) / 2)) then (if (wrap64 ((l0.length : Int) / 2)) ≤ (l0.length : Int) then ((weigh_Pairs.f k (l0.take ((wrap64 ((l0.length : Int) / 2)) : Int).toNat)).bind fun t378 => ((weigh_Pairs.f k (l0.drop ((wrap64 ((l0.length : Int) / 2)) : Int).toNat)).bind fun t380 => ((floatBits .add .f64 t378 t380).bind fun t381 => (some t381)))) else (none)) else (none)))
theorem weigh_Pairs.mono_l : ∀ k, (∀ y0, LeO (weigh_Pairs.f k y0) (weigh_Pairs.f (k + 1) y0))
 | 0 => fun _ r h => by simp [weigh_Pairs.f] at h
 | k + 1 => by
  have ih0 := weigh_Pairs.mono_l k
  intro y0
  unfold weigh_Pairs.f
  repeat' first | (with_reducible first | apply ih0 | apply LeO.refl | apply LeO.none | refine LeO.ite ?_ ?_ | refine LeO.bind ?_ (fun _ => ?_)) | apply LeO.none | refine LeO.ite ?_ ?_ | refine LeO.bind ?_ (fun _ => ?_)
theorem weigh_Pairs.mono : ∀ a0 k, LeO (weigh_Pairs.f k a0) (weigh_Pairs.f (k + 1) a0) := by
 intro a0 k
 have ih0 := weigh_Pairs.mono_l k
 exact ih0 a0
def weigh_Pairs.T7 : Bool × List (List Nat × List Nat) := (true, [([], []), ([], []), ([0, 1], [0, 1]), ([2], [2]), ([], []), ([], []), ([4, 5], [4, 5]), ([6, 3], [6]), ([3, 7], [3, 7]), ([8, 7, 0, 1, 2, 3, 4, 5, 6, 7, 8], [8])])
def weigh_Pairs.B7 : List Nat := [0, 0, 3, 7, 0, 0, 48, 127, 255, 511]
theorem weigh_Pairs.tab7 : rtab .any (opsOf Tryz.f16 7) = weigh_Pairs.T7 := by kernel_rfl
theorem weigh_Pairs.bits7 : waitsOk weigh_Pairs.T7.2 weigh_Pairs.B7 = true := by kernel_rfl
theorem weigh_Pairs.calls (k : Nat) : ∀ (A0 : Option Addr) (c0 : Nat) (l0 : List Nat) (r : Nat) (w : World) (hr0 : Kd.C Kd.flt w A0 l0.length l0) (hc0 : l0.length ≤ c0) (h : weigh_Pairs.f k l0 = some r),
  Calls Tryz.prog 16 #[.slice A0 l0.length c0] w fun e w' => e = .returned (.float .f64 r) ∧ Below w.heap.size w w' := by
 induction k using Nat.strongRecOn with
 | _ k ih =>
 intro A0 c0 l0 r w hr0 hc0 h
 cases k with
 | zero => exact absurd h (by simp [weigh_Pairs.f])
 | succ k =>
 simp only [weigh_Pairs.f] at h
 have HR0 := Aside0.mk hr0
 have HC0 := Aside0.mk hc0
 clear hr0 hc0
 have HB := Aside0.mk (Below.refl w.heap.size w)
 have H : (if (l0.length : Int) = 0 then (some (0 : Nat)) else (if (l0.length : Int) = 1 then (if 0 < (l0.length : Int) then (some (rdOf 0 l0 0)) else (none)) else (if 0 ≤ (wrap64 ((l0.length : Int) / 2)) then (if (wrap64 ((l0.length : Int) / 2)) ≤ (l0.length : Int) then ((weigh_Pairs.f k (l0.take ((wrap64 ((l0.length : Int) / 2)) : Int).toNat)).bind fun t378 => ((weigh_Pairs.f k (l0.drop ((wrap64 ((l0.length : Int) / 2)) : Int).toNat)).bind fun t380 => ((floatBits .add .f64 t378 t380).bind fun t381 => (some t381)))) else (none)) else (none)))) = some r := h
 clear h
 by_cases c2 : (l0.length : Int) = 0
 ·rw [if_pos c2] at H
  have c2b0 := beq_iff_eq.mpr c2
  have c2b1 := bne_eq_false_iff_eq.mpr c2
  clear c2
  obtain rfl := Option.some.inj H
  go_enter Tryz.func16, Tryz.ntmps16
  go_wp2
  go_ret
  exact ⟨sqE', sqB⟩
 rw [if_neg c2] at H
 have c2b0 := beq_eq_false_iff_ne.mpr c2
 have c2b1 := bne_iff_ne.mpr c2
 have c2b2 : ¬ (l0 = []) := fun h_ => c2 (by rw [h_]; rfl)
 by_cases c3 : (l0.length : Int) = 1
 ·rw [if_pos c3] at H
  have c3b0 := beq_iff_eq.mpr c3
  have c3b1 := bne_eq_false_iff_eq.mpr c3
  clear c3
  by_cases c4 : 0 < (l0.length : Int)
  case neg => rw [if_neg c4] at H; exact absurd H (by simp)
  rw [if_pos c4] at H
  have c4b0 := decide_eq_true c4
  have c4b1 : decide (0 < l0.length) = true := decide_eq_true (by omega)
  clear c4
  obtain rfl := Option.some.inj H
  have p376 : 0 ≤ (0 : Int) := (by omega)
  have q376 : 0 < (l0.length : Int) := sqD
  obtain ⟨ad376, e376, hx376_0⟩ := Kd.at_flt HR0.out 0 p376 q376
  cases e376
  have qi376 : (0 < l0.length) = True := eq_true (by omega)
  (try rw [show ((0 : Int)).toNat = 0 from rfl] at hx376_0)
  (try rw [Addr.add_zero'] at hx376_0)
  replace p376 := eq_true p376
  replace q376 := eq_true q376
  go_enter Tryz.func16, Tryz.ntmps16
  go_wp2
  go_ret
  exact ⟨sqE', sqB⟩
 rw [if_neg c3] at H
 have c3b0 := beq_eq_false_iff_ne.mpr c3
 have c3b1 := bne_iff_ne.mpr c3
 obtain ⟨ji5, hji5⟩ : ∃ j_ : Int, (wrap64 ((l0.length : Int) / 2)) = j_ := ⟨_, rfl⟩
 replace H : (if 0 ≤ (ji5) then (if (ji5) ≤ (l0.length : Int) then ((weigh_Pairs.f k (l0.take ((ji5) : Int).toNat)).bind fun t378 => ((weigh_Pairs.f k (l0.drop ((ji5) : Int).toNat)).bind fun t380 => ((floatBits .add .f64 t378 t380).bind fun t381 => (some t381)))) else (none)) else (none)) = some r := by first | (rw [hji5] at H; exact H) | (simp only [hji5] at H ⊢; exact H)
 have hji5w : (IntKind.i64.wrap ((l0.length : Int) / 2)) = ji5 := (i64_w _).trans hji5
 by_cases c6 : 0 ≤ (ji5)
 case neg => rw [if_neg c6] at H; exact absurd H (by simp)
 rw [if_pos c6] at H
 have c6b0 := eq_true c6
 have c6b1 := decide_eq_true c6
 clear c6
 by_cases c7 : (ji5) ≤ (l0.length : Int)
 case neg => rw [if_neg c7] at H; exact absurd H (by simp)
 rw [if_pos c7] at H
 have c7b0 := eq_true c7
 have c7b1 := decide_eq_true c7
 clear c7
 obtain ⟨t378, A8, H⟩ := sqO H
 try dsimp only at H
 have c9b0 := eq_true (sqD : 0 ≤ (ji5))
 have c10b0 := eq_true (sqD : (ji5) ≤ (l0.length : Int))
 obtain ⟨t380, A11, H⟩ := sqO H
 try dsimp only at H
 replace H := Option.bind_eq_some_iff.mp H
 obtain ⟨t381, A120, H⟩ := H
 try dsimp only at H
 have hf13 : ∀ w_ : World, Sem.run Tryz.prog (binOp .add 22 (.float .f64 t378) (.float .f64 t380)) w_ = .ok (.float .f64 t381) w_ := fun w_ => run_float_arith w_ .add 22 .f64 t378 t380 t381 A120
 clear A120
 obtain rfl := Option.some.inj H
 go_enter Tryz.func16, Tryz.ntmps16
 try go_wp2
 have n0_ := Aside0.mk (below_drew1 HB.out)
 clear HB
 have HB := n0_
 clear n0_
 obtain ⟨i015, hi015, _, hsz15, _⟩ := info_parts info22
 obtain ⟨hcut15, hA15, hC15⟩ := print_take_of (P := Tryz.prog) (Value.float .f64) (0 : Nat) 37 22 .i64 Tryz.underlying37 hi015 hsz15 A0 c0 l0 (ji5) sqD sqD HC0.out
 have HR377 := Aside0.mk (Kd.C_of_reads (h1 := fun _ => rfl) (hA15 _ (Kd.reads_of_C HR0.out)))
 have HC377 := Aside0.mk hC15
 clear hA15 hC15 hi015 hsz15
 obtain ⟨i016, hi016, _, hsz16, _⟩ := info_parts info22
 obtain ⟨A16, hcut16, hA16, hC16⟩ := print_drop_of (P := Tryz.prog) (Value.float .f64) (0 : Nat) 37 22 .i64 Tryz.underlying37 hi016 hsz16 A0 c0 l0 (ji5) sqD sqD HC0.out
 have HR379 := Aside0.mk (Kd.C_of_reads (h1 := fun _ => rfl) (hA16 _ (Kd.reads_of_C HR0.out)))
 have HC379 := Aside0.mk hC16
 clear hA16 hC16 hi016 hsz16
 refine start_ (n := 10) (S := fun w' => True) (ds := []) #[false, false, false, false, false, false, false, false, false, false] (by kernel_rfl) rfl rfl trivial (fun hHeld => ?_); refine with_tabW weigh_Pairs.tab7 weigh_Pairs.bits7 (fun HT_ HW_ => ?_)
 generalize w.drew = w14 at HB HR377 HR379 hHeld ⊢
 refine pure_ (i := 0) (N := some 16) (v := ?_) (a' := ?_) #[true, false, false, false, false, false, false, false, false, false] rfl rfl (any_of HT_.out (by kernel_rfl)) (fun _ _ _ h => h) (Or.inl ⟨by rfl, ?_⟩) ?_ ?_
 rotate_left
 ·intro w'
  go_simp
  with_reducible rfl
 rotate_left
 ·simp only [Act.put, List.setIfInBounds_toArray, List.set_cons_zero, List.set_cons_succ, i64_w, i32_w]
  rfl
 refine pure_ (i := 1) (N := some 17) (v := ?_) (a' := ?_) #[true, true, false, false, false, false, false, false, false, false] rfl rfl (any_of HT_.out (by kernel_rfl)) (fun _ _ _ h => h) (Or.inl ⟨by rfl, ?_⟩) ?_ ?_
 rotate_left
 ·intro w'
  go_simp
  with_reducible rfl
 rotate_left
 ·simp only [Act.put, List.setIfInBounds_toArray, List.set_cons_zero, List.set_cons_succ, i64_w, i32_w]
  rfl
 refine pure_ (i := 2) (N := some 18) (v := ?_) (a' := ?_) #[true, true, true, false, false, false, false, false, false, false] rfl rfl (any_of HT_.out (by kernel_rfl)) (fun _ _ _ h => h) (Or.inl ⟨by rfl, ?_⟩) ?_ ?_
 rotate_left
 ·intro w'
  go_simp
  with_reducible rfl
 rotate_left
 ·simp only [Act.put, List.setIfInBounds_toArray, List.set_cons_zero, List.set_cons_succ, i64_w, i32_w]
  rfl
 refine pure_ (i := 4) (N := some 20) (v := ?_) (a' := ?_) #[true, true, true, false, true, false, false, false, false, false] rfl rfl (any_of HT_.out (by kernel_rfl)) (fun _ _ _ h => h) (Or.inl ⟨by rfl, ?_⟩) ?_ ?_
 rotate_left
 ·intro w'
  go_simp
  with_reducible rfl
 rotate_left
 ·simp only [Act.put, List.setIfInBounds_toArray, List.set_cons_zero, List.set_cons_succ, i64_w, i32_w]
  rfl
 refine pure_ (i := 5) (N := some 21) (v := ?_) (a' := ?_) #[true, true, true, false, true, true, false, false, false, false] rfl rfl (any_of HT_.out (by kernel_rfl)) (fun _ _ _ h => h) (Or.inl ⟨by rfl, ?_⟩) ?_ ?_
 rotate_left
 ·intro w'
  go_simp
  with_reducible rfl
 rotate_left
 ·simp only [Act.put, List.setIfInBounds_toArray, List.set_cons_zero, List.set_cons_succ, i64_w, i32_w]
  rfl
 refine pure_ (i := 6) (N := some 22) (v := ?_) (a' := ?_) #[true, true, true, false, true, true, true, false, false, false] rfl rfl (any_of HT_.out (by kernel_rfl)) (fun _ _ _ h => h) (Or.inl ⟨by rfl, ?_⟩) ?_ ?_
 rotate_left
 ·intro w'
  go_simp
  with_reducible rfl
 rotate_left
 ·simp only [Act.put, List.setIfInBounds_toArray, List.set_cons_zero, List.set_cons_succ, i64_w, i32_w]
  rfl
 refine one_ (i := 3) (N := some 19) #[true, true, true, true, true, true, true, false, false, false] rfl rfl (one_of HT_.out (by kernel_rfl)) (by decide) (fun K hK => ?_)
 refine goes_ Tryz.func16 (by kernel_rfl) rfl #[.slice A0 (l0.take ((ji5) : Int).toNat).length c0] (by rfl) rfl rfl (by (try simp only [List.map_toArray, List.map_cons, List.map_nil]); first | done | (rw [show (l0.take ((ji5) : Int).toNat).length = (ji5).toNat from (by rw [List.length_take]; have h_ : ((ji5) : Int) ≤ (l0.length : Int) := sqD; omega)] <;> rfl) | (simp only [hji5]; rfl) | rfl | (simp only [List.length_drop, List.length_take]; rfl)) ?_
 with_reducible refine (ih k (by omega) _ _ (l0.take ((ji5) : Int).toNat) t378 _ ?side1 ?side2 A8.out).mono ?_
 (case side1 => repeat (first | exact (Kd.C_below HR377.out HB.out) | (with_reducible refine Kd.C_alloc ?_ _) | (with_reducible refine Kd.C_drewN ?_ _) | (with_reducible refine Kd.C_drew ?_)))
 (case side2 => exact HC377.out)
 rintro e w17 ⟨rfl, hb⟩
 refine ⟨_, rfl, ?_⟩
 have n0_ := Aside0.mk (below_step sqB hb)
 clear HB
 have HB := n0_
 clear n0_
 (try clear hb)
 (try clear hb2)
 (try clear hk)
 (try clear hi)
 refine hK.out _ _ trivial (fun hHeld => ?_)
 clear hK K
 refine norm_ (a' := ?_) ?_ ?_
 rotate_left
 ·show Act.put _ (some 19) _ = _
  simp only [Act.put, List.setIfInBounds_toArray, List.set_cons_zero, List.set_cons_succ, i64_w, i32_w]
  rfl
 refine one_ (i := 7) (N := some 23) #[true, true, true, true, true, true, true, true, false, false] rfl rfl (one_of HT_.out (by kernel_rfl)) (by decide) (fun K hK => ?_)
 refine goes_ Tryz.func16 (by kernel_rfl) rfl #[.slice A16 (l0.drop ((ji5) : Int).toNat).length (c0 - (ji5).toNat)] (by rfl) rfl rfl (by (try simp only [List.map_toArray, List.map_cons, List.map_nil]); first | done | (rw [show (l0.drop ((ji5) : Int).toNat).length = (l0.length - (ji5).toNat) from List.length_drop] <;> rfl) | (simp only [hji5]; rfl) | rfl | (simp only [List.length_drop, List.length_take]; rfl)) ?_
 with_reducible refine (ih k (by omega) _ _ (l0.drop ((ji5) : Int).toNat) t380 _ ?side1 ?side2 A11.out).mono ?_
 (case side1 => repeat (first | exact (Kd.C_below HR379.out HB.out) | (with_reducible refine Kd.C_alloc ?_ _) | (with_reducible refine Kd.C_drewN ?_ _) | (with_reducible refine Kd.C_drew ?_)))
 (case side2 => exact HC379.out)
 rintro e w18 ⟨rfl, hb⟩
 refine ⟨_, rfl, ?_⟩
 have n0_ := Aside0.mk (below_step sqB hb)
 clear HB
 have HB := n0_
 clear n0_
 (try clear hb)
 (try clear hb2)
 (try clear hk)
 (try clear hi)
 refine hK.out _ _ trivial (fun hHeld => ?_)
 clear hK K
 refine norm_ (a' := ?_) ?_ ?_
 rotate_left
 ·show Act.put _ (some 23) _ = _
  simp only [Act.put, List.setIfInBounds_toArray, List.set_cons_zero, List.set_cons_succ, i64_w, i32_w]
  rfl
 refine pure_ (i := 8) (N := some 24) (v := ?_) (a' := ?_) #[true, true, true, true, true, true, true, true, true, false] rfl rfl (any_of HT_.out (by kernel_rfl)) (fun _ _ _ h => h) (Or.inl ⟨by rfl, ?_⟩) ?_ ?_
 rotate_left
 ·intro w'
  go_simp
  with_reducible rfl
 rotate_left
 ·simp only [Act.put, List.setIfInBounds_toArray, List.set_cons_zero, List.set_cons_succ, i64_w, i32_w]
  rfl
 refine pure_ (i := 9) (N := some 2) (v := ?_) (a' := ?_) #[true, true, true, true, true, true, true, true, true, true] rfl rfl (any_of HT_.out (by kernel_rfl)) (fun _ _ _ h => h) (Or.inl ⟨by rfl, ?_⟩) ?_ ?_
 rotate_left
 ·intro w'
  go_simp
  with_reducible rfl
 rotate_left
 ·simp only [Act.put, List.setIfInBounds_toArray, List.set_cons_zero, List.set_cons_succ, i64_w, i32_w]
  rfl
 refine done_ (done_of HT_.out (by kernel_rfl)) ?_
 try go_wp2
 go_ret
 exact ⟨by first | rfl | (simp [errW_none, errW_some] <;> rfl) | (simp only [← hji5]; first | rfl | (simp [errW_none, errW_some] <;> rfl)) | (simp [*, errW_none, errW_some] <;> rfl), sqB⟩
def api_Float.f (a0 : Int) : Option (Nat) := some ((a0 : Int).toNat)
theorem api_Float.calls (a0 : Int) (r : Nat) (w : World) (h : api_Float.f a0 = some r) :
  Calls Tryz.prog 12 #[.int .u64 a0] w fun e w' => e = .returned (.float .f64 r) ∧ Drawn0 w w' := by
 have H : (some ((a0 : Int).toNat)) = some r := h
 clear h
 have hf2 := fun w_ : World => Rm.x_Float64frombits a0 w_
 obtain rfl := Option.some.inj H
 go_enter Tryz.func12, Tryz.ntmps12
 go_wp2
 go_ret
 exact ⟨sqE, sqW⟩
mutual
def weigh_add.l0 : Nat → List Int → Int → Int → Int → Int → Option (List Int)
 | 0, _, _, _, _, _ => none
 | k + 1, x0, x6, x9, x10, x11 => if x11 < (x0.length : Int) then (if x10 > 0 then (weigh_add.j1 k x0 x6 x9 x10 x11 true) else (weigh_add.j1 k x0 x6 x9 x10 x11 (decide (x9 > 0)))) else (weigh_add.j1 k x0 x6 x9 x10 x11 false)
def weigh_add.j1 : Nat → List Int → Int → Int → Int → Int → Bool → Option (List Int)
 | 0, _, _, _, _, _, _ => none
 | k + 1, x0, x6, x9, x10, x11, x38 => if x38 = true then (if x11 > x6 then (if 0 ≤ x11 then (if x11 < (x0.length : Int) then (weigh_add.l0 k (x0.set (x11 : Int).toNat ((IntKind.u64.wrap ((IntKind.u64.wrap (x10 + (Go.bits .and .u64 x9 4294967295))) + (IntKind.u64.wrap (rd x0 x11)))) % 4294967296)) x6 (x9 / 4294967296) ((IntKind.u64.wrap ((IntKind.u64.wrap (x10 + (Go.bits .and .u64 x9 4294967295))) + (IntKind.u64.wrap (rd x0 x11)))) / 4294967296) (wrap64 (x11 + 1))) else (none)) else (none)) else (if 0 ≤ x11 then (if x11 < (x0.length : Int) then (weigh_add.l0 k (x0.set (x11 : Int).toNat ((IntKind.u64.wrap (x10 + (IntKind.u64.wrap (rd x0 x11)))) % 4294967296)) x6 x9 ((IntKind.u64.wrap (x10 + (IntKind.u64.wrap (rd x0 x11)))) / 4294967296) (wrap64 (x11 + 1))) else (none)) else (none))) else (some x0)
end
def weigh_add.f (k : Nat) (l0 : List Int) (a1 : Int) (a2 : Int) : Option (List Int) := if 0 ≤ (Int.tmod a2 32) then (if 0 ≤ (wrap64 (32 - (Int.tmod a2 32))) then (weigh_add.l0 k l0 (wrap64 (Int.tdiv a2 32)) (shr .u64 a1 (wrap64 (32 - (Int.tmod a2 32)))) (IntKind.u64.wrap (shl .u32 ((a1) % 4294967296) (Int.tmod a2 32))) (wrap64 (Int.tdiv a2 32))) else (none)) else (none)
theorem weigh_add.mono_l : ∀ k, (∀ y0 y1 y2 y3 y4, LeO (weigh_add.l0 k y0 y1 y2 y3 y4) (weigh_add.l0 (k + 1) y0 y1 y2 y3 y4)) ∧ (∀ y0 y1 y2 y3 y4 y5, LeO (weigh_add.j1 k y0 y1 y2 y3 y4 y5) (weigh_add.j1 (k + 1) y0 y1 y2 y3 y4 y5))
 | 0 => ⟨fun _ _ _ _ _ r h => by simp [weigh_add.l0] at h, fun _ _ _ _ _ _ r h => by simp [weigh_add.j1] at h⟩
 | k + 1 => by
  obtain ⟨ih0, ih1⟩ := weigh_add.mono_l k
  refine ⟨?_, ?_⟩
  ·intro y0 y1 y2 y3 y4
   unfold weigh_add.l0
   repeat' first | (with_reducible first | apply ih0 | apply ih1 | apply LeO.refl | apply LeO.none | refine LeO.ite ?_ ?_ | refine LeO.bind ?_ (fun _ => ?_)) | apply LeO.none | refine LeO.ite ?_ ?_ | refine LeO.bind ?_ (fun _ => ?_)
  intro y0 y1 y2 y3 y4 y5
  unfold weigh_add.j1
  repeat' first | (with_reducible first | apply ih0 | apply ih1 | apply LeO.refl | apply LeO.none | refine LeO.ite ?_ ?_ | refine LeO.bind ?_ (fun _ => ?_)) | apply LeO.none | refine LeO.ite ?_ ?_ | refine LeO.bind ?_ (fun _ => ?_)
theorem weigh_add.mono : ∀ a0 a1 a2 k, LeO (weigh_add.f k a0 a1 a2) (weigh_add.f (k + 1) a0 a1 a2) := by
 intro a0 a1 a2 k
 obtain ⟨ih0, ih1⟩ := weigh_add.mono_l k
 unfold weigh_add.f
 repeat' first | (with_reducible first | apply ih0 | apply ih1 | apply LeO.refl | apply LeO.none | refine LeO.ite ?_ ?_ | refine LeO.bind ?_ (fun _ => ?_)) | apply LeO.none | refine LeO.ite ?_ ?_ | refine LeO.bind ?_ (fun _ => ?_)
theorem weigh_add.calls (k : Nat) (P0_ : Nat → Prop) (u9000_ : Value) (l0 : List Int) (a1 : Int) (a2 : Int) (r : List Int) (w0 w : World) (hB : Below w0.heap.size w0 w) (ho0 : Kd.R (Kd.int .u32) 83 w w0.heap.size P0_ u9000_ l0) (h : weigh_add.f k l0 a1 a2 = some r) :
  Calls Tryz.prog 102 #[u9000_, .int .u64 a1, .int .i64 a2] w fun e w' => e = .returned (.tuple #[]) ∧ Kd.R (Kd.int .u32) 83 w' w0.heap.size (fun k_ => (P0_ k_ ∨ w.heap.size ≤ k_)) u9000_ r ∧ Below w0.heap.size w0 w' ∧ Kept w w' (fun k_ => P0_ k_) := by
 have HO0 := Aside0.mk (show Kd.R (Kd.int .u32) 83 w w0.heap.size (fun k_ => (P0_ k_ ∨ w.heap.size ≤ k_)) u9000_ l0 from Kd.R_mono ho0 (fun k_ hk => (.inl hk)))
 have HK := Aside0.mk (Kept.refl w (fun k_ => P0_ k_))
 have HW0 := Aside0.mk hB.size
 have HB := Aside0.mk hB
 clear hB
 have H : (if 0 ≤ (Int.tmod a2 32) then (if 0 ≤ (wrap64 (32 - (Int.tmod a2 32))) then (weigh_add.l0 k l0 (wrap64 (Int.tdiv a2 32)) (shr .u64 a1 (wrap64 (32 - (Int.tmod a2 32)))) (IntKind.u64.wrap (shl .u32 ((a1) % 4294967296) (Int.tmod a2 32))) (wrap64 (Int.tdiv a2 32))) else (none)) else (none)) = some r := h
 clear h
 obtain ⟨ji4, hji4⟩ : ∃ j_ : Int, (Int.tmod a2 32) = j_ := ⟨_, rfl⟩
 replace H : (if 0 ≤ (ji4) then (if 0 ≤ (wrap64 (32 - (ji4))) then (weigh_add.l0 k l0 (wrap64 (Int.tdiv a2 32)) (shr .u64 a1 (wrap64 (32 - (ji4)))) (IntKind.u64.wrap (shl .u32 ((a1) % 4294967296) (ji4))) (wrap64 (Int.tdiv a2 32))) else (none)) else (none)) = some r := by first | (rw [hji4] at H; exact H) | (simp only [hji4] at H ⊢; exact H)
 by_cases c5 : 0 ≤ (ji4)
 case neg => rw [if_neg c5] at H; exact absurd H (by simp)
 rw [if_pos c5] at H
 have c5b0 := eq_true c5
 have c5b1 := decide_eq_true c5
 clear c5
 obtain ⟨ji6, hji6⟩ : ∃ j_ : Int, (shl .u32 ((a1) % 4294967296) (ji4)) = j_ := ⟨_, rfl⟩
 replace H : (if 0 ≤ (wrap64 (32 - (ji4))) then (weigh_add.l0 k l0 (wrap64 (Int.tdiv a2 32)) (shr .u64 a1 (wrap64 (32 - (ji4)))) (IntKind.u64.wrap (ji6)) (wrap64 (Int.tdiv a2 32))) else (none)) = some r := by first | (rw [hji6] at H; exact H) | (simp only [hji6] at H ⊢; exact H)
 have hji6_ : (IntKind.u32.wrap (((a1) % 4294967296) * 2 ^ min (ji4).toNat 32)) = ji6 := hji6
 have hji6z : (ji4) ≤ 32 → (IntKind.u32.wrap (((a1) % 4294967296) * 2 ^ (ji4).toNat)) = ji6 := shl_small hji6
 obtain ⟨ji7, hji7⟩ : ∃ j_ : Int, (wrap64 (32 - (ji4))) = j_ := ⟨_, rfl⟩
 replace H : (if 0 ≤ (ji7) then (weigh_add.l0 k l0 (wrap64 (Int.tdiv a2 32)) (shr .u64 a1 (ji7)) (IntKind.u64.wrap (ji6)) (wrap64 (Int.tdiv a2 32))) else (none)) = some r := by first | (rw [hji7] at H; exact H) | (simp only [hji7] at H ⊢; exact H)
 have hji7w : (IntKind.i64.wrap (32 - (ji4))) = ji7 := (i64_w _).trans hji7
 by_cases c8 : 0 ≤ (ji7)
 case neg => rw [if_neg c8] at H; exact absurd H (by simp)
 rw [if_pos c8] at H
 have c8b0 := eq_true c8
 have c8b1 := decide_eq_true c8
 clear c8
 obtain ⟨ji9, hji9⟩ : ∃ j_ : Int, (shr .u64 a1 (ji7)) = j_ := ⟨_, rfl⟩
 replace H : (weigh_add.l0 k l0 (wrap64 (Int.tdiv a2 32)) ji9 (IntKind.u64.wrap (ji6)) (wrap64 (Int.tdiv a2 32))) = some r := by first | (rw [hji9] at H; exact H) | (simp only [hji9] at H ⊢; exact H)
 have hji9_ : (a1 / 2 ^ min (ji7).toNat 64) = ji9 := hji9
 have hji9z : (ji7) ≤ 64 → (a1 / 2 ^ (ji7).toNat) = ji9 := shr_small hji9
 have H' := Aside0.mk H
 clear H
 go_enter Tryz.func102, Tryz.ntmps102
 go_wp2
 go_loopg [9, 10, 11] k (fun kq v9 v10 v11 w' => ∃ (x0_1 : List Int) (x9_1 : Int) (x10_1 : Int) (x11_1 : Int), v9 = .int .u64 x9_1 ∧ v10 = .int .u64 x10_1 ∧ v11 = .int .i64 x11_1 ∧ Aside0 (weigh_add.l0 kq x0_1 (wrap64 (Int.tdiv a2 32)) x9_1 x10_1 x11_1 = some r) ∧ Aside0 (kq ≤ k) ∧ Aside0 (Kd.R (Kd.int .u32) 83 w' w0.heap.size (fun k_ => (P0_ k_ ∨ w.heap.size ≤ k_)) u9000_ x0_1) ∧ Aside0 (Kept w w' (fun k_ => P0_ k_)) ∧ Aside0 (Below w0.heap.size w0 w'))
 case atStart => exact ⟨(l0), (ji9), (IntKind.u64.wrap (ji6)), (wrap64 (Int.tdiv a2 32)), (by first | rfl | (simp; done) | (simp only [← hji9] <;> (first | rfl | simp)) | (simp [*]; done)), (by first | rfl | (simp; done) | (simp only [← hji6] <;> (first | rfl | simp)) | (simp [*]; done)), sqE, H', ⟨Nat.le_refl _⟩, ⟨sqR HO0.out⟩, ⟨by repeat (first | (with_reducible first | exact HK.out | apply Kept.alloc | apply Kept.drewN | apply Kept.drew) | exact HK.out)⟩, ⟨sqB⟩⟩
 case round =>
  clear H'
  try clear c1
  try clear p2
  try clear c5
  try clear c5b0
  try clear c5b1
  try clear p6
  try clear c8
  try clear c8b0
  try clear c8b1
  obtain ⟨x0_1, x9_1, x10_1, x11_1, rfl, rfl, rfl, HA, HK1, HO_0, HK, HB⟩ := hrel
  cases gk with
  | zero => exact absurd HA.out (by simp [weigh_add.l0])
  | succ k1 =>
   have H := HA.out
   clear HA
   simp only [weigh_add.l0] at H
   have HC10 := Aside0.mk H
   clear H
   go_upto_region 5 with (fail)
   go_cut [38] (fun v38 wc => ∃ (kq : Nat) (x38_9 : Bool), v38 = .bool x38_9 ∧ Aside0 (weigh_add.j1 kq x0_1 (wrap64 (Int.tdiv a2 32)) x9_1 x10_1 x11_1 x38_9 = some r) ∧ Aside0 (kq ≤ k1) ∧ Aside0 (Kd.R (Kd.int .u32) 83 wc w0.heap.size (fun k_ => (P0_ k_ ∨ w.heap.size ≤ k_)) u9000_ x0_1) ∧ Aside0 (Kept w wc (fun k_ => P0_ k_)) ∧ Aside0 (Below w0.heap.size w0 wc))
   case first =>
    have H := HC10.out
    clear HC10
    by_cases c11 : x11_1 < (x0_1.length : Int)
    case neg =>
     rw [if_neg c11] at H
     have c11b0 := decide_eq_false c11
     clear c11
     (first | rw [c11b0] | (simp only [i64_w, i32_w]; rw [c11b0]) | skip)
     have H' := Aside0.mk H
     clear H
     obtain ⟨Ao15, co15, eo15⟩ := Kd.R_slice HO_0.out
     subst eo15
     go_wp2
     go_meet
     case rel => exact ⟨_, (false), sqE, H', ⟨by have := HK1.out; first | omega | exact Nat.le_refl _⟩, ⟨sqR HO_0.out⟩, ⟨by repeat (first | (with_reducible first | exact HK.out | apply Kept.alloc | apply Kept.drewN | apply Kept.drew) | exact HK.out)⟩, ⟨sqB⟩⟩
    rw [if_pos c11] at H
    have c11b0 := decide_eq_true c11
    clear c11
    (first | rw [c11b0] | (simp only [i64_w, i32_w]; rw [c11b0]) | skip)
    by_cases c12 : x10_1 > 0
    ·rw [if_pos c12] at H
     have c12b0 := decide_eq_true c12
     clear c12
     have H' := Aside0.mk H
     clear H
     obtain ⟨Ao13, co13, eo13⟩ := Kd.R_slice HO_0.out
     subst eo13
     go_wp2
     go_meet
     case rel => exact ⟨_, (true), sqE, H', ⟨by have := HK1.out; first | omega | exact Nat.le_refl _⟩, ⟨sqR HO_0.out⟩, ⟨by repeat (first | (with_reducible first | exact HK.out | apply Kept.alloc | apply Kept.drewN | apply Kept.drew) | exact HK.out)⟩, ⟨sqB⟩⟩
    rw [if_neg c12] at H
    have c12b0 := decide_eq_false c12
    clear c12
    have H' := Aside0.mk H
    clear H
    obtain ⟨Ao14, co14, eo14⟩ := Kd.R_slice HO_0.out
    subst eo14
    go_wp2
    go_meet
    case rel => exact ⟨_, (decide (x9_1 > 0)), sqE, H', ⟨by have := HK1.out; first | omega | exact Nat.le_refl _⟩, ⟨sqR HO_0.out⟩, ⟨by repeat (first | (with_reducible first | exact HK.out | apply Kept.alloc | apply Kept.drewN | apply Kept.drew) | exact HK.out)⟩, ⟨sqB⟩⟩
   case rest =>
    clear HC10
    try clear c1
    try clear p2
    try clear c5
    try clear c5b0
    try clear c5b1
    try clear p6
    try clear c8
    try clear c8b0
    try clear c8b1
    try clear c10
    try clear c11
    try clear c11b0
    try clear c12
    try clear c12b0
    try clear p2
    try clear p6
    obtain ⟨kq, x38_9, rfl, HA, HJ9, HO_0, HK, HB⟩ := hcut
    cases kq with
    | zero => exact absurd HA.out (by simp [weigh_add.j1])
    | succ kj9 =>
     have H := HA.out
     clear HA
     simp only [weigh_add.j1] at H
     by_cases c16 : x38_9 = true
     case neg =>
      replace c16 := Bool.eq_false_iff.mpr c16
      subst c16
      have H1 : (some x0_1) = some r := by rw [if_neg (show ¬ (false = true) by decide)] at H; exact H
      clear H
      have H := H1
      clear H1
      obtain rfl := Option.some.inj H
      go_wp2
      first | go_end0 | ((try simp only [Exit.inBlock, Exit.then]); refine bodyPost_ret (results_none rfl _ _ _) rfl ?_)
      exact ⟨by first | rfl | (simp [errW_none, errW_some] <;> rfl) | (simp only [← hji4, ← hji6, ← hji7, ← hji9]; first | rfl | (simp [errW_none, errW_some] <;> rfl)) | (simp [*, errW_none, errW_some] <;> rfl), sqR HO_0.out, sqB, by repeat (first | (with_reducible first | exact HK.out | apply Kept.alloc | apply Kept.drewN | apply Kept.drew) | exact HK.out)⟩
     subst c16
     have H1 : (if x11_1 > (wrap64 (Int.tdiv a2 32)) then (if 0 ≤ x11_1 then (if x11_1 < (x0_1.length : Int) then (weigh_add.l0 kj9 (x0_1.set (x11_1 : Int).toNat ((IntKind.u64.wrap ((IntKind.u64.wrap (x10_1 + (Go.bits .and .u64 x9_1 4294967295))) + (IntKind.u64.wrap (rd x0_1 x11_1)))) % 4294967296)) (wrap64 (Int.tdiv a2 32)) (x9_1 / 4294967296) ((IntKind.u64.wrap ((IntKind.u64.wrap (x10_1 + (Go.bits .and .u64 x9_1 4294967295))) + (IntKind.u64.wrap (rd x0_1 x11_1)))) / 4294967296) (wrap64 (x11_1 + 1))) else (none)) else (none)) else (if 0 ≤ x11_1 then (if x11_1 < (x0_1.length : Int) then (weigh_add.l0 kj9 (x0_1.set (x11_1 : Int).toNat ((IntKind.u64.wrap (x10_1 + (IntKind.u64.wrap (rd x0_1 x11_1)))) % 4294967296)) (wrap64 (Int.tdiv a2 32)) x9_1 ((IntKind.u64.wrap (x10_1 + (IntKind.u64.wrap (rd x0_1 x11_1)))) / 4294967296) (wrap64 (x11_1 + 1))) else (none)) else (none))) = some r := by rw [if_pos rfl] at H; exact H
     clear H
     have H := H1
     clear H1
     by_cases c17 : x11_1 > (wrap64 (Int.tdiv a2 32))
     ·rw [if_pos c17] at H
      have c17b0 := decide_eq_true c17
      clear c17
      by_cases c18 : 0 ≤ x11_1
      case neg => rw [if_neg c18] at H; exact absurd H (by simp)
      rw [if_pos c18] at H
      have c18b0 := decide_eq_true c18
      clear c18
      by_cases c19 : x11_1 < (x0_1.length : Int)
      case neg => rw [if_neg c19] at H; exact absurd H (by simp)
      rw [if_pos c19] at H
      have c19b0 := decide_eq_true c19
      clear c19
      obtain ⟨y383, hy383⟩ : ∃ y_ : List Int, y_ = (x0_1.set (x11_1 : Int).toNat ((IntKind.u64.wrap ((IntKind.u64.wrap (x10_1 + (Go.bits .and .u64 x9_1 4294967295))) + (IntKind.u64.wrap (rd x0_1 x11_1)))) % 4294967296)) := ⟨_, rfl⟩
      replace H : (weigh_add.l0 kj9 y383 (wrap64 (Int.tdiv a2 32)) (x9_1 / 4294967296) ((IntKind.u64.wrap ((IntKind.u64.wrap (x10_1 + (Go.bits .and .u64 x9_1 4294967295))) + (IntKind.u64.wrap (rd x0_1 x11_1)))) / 4294967296) (wrap64 (x11_1 + 1))) = some r := by first | (rw [hy383]; with_reducible exact H) | (have H2_ := (Option.bind_some _ _).symm.trans H; rw [hy383]; with_reducible exact H2_) | (have H2_ := (Option.bind_some _ _).symm.trans H; with_reducible exact H2_) | with_reducible exact H | (rw [hy383]; exact H) | exact H
      have Ny383 := Aside0.mk hy383
      clear hy383
      have H' := Aside0.mk H
      clear H
      obtain ⟨Ao21, co21, eo21⟩ := Kd.R_slice HO_0.out
      subst eo21
      have p382 : 0 ≤ (x11_1 : Int) := sqD
      have q382 : x11_1 < (x0_1.length : Int) := sqD
      obtain ⟨ad382, e382, hx382_0⟩ := Kd.at_int (Kd.R_reads' HO_0.out).2.2 x11_1 p382 q382
      cases e382
      replace p382 := eq_true p382
      replace q382 := eq_true q382
      have p20 : 0 ≤ (x11_1 : Int) := sqD
      have q20 : (x11_1 : Int) < ((x0_1.length : Int) : Int) := sqD
      obtain ⟨go20, co20, eo20, gb20, gl20, cl20, HG20⟩ := Kd.R_form HO_0.out (by omega)
      (first | cases eo20 | (injection eo20 with ea_ en_ ec_; (first | subst ea_ | (injection ea_ with ea_; subst ea_)); subst ec_; clear en_))
      have GB20 := Aside0.mk gb20
      have GG20 := Aside0.mk HG20
      clear gb20 gl20 HG20
      have HMgo20 := Aside0.mk (show (P0_ go20 ∨ w.heap.size ≤ go20) from (HO_0.out.1 _ rfl))
      (first | simp only [add_plain] at hx382_0 | skip)
      obtain ⟨hx20_0, hf20_0⟩ := Kd.R_celln 0 HO_0.out (x11_1 : Int) p20 q20
      replace p20 := eq_true p20
      replace q20 := eq_true q20
      have HP22 := Kd.R_putg HO_0.out (x11_1 : Int) ((IntKind.u64.wrap ((IntKind.u64.wrap (x10_1 + (Go.bits .and .u64 x9_1 4294967295))) + (IntKind.u64.wrap (rd x0_1 x11_1)))) % 4294967296)
      go_wp2_with (first | ((with_reducible refine gate_store (t := 83) (p := 61) rfl ?_); refine store_event (t := 83) (p := 61) (v := ?vo_w23) (w1 := (wc.setCell ⟨go20, (x11_1 : Int).toNat, none⟩ (.int .u32 ((IntKind.u64.wrap ((IntKind.u64.wrap (x10_1 + (Go.bits .and .u64 x9_1 4294967295))) + (IntKind.u64.wrap (rd x0_1 x11_1)))) % 4294967296)))) ?hg ?ho ?hn ?hr ?_; (case ho => rfl); (case hg => rfl); (case hn => rfl); (case hr => first | (go_simp; done) | (go_simp; rfl)); intro w23 hw; have hg : wc.grownBy w23 (some go20) := (by rw [hw]; exact HP22.2); have hp_ : Kd.R (Kd.int .u32) 83 w23 w0.heap.size (fun k_ => (P0_ k_ ∨ w.heap.size ≤ k_)) (.slice (some ⟨go20, 0, none⟩) x0_1.length co21) y383 := (by rw [hw, Ny383.out]; exact HP22.1); clear HP22; have n0_ := Aside0.mk (hp_); have n1_ := Aside0.mk ((by rw [hw]; exact below_set (HB.out) GB20.out : Below w0.heap.size w0 w23)); have n2_ := Aside0.mk (Kept.of_grown (S := (fun k_ => P0_ k_)) hg (by repeat (first | (with_reducible first | exact HK.out | apply Kept.alloc | apply Kept.drewN | apply Kept.drew) | exact HK.out)) (fun k_ e_ => (HO_0.out.1 k_ e_))); clear HO_0; clear HB; clear HK; have HO_0 := n0_; have HB := n1_; have HK := n2_; clear n0_ n1_ n2_; clear hg hw hp_))
      go_roundg kj9
      case measure => have := HK1.out; have := HJ9.out; omega
      case rel => exact ⟨(y383), (x9_1 / 4294967296), ((IntKind.u64.wrap ((IntKind.u64.wrap (x10_1 + (Go.bits .and .u64 x9_1 4294967295))) + (IntKind.u64.wrap (rd x0_1 x11_1)))) / 4294967296), (wrap64 (x11_1 + 1)), sqE, sqE, sqE, H', ⟨by have := HK1.out; have := HJ9.out; omega⟩, ⟨sqR HO_0.out⟩, ⟨by repeat (first | (with_reducible first | exact HK.out | apply Kept.alloc | apply Kept.drewN | apply Kept.drew) | exact HK.out)⟩, ⟨sqB⟩⟩
     rw [if_neg c17] at H
     have c17b0 := decide_eq_false c17
     clear c17
     by_cases c24 : 0 ≤ x11_1
     case neg => rw [if_neg c24] at H; exact absurd H (by simp)
     rw [if_pos c24] at H
     have c24b0 := decide_eq_true c24
     clear c24
     by_cases c25 : x11_1 < (x0_1.length : Int)
     case neg => rw [if_neg c25] at H; exact absurd H (by simp)
     rw [if_pos c25] at H
     have c25b0 := decide_eq_true c25
     clear c25
     obtain ⟨y385, hy385⟩ : ∃ y_ : List Int, y_ = (x0_1.set (x11_1 : Int).toNat ((IntKind.u64.wrap (x10_1 + (IntKind.u64.wrap (rd x0_1 x11_1)))) % 4294967296)) := ⟨_, rfl⟩
     replace H : (weigh_add.l0 kj9 y385 (wrap64 (Int.tdiv a2 32)) x9_1 ((IntKind.u64.wrap (x10_1 + (IntKind.u64.wrap (rd x0_1 x11_1)))) / 4294967296) (wrap64 (x11_1 + 1))) = some r := by first | (rw [hy385]; with_reducible exact H) | (have H2_ := (Option.bind_some _ _).symm.trans H; rw [hy385]; with_reducible exact H2_) | (have H2_ := (Option.bind_some _ _).symm.trans H; with_reducible exact H2_) | with_reducible exact H | (rw [hy385]; exact H) | exact H
     have Ny385 := Aside0.mk hy385
     clear hy385
     have H' := Aside0.mk H
     clear H
     obtain ⟨Ao27, co27, eo27⟩ := Kd.R_slice HO_0.out
     subst eo27
     have p384 : 0 ≤ (x11_1 : Int) := sqD
     have q384 : x11_1 < (x0_1.length : Int) := sqD
     obtain ⟨ad384, e384, hx384_0⟩ := Kd.at_int (Kd.R_reads' HO_0.out).2.2 x11_1 p384 q384
     cases e384
     replace p384 := eq_true p384
     replace q384 := eq_true q384
     have p26 : 0 ≤ (x11_1 : Int) := sqD
     have q26 : (x11_1 : Int) < ((x0_1.length : Int) : Int) := sqD
     obtain ⟨go26, co26, eo26, gb26, gl26, cl26, HG26⟩ := Kd.R_form HO_0.out (by omega)
     (first | cases eo26 | (injection eo26 with ea_ en_ ec_; (first | subst ea_ | (injection ea_ with ea_; subst ea_)); subst ec_; clear en_))
     have GB26 := Aside0.mk gb26
     have GG26 := Aside0.mk HG26
     clear gb26 gl26 HG26
     have HMgo26 := Aside0.mk (show (P0_ go26 ∨ w.heap.size ≤ go26) from (HO_0.out.1 _ rfl))
     (first | simp only [add_plain] at hx384_0 | skip)
     obtain ⟨hx26_0, hf26_0⟩ := Kd.R_celln 0 HO_0.out (x11_1 : Int) p26 q26
     replace p26 := eq_true p26
     replace q26 := eq_true q26
     have HP28 := Kd.R_putg HO_0.out (x11_1 : Int) ((IntKind.u64.wrap (x10_1 + (IntKind.u64.wrap (rd x0_1 x11_1)))) % 4294967296)
     go_wp2_with (first | ((with_reducible refine gate_store (t := 83) (p := 61) rfl ?_); refine store_event (t := 83) (p := 61) (v := ?vo_w29) (w1 := (wc.setCell ⟨go26, (x11_1 : Int).toNat, none⟩ (.int .u32 ((IntKind.u64.wrap (x10_1 + (IntKind.u64.wrap (rd x0_1 x11_1)))) % 4294967296)))) ?hg ?ho ?hn ?hr ?_; (case ho => rfl); (case hg => rfl); (case hn => rfl); (case hr => first | (go_simp; done) | (go_simp; rfl)); intro w29 hw; have hg : wc.grownBy w29 (some go26) := (by rw [hw]; exact HP28.2); have hp_ : Kd.R (Kd.int .u32) 83 w29 w0.heap.size (fun k_ => (P0_ k_ ∨ w.heap.size ≤ k_)) (.slice (some ⟨go26, 0, none⟩) x0_1.length co27) y385 := (by rw [hw, Ny385.out]; exact HP28.1); clear HP28; have n0_ := Aside0.mk (hp_); have n1_ := Aside0.mk ((by rw [hw]; exact below_set (HB.out) GB26.out : Below w0.heap.size w0 w29)); have n2_ := Aside0.mk (Kept.of_grown (S := (fun k_ => P0_ k_)) hg (by repeat (first | (with_reducible first | exact HK.out | apply Kept.alloc | apply Kept.drewN | apply Kept.drew) | exact HK.out)) (fun k_ e_ => (HO_0.out.1 k_ e_))); clear HO_0; clear HB; clear HK; have HO_0 := n0_; have HB := n1_; have HK := n2_; clear n0_ n1_ n2_; clear hg hw hp_))
     go_roundg kj9
     case measure => have := HK1.out; have := HJ9.out; omega
     case rel => exact ⟨(y385), (x9_1), ((IntKind.u64.wrap (x10_1 + (IntKind.u64.wrap (rd x0_1 x11_1)))) / 4294967296), (wrap64 (x11_1 + 1)), sqE, sqE, sqE, H', ⟨by have := HK1.out; have := HJ9.out; omega⟩, ⟨sqR HO_0.out⟩, ⟨by repeat (first | (with_reducible first | exact HK.out | apply Kept.alloc | apply Kept.drewN | apply Kept.drew) | exact HK.out)⟩, ⟨sqB⟩⟩
end Go.Proofs.YtfmjdoofopamkaaGreatDoor.W
