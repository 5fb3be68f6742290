import Derived.Test.YtfmjdoofopamkaaGreatDoorSumsN
import Derived.Test.YtfmjdoofopamkaaGreatDoorWx9
namespace Go.Proofs.YtfmjdoofopamkaaGreatDoor.Plain
open Go.RowKit Go.Proofs.YtfmjdoofopamkaaGreatDoorW.PrintWords Go.Proofs.YtfmjdoofopamkaaGreatDoorW.PrintLast Go.Proofs.YtfmjdoofopamkaaGreatDoorW.PrintMore Go.Proofs.YtfmjdoofopamkaaGreatDoor.W
set_option linter.unusedVariables false
set_option linter.unusedSimpArgs false
attribute [local go_sem] max2_int min2_int max_two min_two max_three min_three max_four min_four
def pairC : Nat → List Nat → Nat
 | 0, _ => 0
 | k + 1, l => if l.length = 0 then 0 else if l.length = 1 then rdOf 0 l 0 else addC (pairC k (l.take (l.length / 2))) (pairC k (l.drop (l.length / 2)))
theorem pairC_nil (k : Nat) (l : List Nat) (h : l.length = 0) : pairC k l = 0 := by
 cases k with
 | zero => rfl
 | succ k => rw [pairC, if_pos h]
theorem pairC_one (k : Nat) (l : List Nat) (h : l.length = 1) (hk : l.length ≤ k) : pairC k l = rdOf 0 l 0 := by
 cases k with
 | zero => omega
 | succ k => rw [pairC, if_neg (by omega), if_pos h]
theorem pairC_parts (k : Nat) (l : List Nat) (ji : Int) (hj : ji = ((l.length / 2 : Nat) : Int)) (h : 2 ≤ l.length) (hk : l.length ≤ k) (hw : W64 l) :
  W64 (l.take ji.toNat) ∧ (l.take ji.toNat).length ≤ k - 1 ∧ W64 (l.drop ji.toNat) ∧ (l.drop ji.toNat).length ≤ k - 1 ∧ pairC k l = addC (pairC (k - 1) (l.take ji.toNat)) (pairC (k - 1) (l.drop ji.toNat)) := by
 have e : ji.toNat = l.length / 2 := by omega
 rw [e]
 refine ⟨fun x hx => hw x (List.mem_of_mem_take hx), by rw [List.length_take]; omega, fun x hx => hw x (List.mem_of_mem_drop hx), by rw [List.length_drop]; omega, ?_⟩
 cases k with
 | zero => omega
 | succ k => rw [pairC, if_neg (by omega), if_neg (by omega), Nat.add_sub_cancel]
section
variable {P : Program} {ops : Array Oper} {Q : Exit → Act → World → Prop}
theorem op_ {oi : Oper} {N : Option Tmp} {a : Act} {w w2 : World} {K : Act → World → Prop} {v : Value} (hw : Region.wanted oi (yielded ops a.tmps) = true) (hN : oi.dst = N) (hrun : (execOp a.eval oi).run P w = .ok (.value v) w2) (h : K (a.put N v) w2) : if Region.wanted oi (yielded ops a.tmps) = true then Oper.wp P oi a w K Q else K (a.put N undef) w := by
 rw [if_pos hw]
 subst hN
 unfold Oper.wp
 rw [hrun, Oper.upon_value]
 exact h
end
set_option maxHeartbeats 8000000 in
set_option maxRecDepth 100000 in
theorem pairs_callsN (k : Nat) : ∀ (A0 : Option Addr) (c0 : Nat) (l0 : List Nat) (w : World) (hr0 : Kd.C Kd.flt w A0 l0.length l0) (hc0 : l0.length ≤ c0) (hw : W64 l0) (hl : l0.length ≤ k) (hk : k ≤ 1000),
  Calls Tryz.prog 16 #[.slice A0 l0.length c0] w fun e w' => ∃ r, Agree r (pairC k l0) ∧ e = .returned (.float .f64 r) ∧ Below w.heap.size w w' := by
 induction k using Nat.strongRecOn with
 | _ k ih =>
 intro A0 c0 l0 w hr0 hc0 hw hl hk
 have HR0 := Aside0.mk hr0
 have HC0 := Aside0.mk hc0
 have HW0 := Aside0.mk hw
 have HL0 := Aside0.mk (And.intro hl hk)
 clear hr0 hc0 hw hl hk
 have HB := Aside0.mk (Below.refl w.heap.size w)
 by_cases c2 : (l0.length : Int) = 0
 ·
  have c2b0 := beq_iff_eq.mpr c2
  have c2b1 := bne_eq_false_iff_eq.mpr c2
  have HN := Aside0.mk (show Agree 0 (pairC k l0) from by rw [pairC_nil k l0 (by omega)]; exact agree_self (by omega))
  clear c2
  go_enter Tryz.func16, Tryz.ntmps16
  go_wp2
  go_ret
  exact ⟨0, HN.out, sqE', sqB⟩
 have c2b0 := beq_eq_false_iff_ne.mpr c2
 have c2b1 := bne_iff_ne.mpr c2
 have c2b2 : ¬ (l0 = []) := fun h_ => c2 (by rw [h_]; rfl)
 by_cases c3 : (l0.length : Int) = 1
 ·
  have c3b0 := beq_iff_eq.mpr c3
  have c3b1 := bne_eq_false_iff_eq.mpr c3
  have HN := Aside0.mk (show Agree (rdOf 0 l0 0) (pairC k l0) from by
   rw [pairC_one k l0 (by omega) HL0.out.1]
   exact agree_self (by rw [show (0 : Int) = ((0 : Nat) : Int) from rfl, rdOf_nat l0 0 (by omega)]; exact HW0.out _ (List.getElem_mem _)))
  have c3n : l0.length = 1 := by omega
  clear c3
  by_cases c4 : 0 < (l0.length : Int)
  case neg => exact absurd (by omega) c4
  have c4b0 := decide_eq_true c4
  have c4b1 : decide (0 < l0.length) = true := decide_eq_true (by omega)
  clear c4
  have p439 : 0 ≤ (0 : Int) := (by omega)
  have q439 : 0 < (l0.length : Int) := sqD
  obtain ⟨ad439, e439, hx439_0⟩ := Kd.at_flt HR0.out 0 p439 q439
  cases e439
  have qi439 : (0 < l0.length) = True := eq_true (by omega)
  (try rw [show ((0 : Int)).toNat = 0 from rfl] at hx439_0)
  (try rw [Addr.add_zero'] at hx439_0)
  replace p439 := eq_true p439
  replace q439 := eq_true q439
  go_enter Tryz.func16, Tryz.ntmps16
  go_wp2
  go_ret
  exact ⟨_, HN.out, sqE', sqB⟩
 have c3b0 := beq_eq_false_iff_ne.mpr c3
 have c3b1 := bne_iff_ne.mpr c3
 obtain ⟨ji5, hji5⟩ : ∃ j_ : Int, (wrap64 ((l0.length : Int) / 2)) = j_ := ⟨_, rfl⟩
 have hj : ji5 = ((l0.length / 2 : Nat) : Int) := by rw [← hji5, w64 (by omega) (by have := HL0.out.1; have := HL0.out.2; omega)]; omega
 have HTK := Aside0.mk (pairC_parts k l0 ji5 hj (by omega) HL0.out.1 HW0.out)
 have HK2 := Aside0.mk (show k - 1 < k ∧ k - 1 ≤ 1000 from by have := HL0.out.1; have := HL0.out.2; omega)
 have hji5w : (IntKind.i64.wrap ((l0.length : Int) / 2)) = ji5 := (i64_w _).trans hji5
 by_cases c6 : 0 ≤ (ji5)
 case neg => exact absurd (by omega) c6
 have c6b0 := eq_true c6
 have c6b1 := decide_eq_true c6
 clear c6
 by_cases c7 : (ji5) ≤ (l0.length : Int)
 case neg => exact absurd (by omega) c7
 have c7b0 := eq_true c7
 have c7b1 := decide_eq_true c7
 clear c7 hj
 have c9b0 := eq_true (sqD : 0 ≤ (ji5))
 have c10b0 := eq_true (sqD : (ji5) ≤ (l0.length : Int))
 go_enter Tryz.func16, Tryz.ntmps16
 try go_wp2
 have n0_ := Aside0.mk (below_drew1 HB.out)
 clear HB
 have HB := n0_
 clear n0_
 obtain ⟨i015, hi015, _, hsz15, _⟩ := info_parts info22
 obtain ⟨hcut15, hA15, hC15⟩ := print_take_of (P := Tryz.prog) (Value.float .f64) (0 : Nat) 37 22 .i64 Tryz.underlying37 hi015 hsz15 A0 c0 l0 (ji5) sqD sqD HC0.out
 have HR440 := Aside0.mk (Kd.C_of_reads (h1 := fun _ => rfl) (hA15 _ (Kd.reads_of_C HR0.out)))
 have HC440 := Aside0.mk hC15
 clear hA15 hC15 hi015 hsz15
 obtain ⟨i016, hi016, _, hsz16, _⟩ := info_parts info22
 obtain ⟨A16, hcut16, hA16, hC16⟩ := print_drop_of (P := Tryz.prog) (Value.float .f64) (0 : Nat) 37 22 .i64 Tryz.underlying37 hi016 hsz16 A0 c0 l0 (ji5) sqD sqD HC0.out
 have HR442 := Aside0.mk (Kd.C_of_reads (h1 := fun _ => rfl) (hA16 _ (Kd.reads_of_C HR0.out)))
 have HC442 := Aside0.mk hC16
 clear hA16 hC16 hi016 hsz16
 refine start_ (n := 10) (S := fun w' => True) (ds := []) #[false, false, false, false, false, false, false, false, false, false] (by kernel_rfl) rfl rfl trivial (fun hHeld => ?_); refine with_tabW weigh_Pairs.tab7 weigh_Pairs.bits7 (fun HT_ HW_ => ?_)
 generalize w.drew = w14 at HB HR440 HR442 hHeld ⊢
 refine pure_ (i := 0) (N := some 16) (v := ?_) (a' := ?_) #[true, false, false, false, false, false, false, false, false, false] rfl rfl (any_of HT_.out (by kernel_rfl)) (fun _ _ _ h => h) (Or.inl ⟨by rfl, ?_⟩) ?_ ?_
 rotate_left
 ·
  intro w'
  go_simp
  with_reducible rfl
 rotate_left
 ·
  simp only [Act.put, List.setIfInBounds_toArray, List.set_cons_zero, List.set_cons_succ, i64_w, i32_w]
  rfl
 refine pure_ (i := 1) (N := some 17) (v := ?_) (a' := ?_) #[true, true, false, false, false, false, false, false, false, false] rfl rfl (any_of HT_.out (by kernel_rfl)) (fun _ _ _ h => h) (Or.inl ⟨by rfl, ?_⟩) ?_ ?_
 rotate_left
 ·
  intro w'
  go_simp
  with_reducible rfl
 rotate_left
 ·
  simp only [Act.put, List.setIfInBounds_toArray, List.set_cons_zero, List.set_cons_succ, i64_w, i32_w]
  rfl
 refine pure_ (i := 2) (N := some 18) (v := ?_) (a' := ?_) #[true, true, true, false, false, false, false, false, false, false] rfl rfl (any_of HT_.out (by kernel_rfl)) (fun _ _ _ h => h) (Or.inl ⟨by rfl, ?_⟩) ?_ ?_
 rotate_left
 ·
  intro w'
  go_simp
  with_reducible rfl
 rotate_left
 ·
  simp only [Act.put, List.setIfInBounds_toArray, List.set_cons_zero, List.set_cons_succ, i64_w, i32_w]
  rfl
 refine pure_ (i := 4) (N := some 20) (v := ?_) (a' := ?_) #[true, true, true, false, true, false, false, false, false, false] rfl rfl (any_of HT_.out (by kernel_rfl)) (fun _ _ _ h => h) (Or.inl ⟨by rfl, ?_⟩) ?_ ?_
 rotate_left
 ·
  intro w'
  go_simp
  with_reducible rfl
 rotate_left
 ·
  simp only [Act.put, List.setIfInBounds_toArray, List.set_cons_zero, List.set_cons_succ, i64_w, i32_w]
  rfl
 refine pure_ (i := 5) (N := some 21) (v := ?_) (a' := ?_) #[true, true, true, false, true, true, false, false, false, false] rfl rfl (any_of HT_.out (by kernel_rfl)) (fun _ _ _ h => h) (Or.inl ⟨by rfl, ?_⟩) ?_ ?_
 rotate_left
 ·
  intro w'
  go_simp
  with_reducible rfl
 rotate_left
 ·
  simp only [Act.put, List.setIfInBounds_toArray, List.set_cons_zero, List.set_cons_succ, i64_w, i32_w]
  rfl
 refine pure_ (i := 6) (N := some 22) (v := ?_) (a' := ?_) #[true, true, true, false, true, true, true, false, false, false] rfl rfl (any_of HT_.out (by kernel_rfl)) (fun _ _ _ h => h) (Or.inl ⟨by rfl, ?_⟩) ?_ ?_
 rotate_left
 ·
  intro w'
  go_simp
  with_reducible rfl
 rotate_left
 ·
  simp only [Act.put, List.setIfInBounds_toArray, List.set_cons_zero, List.set_cons_succ, i64_w, i32_w]
  rfl
 refine one_ (i := 3) (N := some 19) #[true, true, true, true, true, true, true, false, false, false] rfl rfl (one_of HT_.out (by kernel_rfl)) (by decide) (fun K hK => ?_)
 refine goes_ Tryz.func16 (by kernel_rfl) rfl #[.slice A0 (l0.take ((ji5) : Int).toNat).length c0] (by rfl) rfl rfl (by (try simp only [List.map_toArray, List.map_cons, List.map_nil]); first | done | (rw [show (l0.take ((ji5) : Int).toNat).length = (ji5).toNat from (by rw [List.length_take]; have h_ : ((ji5) : Int) ≤ (l0.length : Int) := sqD; omega)] <;> rfl) | (simp only [hji5]; rfl) | rfl | (simp only [List.length_drop, List.length_take]; rfl)) ?_
 with_reducible refine (ih (k - 1) HK2.out.1 _ _ (l0.take ((ji5) : Int).toNat) _ ?side1 ?side2 HTK.out.1 HTK.out.2.1 HK2.out.2).mono ?_
 (case side1 => repeat (first | exact (Kd.C_below HR440.out HB.out) | (with_reducible refine Kd.C_alloc ?_ _) | (with_reducible refine Kd.C_drewN ?_ _) | (with_reducible refine Kd.C_drew ?_)))
 (case side2 => exact HC440.out)
 rintro e w17 ⟨t441, hag1, rfl, hb⟩
 have HAG1 := Aside0.mk hag1
 clear hag1
 refine ⟨_, rfl, ?_⟩
 have n0_ := Aside0.mk (below_step sqB hb)
 clear HB
 have HB := n0_
 clear n0_
 (try clear hb)
 (try clear hb2)
 (try clear hk)
 (try clear hi)
 refine hK.out _ _ trivial (fun hHeld => ?_)
 clear hK K
 refine norm_ (a' := ?_) ?_ ?_
 rotate_left
 ·
  show Act.put _ (some 19) _ = _
  simp only [Act.put, List.setIfInBounds_toArray, List.set_cons_zero, List.set_cons_succ, i64_w, i32_w]
  rfl
 refine one_ (i := 7) (N := some 23) #[true, true, true, true, true, true, true, true, false, false] rfl rfl (one_of HT_.out (by kernel_rfl)) (by decide) (fun K hK => ?_)
 refine goes_ Tryz.func16 (by kernel_rfl) rfl #[.slice A16 (l0.drop ((ji5) : Int).toNat).length (c0 - (ji5).toNat)] (by rfl) rfl rfl (by (try simp only [List.map_toArray, List.map_cons, List.map_nil]); first | done | (rw [show (l0.drop ((ji5) : Int).toNat).length = (l0.length - (ji5).toNat) from List.length_drop] <;> rfl) | (simp only [hji5]; rfl) | rfl | (simp only [List.length_drop, List.length_take]; rfl)) ?_
 with_reducible refine (ih (k - 1) HK2.out.1 _ _ (l0.drop ((ji5) : Int).toNat) _ ?side1 ?side2 HTK.out.2.2.1 HTK.out.2.2.2.1 HK2.out.2).mono ?_
 (case side1 => repeat (first | exact (Kd.C_below HR442.out HB.out) | (with_reducible refine Kd.C_alloc ?_ _) | (with_reducible refine Kd.C_drewN ?_ _) | (with_reducible refine Kd.C_drew ?_)))
 (case side2 => exact HC442.out)
 rintro e w18 ⟨t443, hag2, rfl, hb⟩
 have HAG2 := Aside0.mk hag2
 clear hag2
 refine ⟨_, rfl, ?_⟩
 have n0_ := Aside0.mk (below_step sqB hb)
 clear HB
 have HB := n0_
 clear n0_
 (try clear hb)
 (try clear hb2)
 (try clear hk)
 (try clear hi)
 refine hK.out _ _ trivial (fun hHeld => ?_)
 clear hK K
 refine norm_ (a' := ?_) ?_ ?_
 rotate_left
 ·
  show Act.put _ (some 23) _ = _
  simp only [Act.put, List.setIfInBounds_toArray, List.set_cons_zero, List.set_cons_succ, i64_w, i32_w]
  rfl
 rcases agree_add HAG1.out HAG2.out with ⟨t444, f1, f2⟩ | ⟨f1, f2⟩
 ·
  have HN := Aside0.mk (show Agree t444 (pairC k l0) from by rw [HTK.out.2.2.2.2]; exact f2)
  have hf13 : ∀ w_ : World, Sem.run Tryz.prog (binOp .add 22 (.float .f64 t441) (.float .f64 t443)) w_ = .ok (.float .f64 t444) w_ := fun w_ => run_float_arith w_ .add 22 .f64 t441 t443 t444 f1
  clear f1 f2
  refine pure_ (i := 8) (N := some 24) (v := ?_) (a' := ?_) #[true, true, true, true, true, true, true, true, true, false] rfl rfl (any_of HT_.out (by kernel_rfl)) (fun _ _ _ h => h) (Or.inl ⟨by rfl, ?_⟩) ?_ ?_
  rotate_left
  ·
   intro w'
   go_simp
   with_reducible rfl
  rotate_left
  ·
   simp only [Act.put, List.setIfInBounds_toArray, List.set_cons_zero, List.set_cons_succ, i64_w, i32_w]
   rfl
  refine pure_ (i := 9) (N := some 2) (v := ?_) (a' := ?_) #[true, true, true, true, true, true, true, true, true, true] rfl rfl (any_of HT_.out (by kernel_rfl)) (fun _ _ _ h => h) (Or.inl ⟨by rfl, ?_⟩) ?_ ?_
  rotate_left
  ·
   intro w'
   go_simp
   with_reducible rfl
  rotate_left
  ·
   simp only [Act.put, List.setIfInBounds_toArray, List.set_cons_zero, List.set_cons_succ, i64_w, i32_w]
   rfl
  refine done_ (done_of HT_.out (by kernel_rfl)) ?_
  try go_wp2
  go_ret
  exact ⟨t444, HN.out, by first | rfl | (simp [errW_none, errW_some] <;> rfl) | (simp [*, errW_none, errW_some] <;> rfl), sqB⟩
 ·
  have hf13 : Sem.run Tryz.prog (binOp .add 22 (.float .f64 t441) (.float .f64 t443)) w18 = .ok (.float .f64 (nanOf t441 t443 w18)) w18.drew := run_add_nan 22 t441 t443 f1 w18
  have HN := Aside0.mk (show Agree (nanOf t441 t443 w18) (pairC k l0) from by rw [HTK.out.2.2.2.2]; exact agree_nan w18 f2)
  clear f1 f2
  obtain ⟨t444, ht444⟩ : ∃ t, nanOf t441 t443 w18 = t := ⟨_, rfl⟩
  rw [ht444] at hf13 HN
  clear ht444
  refine one_ (i := 8) (N := some 24) #[true, true, true, true, true, true, true, true, true, false] rfl rfl (one_of HT_.out (by kernel_rfl)) (by decide) (fun K hK => ?_)
  refine op_ (v := .float .f64 t444) (w2 := w18.drew) (by rfl) rfl (by go_simp <;> (rw [hf13] <;> try rfl)) ?_
  have n0_ := Aside0.mk (below_drew1 HB.out)
  clear HB
  have HB := n0_
  clear n0_ hf13
  generalize w18.drew = w19 at HB ⊢
  refine hK.out _ _ trivial (fun hHeld => ?_)
  clear hK K
  refine norm_ (a' := ?_) ?_ ?_
  rotate_left
  ·
   show Act.put _ (some 24) _ = _
   simp only [Act.put, List.setIfInBounds_toArray, List.set_cons_zero, List.set_cons_succ, i64_w, i32_w]
   rfl
  refine pure_ (i := 9) (N := some 2) (v := ?_) (a' := ?_) #[true, true, true, true, true, true, true, true, true, true] rfl rfl (any_of HT_.out (by kernel_rfl)) (fun _ _ _ h => h) (Or.inl ⟨by rfl, ?_⟩) ?_ ?_
  rotate_left
  ·
   intro w'
   go_simp
   with_reducible rfl
  rotate_left
  ·
   simp only [Act.put, List.setIfInBounds_toArray, List.set_cons_zero, List.set_cons_succ, i64_w, i32_w]
   rfl
  refine done_ (done_of HT_.out (by kernel_rfl)) ?_
  try go_wp2
  go_ret
  exact ⟨t444, HN.out, by first | rfl | (simp [errW_none, errW_some] <;> rfl) | (simp [*, errW_none, errW_some] <;> rfl), sqB⟩
end Go.Proofs.YtfmjdoofopamkaaGreatDoor.Plain
