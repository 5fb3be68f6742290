-- written by wip/pp.py of this session (the kit's print with patches); checked by Lean alone
import Derived.Test.YtplnakmpogepmabDoorAx0
import Derived.Test.YtplnakmpogepmabDoorAx1
import Derived.Test.YtplnakmpogepmabDoorAx2
import Derived.Test.YtplnakmpogepmabDoorAx3
namespace Go.Proofs.YtplnakmpogepmabDoor.A
open Go.RowKit Go.Proofs.YtplnakmpogepmabDoorW.PrintWords Go.Proofs.YtplnakmpogepmabDoorW.PrintLast Go.Proofs.YtplnakmpogepmabDoorW.PrintMore
attribute [local go_sem] max2_int min2_int max_two min_two max_three min_three max_four min_four   -- for this text's walks alone
set_option linter.unusedVariables false
set_option linter.unusedSimpArgs false

/-! ### endonymlaw5_told: function 5 -/
def endonymlaw5_told.f (k : Nat)  : Option (Bool) := (scan_Words.f k (⟨#[32, 97, 32, 32, 98, 35, 99]⟩ : ByteArray)).bind fun bt123 => ((scan_Span.f k (⟨#[52, 49, 46, 46, 53, 65]⟩ : ByteArray)).bind fun bt127 => ((scan_Whole.f k (⟨#[45, 55]⟩ : ByteArray)).bind fun bt130 => (if (bt123.1.length : Int) = 2 then (if 1 < (bt123.1.length : Int) then (if ((rd_T38 bt123.1 1).f0).toList = ([98] : List UInt8) then (if ((rd_T38 bt123.1 1).f1) = 4 then (if bt123.2 = 5 then (if bt127.2.2 = true then (if bt127.1 = 65 then (if bt127.2.1 = 90 then (if bt130.2 = true then (if bt130.1 = (-7) then ((scan_PrintCode.f k 1114111).bind fun t134 => (if t134.toList = ([49, 48, 70, 70, 70, 70] : List UInt8) then ((scan_Lines.f k (⟨#[97, 10, 98]⟩ : ByteArray)).bind fun t135 => (if (t135.length : Int) = 2 then ((scan_Name.f k (⟨#[76, 97, 116, 110]⟩ : ByteArray)).bind fun t138 => (some t138)) else (some false))) else (some false))) else (some false)) else (some false)) else (some false)) else (some false)) else (some false)) else (some false)) else (some false)) else (some false)) else (none)) else (some false))))
theorem endonymlaw5_told.mono : ∀ k, LeO (endonymlaw5_told.f k ) (endonymlaw5_told.f (k + 1) ) := by
  intro  k
  unfold endonymlaw5_told.f
  repeat' first
      | (with_reducible exact scan_Lines.mono _ _)
      | (with_reducible exact scan_Name.mono _ _)
      | (with_reducible exact scan_PrintCode.mono _ _)
      | (with_reducible exact scan_Span.mono _ _)
      | (with_reducible exact scan_Whole.mono _ _)
      | (with_reducible exact scan_Words.mono _ _)
      | (with_reducible exact LeO.refl _)
      | (with_reducible exact LeO.none _)
      | (with_reducible refine LeO.ite ?_ ?_)
      | (with_reducible refine LeO.bind ?_ (fun _ => ?_))
      | exact scan_Lines.mono _ _
      | exact scan_Name.mono _ _
      | exact scan_PrintCode.mono _ _
      | exact scan_Span.mono _ _
      | exact scan_Whole.mono _ _
      | exact scan_Words.mono _ _
      | exact LeO.none _
      | refine LeO.ite ?_ ?_
      | refine LeO.bind ?_ (fun _ => ?_)
set_option maxHeartbeats 8000000 in
set_option maxRecDepth 100000 in
theorem endonymlaw5_told.calls (k : Nat)  (r : Bool) (w : World) (h : endonymlaw5_told.f k  = some r) :
    Calls Tryd.prog 5 #[] w fun e w' => e = .returned (.bool r) ∧ Below w.heap.size w w' := by
  have HB := Aside0.mk (Below.refl w.heap.size w)
  have H : ((scan_Words.f k (⟨#[32, 97, 32, 32, 98, 35, 99]⟩ : ByteArray)).bind fun bt123 => ((scan_Span.f k (⟨#[52, 49, 46, 46, 53, 65]⟩ : ByteArray)).bind fun bt127 => ((scan_Whole.f k (⟨#[45, 55]⟩ : ByteArray)).bind fun bt130 => (if (bt123.1.length : Int) = 2 then (if 1 < (bt123.1.length : Int) then (if ((rd_T38 bt123.1 1).f0).toList = ([98] : List UInt8) then (if ((rd_T38 bt123.1 1).f1) = 4 then (if bt123.2 = 5 then (if bt127.2.2 = true then (if bt127.1 = 65 then (if bt127.2.1 = 90 then (if bt130.2 = true then (if bt130.1 = (-7) then ((scan_PrintCode.f k 1114111).bind fun t134 => (if t134.toList = ([49, 48, 70, 70, 70, 70] : List UInt8) then ((scan_Lines.f k (⟨#[97, 10, 98]⟩ : ByteArray)).bind fun t135 => (if (t135.length : Int) = 2 then ((scan_Name.f k (⟨#[76, 97, 116, 110]⟩ : ByteArray)).bind fun t138 => (some t138)) else (some false))) else (some false))) else (some false)) else (some false)) else (some false)) else (some false)) else (some false)) else (some false)) else (some false)) else (some false)) else (none)) else (some false))))) = some r := h
  clear h
  replace H := Option.bind_eq_some_iff.mp H
  obtain ⟨⟨t123, t124⟩, A10, H⟩ := H
  replace H : ((scan_Span.f k (⟨#[52, 49, 46, 46, 53, 65]⟩ : ByteArray)).bind fun bt127 => ((scan_Whole.f k (⟨#[45, 55]⟩ : ByteArray)).bind fun bt130 => (if (t123.length : Int) = 2 then (if 1 < (t123.length : Int) then (if ((rd_T38 t123 1).f0).toList = ([98] : List UInt8) then (if ((rd_T38 t123 1).f1) = 4 then (if t124 = 5 then (if bt127.2.2 = true then (if bt127.1 = 65 then (if bt127.2.1 = 90 then (if bt130.2 = true then (if bt130.1 = (-7) then ((scan_PrintCode.f k 1114111).bind fun t134 => (if t134.toList = ([49, 48, 70, 70, 70, 70] : List UInt8) then ((scan_Lines.f k (⟨#[97, 10, 98]⟩ : ByteArray)).bind fun t135 => (if (t135.length : Int) = 2 then ((scan_Name.f k (⟨#[76, 97, 116, 110]⟩ : ByteArray)).bind fun t138 => (some t138)) else (some false))) else (some false))) else (some false)) else (some false)) else (some false)) else (some false)) else (some false)) else (some false)) else (some false)) else (some false)) else (none)) else (some false)))) = some r := H
  have A1 := Aside0.mk A10
  clear A10
  replace H := Option.bind_eq_some_iff.mp H
  obtain ⟨⟨t127, t128, t129⟩, A20, H⟩ := H
  replace H : ((scan_Whole.f k (⟨#[45, 55]⟩ : ByteArray)).bind fun bt130 => (if (t123.length : Int) = 2 then (if 1 < (t123.length : Int) then (if ((rd_T38 t123 1).f0).toList = ([98] : List UInt8) then (if ((rd_T38 t123 1).f1) = 4 then (if t124 = 5 then (if t129 = true then (if t127 = 65 then (if t128 = 90 then (if bt130.2 = true then (if bt130.1 = (-7) then ((scan_PrintCode.f k 1114111).bind fun t134 => (if t134.toList = ([49, 48, 70, 70, 70, 70] : List UInt8) then ((scan_Lines.f k (⟨#[97, 10, 98]⟩ : ByteArray)).bind fun t135 => (if (t135.length : Int) = 2 then ((scan_Name.f k (⟨#[76, 97, 116, 110]⟩ : ByteArray)).bind fun t138 => (some t138)) else (some false))) else (some false))) else (some false)) else (some false)) else (some false)) else (some false)) else (some false)) else (some false)) else (some false)) else (some false)) else (none)) else (some false))) = some r := H
  have A2 := Aside0.mk A20
  clear A20
  replace H := Option.bind_eq_some_iff.mp H
  obtain ⟨⟨t130, t131⟩, A30, H⟩ := H
  replace H : (if (t123.length : Int) = 2 then (if 1 < (t123.length : Int) then (if ((rd_T38 t123 1).f0).toList = ([98] : List UInt8) then (if ((rd_T38 t123 1).f1) = 4 then (if t124 = 5 then (if t129 = true then (if t127 = 65 then (if t128 = 90 then (if t131 = true then (if t130 = (-7) then ((scan_PrintCode.f k 1114111).bind fun t134 => (if t134.toList = ([49, 48, 70, 70, 70, 70] : List UInt8) then ((scan_Lines.f k (⟨#[97, 10, 98]⟩ : ByteArray)).bind fun t135 => (if (t135.length : Int) = 2 then ((scan_Name.f k (⟨#[76, 97, 116, 110]⟩ : ByteArray)).bind fun t138 => (some t138)) else (some false))) else (some false))) else (some false)) else (some false)) else (some false)) else (some false)) else (some false)) else (some false)) else (some false)) else (some false)) else (none)) else (some false)) = some r := H
  have A3 := Aside0.mk A30
  clear A30
  by_cases c4 : (t123.length : Int) = 2
  · rw [if_pos c4] at H
    have c4b0 : ((t123.length : Int) == 2) = true := beq_iff_eq.mpr c4
    have c4b1 : ((t123.length : Int) != 2) = false := bne_eq_false_iff_eq.mpr c4
    clear c4
    by_cases c5 : 1 < (t123.length : Int)
    · rw [if_pos c5] at H
      have c5b0 : decide (1 < (t123.length : Int)) = true := decide_eq_true c5
      have c5b1 : decide (1 < t123.length) = true := decide_eq_true (by omega)
      clear c5
      by_cases c6 : ((rd_T38 t123 1).f0).toList = ([98] : List UInt8)
      · rw [if_pos c6] at H
        have c6b0 : (((rd_T38 t123 1).f0).toList == ([98] : List UInt8)) = true := beq_iff_eq.mpr c6
        have c6b1 : (((rd_T38 t123 1).f0).toList != ([98] : List UInt8)) = false := bne_eq_false_iff_eq.mpr c6
        clear c6
        by_cases c7 : ((rd_T38 t123 1).f1) = 4
        · rw [if_pos c7] at H
          have c7b0 : (((rd_T38 t123 1).f1) == 4) = true := beq_iff_eq.mpr c7
          have c7b1 : (((rd_T38 t123 1).f1) != 4) = false := bne_eq_false_iff_eq.mpr c7
          clear c7
          by_cases c8 : t124 = 5
          · rw [if_pos c8] at H
            have c8b0 : (t124 == 5) = true := beq_iff_eq.mpr c8
            have c8b1 : (t124 != 5) = false := bne_eq_false_iff_eq.mpr c8
            clear c8
            by_cases c9 : t129 = true
            · subst c9
              have H1 : (if t127 = 65 then (if t128 = 90 then (if t131 = true then (if t130 = (-7) then ((scan_PrintCode.f k 1114111).bind fun t134 => (if t134.toList = ([49, 48, 70, 70, 70, 70] : List UInt8) then ((scan_Lines.f k (⟨#[97, 10, 98]⟩ : ByteArray)).bind fun t135 => (if (t135.length : Int) = 2 then ((scan_Name.f k (⟨#[76, 97, 116, 110]⟩ : ByteArray)).bind fun t138 => (some t138)) else (some false))) else (some false))) else (some false)) else (some false)) else (some false)) else (some false)) = some r := by rw [if_pos rfl] at H; exact H
              clear H
              have H := H1
              clear H1
              by_cases c10 : t127 = 65
              · rw [if_pos c10] at H
                have c10b0 : (t127 == 65) = true := beq_iff_eq.mpr c10
                have c10b1 : (t127 != 65) = false := bne_eq_false_iff_eq.mpr c10
                clear c10
                by_cases c11 : t128 = 90
                · rw [if_pos c11] at H
                  have c11b0 : (t128 == 90) = true := beq_iff_eq.mpr c11
                  have c11b1 : (t128 != 90) = false := bne_eq_false_iff_eq.mpr c11
                  clear c11
                  by_cases c12 : t131 = true
                  · subst c12
                    have H1 : (if t130 = (-7) then ((scan_PrintCode.f k 1114111).bind fun t134 => (if t134.toList = ([49, 48, 70, 70, 70, 70] : List UInt8) then ((scan_Lines.f k (⟨#[97, 10, 98]⟩ : ByteArray)).bind fun t135 => (if (t135.length : Int) = 2 then ((scan_Name.f k (⟨#[76, 97, 116, 110]⟩ : ByteArray)).bind fun t138 => (some t138)) else (some false))) else (some false))) else (some false)) = some r := by rw [if_pos rfl] at H; exact H
                    clear H
                    have H := H1
                    clear H1
                    by_cases c13 : t130 = (-7)
                    · rw [if_pos c13] at H
                      have c13b0 : (t130 == (-7)) = true := beq_iff_eq.mpr c13
                      have c13b1 : (t130 != (-7)) = false := bne_eq_false_iff_eq.mpr c13
                      clear c13
                      replace H := Option.bind_eq_some_iff.mp H
                      obtain ⟨t134, A140, H⟩ := H
                      replace H : (if t134.toList = ([49, 48, 70, 70, 70, 70] : List UInt8) then ((scan_Lines.f k (⟨#[97, 10, 98]⟩ : ByteArray)).bind fun t135 => (if (t135.length : Int) = 2 then ((scan_Name.f k (⟨#[76, 97, 116, 110]⟩ : ByteArray)).bind fun t138 => (some t138)) else (some false))) else (some false)) = some r := H
                      have A14 := Aside0.mk A140
                      clear A140
                      by_cases c15 : t134.toList = ([49, 48, 70, 70, 70, 70] : List UInt8)
                      · rw [if_pos c15] at H
                        have c15b0 : (t134.toList == ([49, 48, 70, 70, 70, 70] : List UInt8)) = true := beq_iff_eq.mpr c15
                        have c15b1 : (t134.toList != ([49, 48, 70, 70, 70, 70] : List UInt8)) = false := bne_eq_false_iff_eq.mpr c15
                        clear c15
                        replace H := Option.bind_eq_some_iff.mp H
                        obtain ⟨t135, A160, H⟩ := H
                        replace H : (if (t135.length : Int) = 2 then ((scan_Name.f k (⟨#[76, 97, 116, 110]⟩ : ByteArray)).bind fun t138 => (some t138)) else (some false)) = some r := H
                        have A16 := Aside0.mk A160
                        clear A160
                        by_cases c17 : (t135.length : Int) = 2
                        · rw [if_pos c17] at H
                          have c17b0 : ((t135.length : Int) == 2) = true := beq_iff_eq.mpr c17
                          have c17b1 : ((t135.length : Int) != 2) = false := bne_eq_false_iff_eq.mpr c17
                          clear c17
                          replace H := Option.bind_eq_some_iff.mp H
                          obtain ⟨t138, A180, H⟩ := H
                          replace H : (some t138) = some r := H
                          have A18 := Aside0.mk A180
                          clear A180
                          obtain rfl := Option.some.inj H
                          go_enter Tryd.func5, Tryd.ntmps5
                          go_wp2_with (first | ((with_reducible refine gate_callee (f := 15) rfl ?_); refine goesL_ (some 9) rfl rfl Tryd.func15 (by kernel_rfl) rfl #[.string (⟨#[32, 97, 32, 32, 98, 35, 99]⟩ : ByteArray)] rfl (by (try simp only [List.map_toArray, List.map_cons, List.map_nil]); first | done | rfl | (simp only [List.length_drop, List.length_take]; rfl)) ?_; (with_reducible refine (scan_Words.calls k (⟨#[32, 97, 32, 32, 98, 35, 99]⟩ : ByteArray) t123 t124 _ A1.out).mono ?_); rintro e w19 ⟨v125, rfl, ho0, hb⟩; refine ⟨_, rfl, ?_⟩; have n0_ := Aside0.mk (Kd.R_lower ho0 (below_size (by repeat (first | (with_reducible first | exact HB.out | apply below_alloc | apply pw_below_drewN | apply below_drew1) | exact HB.out)))); have n1_ := Aside0.mk (below_step (by repeat (first | (with_reducible first | exact HB.out | apply below_alloc | apply pw_below_drewN | apply below_drew1) | exact HB.out)) hb); clear HB; have HO126 := n0_; have HB := n1_; clear n0_ n1_; (try clear hb); (try clear hb2); (try clear hk); (try clear hi); (try clear ho0)) | ((with_reducible refine gate_callee (f := 13) rfl ?_); refine goesL_ (some 13) rfl rfl Tryd.func13 (by kernel_rfl) rfl #[.string (⟨#[52, 49, 46, 46, 53, 65]⟩ : ByteArray)] rfl (by (try simp only [List.map_toArray, List.map_cons, List.map_nil]); first | done | rfl | (simp only [List.length_drop, List.length_take]; rfl)) ?_; (with_reducible refine (scan_Span.calls k (⟨#[52, 49, 46, 46, 53, 65]⟩ : ByteArray) t127 t128 true _ A2.out).mono ?_); rintro e w' ⟨rfl, ⟨nd, rfl⟩⟩; refine ⟨_, rfl, ?_⟩) | ((with_reducible refine gate_callee (f := 14) rfl ?_); refine goesL_ (some 18) rfl rfl Tryd.func14 (by kernel_rfl) rfl #[.string (⟨#[45, 55]⟩ : ByteArray)] rfl (by (try simp only [List.map_toArray, List.map_cons, List.map_nil]); first | done | rfl | (simp only [List.length_drop, List.length_take]; rfl)) ?_; (with_reducible refine (scan_Whole.calls k (⟨#[45, 55]⟩ : ByteArray) t130 true _ A3.out).mono ?_); rintro e w' ⟨rfl, ⟨nd, rfl⟩⟩; refine ⟨_, rfl, ?_⟩; obtain ⟨Ao20, co20, eo20⟩ := Kd.R_slice HO126.out; subst eo20; have p132 : 0 ≤ (1 : Int) := (by omega); have q132 : 1 < (t123.length : Int) := of_decide_eq_true (by first | (with_reducible assumption) | assumption); obtain ⟨ad132, e132, hx132_0, hx132_1⟩ := at_T38 (Kd.R_reads' HO126.out).2.2 1 p132 q132; cases e132; (try simp only [show (1 : Int).toNat = 1 from rfl, Nat.reduceMul, Nat.reduceEqDiff, Go.Addr.add, ↓reduceIte] at hx132_0); (try simp only [show (1 : Int).toNat = 1 from rfl, Nat.reduceMul, Nat.reduceEqDiff, Go.Addr.add, ↓reduceIte] at hx132_1); have qi132 : (1 < t123.length) = True := eq_true (by omega); (try rw [show ((1 : Int)).toNat = 1 from rfl] at hx132_0); (try rw [show 1 * 2 = 2 from rfl] at hx132_0); (try rw [show ((1 : Int)).toNat = 1 from rfl] at hx132_1); (try rw [show 1 * 2 = 2 from rfl] at hx132_1); replace p132 := eq_true p132; replace q132 := eq_true q132; have p133 : 0 ≤ (1 : Int) := (by omega); have q133 : 1 < (t123.length : Int) := of_decide_eq_true (by first | (with_reducible assumption) | assumption); obtain ⟨ad133, e133, hx133_0, hx133_1⟩ := at_T38 (Kd.R_reads' HO126.out).2.2 1 p133 q133; obtain rfl : ad132 = ad133 := (by injection e133); (try simp only [show (1 : Int).toNat = 1 from rfl, Nat.reduceMul, Nat.reduceEqDiff, Go.Addr.add, ↓reduceIte] at hx133_0); (try simp only [show (1 : Int).toNat = 1 from rfl, Nat.reduceMul, Nat.reduceEqDiff, Go.Addr.add, ↓reduceIte] at hx133_1); have qi133 : (1 < t123.length) = True := eq_true (by omega); (try rw [show ((1 : Int)).toNat = 1 from rfl] at hx133_0); (try rw [show 1 * 2 = 2 from rfl] at hx133_0); (try rw [show ((1 : Int)).toNat = 1 from rfl] at hx133_1); (try rw [show 1 * 2 = 2 from rfl] at hx133_1); replace p133 := eq_true p133; replace q133 := eq_true q133) | (go_at_call 6; (with_reducible refine (scan_PrintCode.calls k 1114111 t134 _ A14.out).mono ?_); rintro e w' ⟨rfl, ⟨nd, rfl⟩⟩) | (go_at_call 16; (with_reducible refine (scan_Lines.calls k (⟨#[97, 10, 98]⟩ : ByteArray) t135 _ A16.out).mono ?_); rintro e w21 ⟨v136, rfl, ho0, hb⟩; have n0_ := Aside0.mk (Kd.R_below (by (with_reducible repeat (first | apply Kd.R_alloc | apply Kd.R_drewN | apply Kd.R_drew)); exact HO126.out) hb); have n1_ := Aside0.mk (Kd.R_lower ho0 (below_size (by repeat (first | (with_reducible first | exact HB.out | apply below_alloc | apply pw_below_drewN | apply below_drew1) | exact HB.out)))); have n2_ := Aside0.mk (below_step (by repeat (first | (with_reducible first | exact HB.out | apply below_alloc | apply pw_below_drewN | apply below_drew1) | exact HB.out)) hb); clear HO126; clear HB; have HO126 := n0_; have HO137 := n1_; have HB := n2_; clear n0_ n1_ n2_; (try clear hb); (try clear hb2); (try clear hk); (try clear hi); (try clear ho0); obtain ⟨Ao22, co22, eo22⟩ := Kd.R_slice HO137.out; subst eo22) | (go_at_call 17; (with_reducible refine (scan_Name.calls k (⟨#[76, 97, 116, 110]⟩ : ByteArray) t138 _ A18.out).mono ?_); rintro e w' ⟨rfl, ⟨nd, rfl⟩⟩))
                          go_ret
                          exact ⟨by first | rfl | (simp [errW_none, errW_some] <;> rfl) | (simp [*, errW_none, errW_some] <;> rfl), by repeat (first | (with_reducible first | exact HB.out | apply below_alloc | apply pw_below_drewN | apply below_drew1) | exact HB.out)⟩
                        · rw [if_neg c17] at H
                          have c17b0 : ((t135.length : Int) == 2) = false := beq_eq_false_iff_ne.mpr c17
                          have c17b1 : ((t135.length : Int) != 2) = true := bne_iff_ne.mpr c17
                          obtain rfl := Option.some.inj H
                          go_enter Tryd.func5, Tryd.ntmps5
                          go_wp2_with (first | ((with_reducible refine gate_callee (f := 15) rfl ?_); refine goesL_ (some 9) rfl rfl Tryd.func15 (by kernel_rfl) rfl #[.string (⟨#[32, 97, 32, 32, 98, 35, 99]⟩ : ByteArray)] rfl (by (try simp only [List.map_toArray, List.map_cons, List.map_nil]); first | done | rfl | (simp only [List.length_drop, List.length_take]; rfl)) ?_; (with_reducible refine (scan_Words.calls k (⟨#[32, 97, 32, 32, 98, 35, 99]⟩ : ByteArray) t123 t124 _ A1.out).mono ?_); rintro e w23 ⟨v125, rfl, ho0, hb⟩; refine ⟨_, rfl, ?_⟩; have n0_ := Aside0.mk (Kd.R_lower ho0 (below_size (by repeat (first | (with_reducible first | exact HB.out | apply below_alloc | apply pw_below_drewN | apply below_drew1) | exact HB.out)))); have n1_ := Aside0.mk (below_step (by repeat (first | (with_reducible first | exact HB.out | apply below_alloc | apply pw_below_drewN | apply below_drew1) | exact HB.out)) hb); clear HB; have HO126 := n0_; have HB := n1_; clear n0_ n1_; (try clear hb); (try clear hb2); (try clear hk); (try clear hi); (try clear ho0)) | ((with_reducible refine gate_callee (f := 13) rfl ?_); refine goesL_ (some 13) rfl rfl Tryd.func13 (by kernel_rfl) rfl #[.string (⟨#[52, 49, 46, 46, 53, 65]⟩ : ByteArray)] rfl (by (try simp only [List.map_toArray, List.map_cons, List.map_nil]); first | done | rfl | (simp only [List.length_drop, List.length_take]; rfl)) ?_; (with_reducible refine (scan_Span.calls k (⟨#[52, 49, 46, 46, 53, 65]⟩ : ByteArray) t127 t128 true _ A2.out).mono ?_); rintro e w' ⟨rfl, ⟨nd, rfl⟩⟩; refine ⟨_, rfl, ?_⟩) | ((with_reducible refine gate_callee (f := 14) rfl ?_); refine goesL_ (some 18) rfl rfl Tryd.func14 (by kernel_rfl) rfl #[.string (⟨#[45, 55]⟩ : ByteArray)] rfl (by (try simp only [List.map_toArray, List.map_cons, List.map_nil]); first | done | rfl | (simp only [List.length_drop, List.length_take]; rfl)) ?_; (with_reducible refine (scan_Whole.calls k (⟨#[45, 55]⟩ : ByteArray) t130 true _ A3.out).mono ?_); rintro e w' ⟨rfl, ⟨nd, rfl⟩⟩; refine ⟨_, rfl, ?_⟩; obtain ⟨Ao24, co24, eo24⟩ := Kd.R_slice HO126.out; subst eo24; have p132 : 0 ≤ (1 : Int) := (by omega); have q132 : 1 < (t123.length : Int) := of_decide_eq_true (by first | (with_reducible assumption) | assumption); obtain ⟨ad132, e132, hx132_0, hx132_1⟩ := at_T38 (Kd.R_reads' HO126.out).2.2 1 p132 q132; cases e132; (try simp only [show (1 : Int).toNat = 1 from rfl, Nat.reduceMul, Nat.reduceEqDiff, Go.Addr.add, ↓reduceIte] at hx132_0); (try simp only [show (1 : Int).toNat = 1 from rfl, Nat.reduceMul, Nat.reduceEqDiff, Go.Addr.add, ↓reduceIte] at hx132_1); have qi132 : (1 < t123.length) = True := eq_true (by omega); (try rw [show ((1 : Int)).toNat = 1 from rfl] at hx132_0); (try rw [show 1 * 2 = 2 from rfl] at hx132_0); (try rw [show ((1 : Int)).toNat = 1 from rfl] at hx132_1); (try rw [show 1 * 2 = 2 from rfl] at hx132_1); replace p132 := eq_true p132; replace q132 := eq_true q132; have p133 : 0 ≤ (1 : Int) := (by omega); have q133 : 1 < (t123.length : Int) := of_decide_eq_true (by first | (with_reducible assumption) | assumption); obtain ⟨ad133, e133, hx133_0, hx133_1⟩ := at_T38 (Kd.R_reads' HO126.out).2.2 1 p133 q133; obtain rfl : ad132 = ad133 := (by injection e133); (try simp only [show (1 : Int).toNat = 1 from rfl, Nat.reduceMul, Nat.reduceEqDiff, Go.Addr.add, ↓reduceIte] at hx133_0); (try simp only [show (1 : Int).toNat = 1 from rfl, Nat.reduceMul, Nat.reduceEqDiff, Go.Addr.add, ↓reduceIte] at hx133_1); have qi133 : (1 < t123.length) = True := eq_true (by omega); (try rw [show ((1 : Int)).toNat = 1 from rfl] at hx133_0); (try rw [show 1 * 2 = 2 from rfl] at hx133_0); (try rw [show ((1 : Int)).toNat = 1 from rfl] at hx133_1); (try rw [show 1 * 2 = 2 from rfl] at hx133_1); replace p133 := eq_true p133; replace q133 := eq_true q133) | (go_at_call 6; (with_reducible refine (scan_PrintCode.calls k 1114111 t134 _ A14.out).mono ?_); rintro e w' ⟨rfl, ⟨nd, rfl⟩⟩) | (go_at_call 16; (with_reducible refine (scan_Lines.calls k (⟨#[97, 10, 98]⟩ : ByteArray) t135 _ A16.out).mono ?_); rintro e w25 ⟨v136, rfl, ho0, hb⟩; have n0_ := Aside0.mk (Kd.R_below (by (with_reducible repeat (first | apply Kd.R_alloc | apply Kd.R_drewN | apply Kd.R_drew)); exact HO126.out) hb); have n1_ := Aside0.mk (Kd.R_lower ho0 (below_size (by repeat (first | (with_reducible first | exact HB.out | apply below_alloc | apply pw_below_drewN | apply below_drew1) | exact HB.out)))); have n2_ := Aside0.mk (below_step (by repeat (first | (with_reducible first | exact HB.out | apply below_alloc | apply pw_below_drewN | apply below_drew1) | exact HB.out)) hb); clear HO126; clear HB; have HO126 := n0_; have HO137 := n1_; have HB := n2_; clear n0_ n1_ n2_; (try clear hb); (try clear hb2); (try clear hk); (try clear hi); (try clear ho0); obtain ⟨Ao26, co26, eo26⟩ := Kd.R_slice HO137.out; subst eo26))
                          go_ret
                          exact ⟨by first | rfl | (simp [errW_none, errW_some] <;> rfl) | (simp [*, errW_none, errW_some] <;> rfl), by repeat (first | (with_reducible first | exact HB.out | apply below_alloc | apply pw_below_drewN | apply below_drew1) | exact HB.out)⟩
                      · rw [if_neg c15] at H
                        have c15b0 : (t134.toList == ([49, 48, 70, 70, 70, 70] : List UInt8)) = false := beq_eq_false_iff_ne.mpr c15
                        have c15b1 : (t134.toList != ([49, 48, 70, 70, 70, 70] : List UInt8)) = true := bne_iff_ne.mpr c15
                        obtain rfl := Option.some.inj H
                        go_enter Tryd.func5, Tryd.ntmps5
                        go_wp2_with (first | ((with_reducible refine gate_callee (f := 15) rfl ?_); refine goesL_ (some 9) rfl rfl Tryd.func15 (by kernel_rfl) rfl #[.string (⟨#[32, 97, 32, 32, 98, 35, 99]⟩ : ByteArray)] rfl (by (try simp only [List.map_toArray, List.map_cons, List.map_nil]); first | done | rfl | (simp only [List.length_drop, List.length_take]; rfl)) ?_; (with_reducible refine (scan_Words.calls k (⟨#[32, 97, 32, 32, 98, 35, 99]⟩ : ByteArray) t123 t124 _ A1.out).mono ?_); rintro e w27 ⟨v125, rfl, ho0, hb⟩; refine ⟨_, rfl, ?_⟩; have n0_ := Aside0.mk (Kd.R_lower ho0 (below_size (by repeat (first | (with_reducible first | exact HB.out | apply below_alloc | apply pw_below_drewN | apply below_drew1) | exact HB.out)))); have n1_ := Aside0.mk (below_step (by repeat (first | (with_reducible first | exact HB.out | apply below_alloc | apply pw_below_drewN | apply below_drew1) | exact HB.out)) hb); clear HB; have HO126 := n0_; have HB := n1_; clear n0_ n1_; (try clear hb); (try clear hb2); (try clear hk); (try clear hi); (try clear ho0)) | ((with_reducible refine gate_callee (f := 13) rfl ?_); refine goesL_ (some 13) rfl rfl Tryd.func13 (by kernel_rfl) rfl #[.string (⟨#[52, 49, 46, 46, 53, 65]⟩ : ByteArray)] rfl (by (try simp only [List.map_toArray, List.map_cons, List.map_nil]); first | done | rfl | (simp only [List.length_drop, List.length_take]; rfl)) ?_; (with_reducible refine (scan_Span.calls k (⟨#[52, 49, 46, 46, 53, 65]⟩ : ByteArray) t127 t128 true _ A2.out).mono ?_); rintro e w' ⟨rfl, ⟨nd, rfl⟩⟩; refine ⟨_, rfl, ?_⟩) | ((with_reducible refine gate_callee (f := 14) rfl ?_); refine goesL_ (some 18) rfl rfl Tryd.func14 (by kernel_rfl) rfl #[.string (⟨#[45, 55]⟩ : ByteArray)] rfl (by (try simp only [List.map_toArray, List.map_cons, List.map_nil]); first | done | rfl | (simp only [List.length_drop, List.length_take]; rfl)) ?_; (with_reducible refine (scan_Whole.calls k (⟨#[45, 55]⟩ : ByteArray) t130 true _ A3.out).mono ?_); rintro e w' ⟨rfl, ⟨nd, rfl⟩⟩; refine ⟨_, rfl, ?_⟩; obtain ⟨Ao28, co28, eo28⟩ := Kd.R_slice HO126.out; subst eo28; have p132 : 0 ≤ (1 : Int) := (by omega); have q132 : 1 < (t123.length : Int) := of_decide_eq_true (by first | (with_reducible assumption) | assumption); obtain ⟨ad132, e132, hx132_0, hx132_1⟩ := at_T38 (Kd.R_reads' HO126.out).2.2 1 p132 q132; cases e132; (try simp only [show (1 : Int).toNat = 1 from rfl, Nat.reduceMul, Nat.reduceEqDiff, Go.Addr.add, ↓reduceIte] at hx132_0); (try simp only [show (1 : Int).toNat = 1 from rfl, Nat.reduceMul, Nat.reduceEqDiff, Go.Addr.add, ↓reduceIte] at hx132_1); have qi132 : (1 < t123.length) = True := eq_true (by omega); (try rw [show ((1 : Int)).toNat = 1 from rfl] at hx132_0); (try rw [show 1 * 2 = 2 from rfl] at hx132_0); (try rw [show ((1 : Int)).toNat = 1 from rfl] at hx132_1); (try rw [show 1 * 2 = 2 from rfl] at hx132_1); replace p132 := eq_true p132; replace q132 := eq_true q132; have p133 : 0 ≤ (1 : Int) := (by omega); have q133 : 1 < (t123.length : Int) := of_decide_eq_true (by first | (with_reducible assumption) | assumption); obtain ⟨ad133, e133, hx133_0, hx133_1⟩ := at_T38 (Kd.R_reads' HO126.out).2.2 1 p133 q133; obtain rfl : ad132 = ad133 := (by injection e133); (try simp only [show (1 : Int).toNat = 1 from rfl, Nat.reduceMul, Nat.reduceEqDiff, Go.Addr.add, ↓reduceIte] at hx133_0); (try simp only [show (1 : Int).toNat = 1 from rfl, Nat.reduceMul, Nat.reduceEqDiff, Go.Addr.add, ↓reduceIte] at hx133_1); have qi133 : (1 < t123.length) = True := eq_true (by omega); (try rw [show ((1 : Int)).toNat = 1 from rfl] at hx133_0); (try rw [show 1 * 2 = 2 from rfl] at hx133_0); (try rw [show ((1 : Int)).toNat = 1 from rfl] at hx133_1); (try rw [show 1 * 2 = 2 from rfl] at hx133_1); replace p133 := eq_true p133; replace q133 := eq_true q133) | (go_at_call 6; (with_reducible refine (scan_PrintCode.calls k 1114111 t134 _ A14.out).mono ?_); rintro e w' ⟨rfl, ⟨nd, rfl⟩⟩))
                        go_ret
                        exact ⟨by first | rfl | (simp [errW_none, errW_some] <;> rfl) | (simp [*, errW_none, errW_some] <;> rfl), by repeat (first | (with_reducible first | exact HB.out | apply below_alloc | apply pw_below_drewN | apply below_drew1) | exact HB.out)⟩
                    · rw [if_neg c13] at H
                      have c13b0 : (t130 == (-7)) = false := beq_eq_false_iff_ne.mpr c13
                      have c13b1 : (t130 != (-7)) = true := bne_iff_ne.mpr c13
                      obtain rfl := Option.some.inj H
                      go_enter Tryd.func5, Tryd.ntmps5
                      go_wp2_with (first | ((with_reducible refine gate_callee (f := 15) rfl ?_); refine goesL_ (some 9) rfl rfl Tryd.func15 (by kernel_rfl) rfl #[.string (⟨#[32, 97, 32, 32, 98, 35, 99]⟩ : ByteArray)] rfl (by (try simp only [List.map_toArray, List.map_cons, List.map_nil]); first | done | rfl | (simp only [List.length_drop, List.length_take]; rfl)) ?_; (with_reducible refine (scan_Words.calls k (⟨#[32, 97, 32, 32, 98, 35, 99]⟩ : ByteArray) t123 t124 _ A1.out).mono ?_); rintro e w29 ⟨v125, rfl, ho0, hb⟩; refine ⟨_, rfl, ?_⟩; have n0_ := Aside0.mk (Kd.R_lower ho0 (below_size (by repeat (first | (with_reducible first | exact HB.out | apply below_alloc | apply pw_below_drewN | apply below_drew1) | exact HB.out)))); have n1_ := Aside0.mk (below_step (by repeat (first | (with_reducible first | exact HB.out | apply below_alloc | apply pw_below_drewN | apply below_drew1) | exact HB.out)) hb); clear HB; have HO126 := n0_; have HB := n1_; clear n0_ n1_; (try clear hb); (try clear hb2); (try clear hk); (try clear hi); (try clear ho0)) | ((with_reducible refine gate_callee (f := 13) rfl ?_); refine goesL_ (some 13) rfl rfl Tryd.func13 (by kernel_rfl) rfl #[.string (⟨#[52, 49, 46, 46, 53, 65]⟩ : ByteArray)] rfl (by (try simp only [List.map_toArray, List.map_cons, List.map_nil]); first | done | rfl | (simp only [List.length_drop, List.length_take]; rfl)) ?_; (with_reducible refine (scan_Span.calls k (⟨#[52, 49, 46, 46, 53, 65]⟩ : ByteArray) t127 t128 true _ A2.out).mono ?_); rintro e w' ⟨rfl, ⟨nd, rfl⟩⟩; refine ⟨_, rfl, ?_⟩) | ((with_reducible refine gate_callee (f := 14) rfl ?_); refine goesL_ (some 18) rfl rfl Tryd.func14 (by kernel_rfl) rfl #[.string (⟨#[45, 55]⟩ : ByteArray)] rfl (by (try simp only [List.map_toArray, List.map_cons, List.map_nil]); first | done | rfl | (simp only [List.length_drop, List.length_take]; rfl)) ?_; (with_reducible refine (scan_Whole.calls k (⟨#[45, 55]⟩ : ByteArray) t130 true _ A3.out).mono ?_); rintro e w' ⟨rfl, ⟨nd, rfl⟩⟩; refine ⟨_, rfl, ?_⟩; obtain ⟨Ao30, co30, eo30⟩ := Kd.R_slice HO126.out; subst eo30; have p132 : 0 ≤ (1 : Int) := (by omega); have q132 : 1 < (t123.length : Int) := of_decide_eq_true (by first | (with_reducible assumption) | assumption); obtain ⟨ad132, e132, hx132_0, hx132_1⟩ := at_T38 (Kd.R_reads' HO126.out).2.2 1 p132 q132; cases e132; (try simp only [show (1 : Int).toNat = 1 from rfl, Nat.reduceMul, Nat.reduceEqDiff, Go.Addr.add, ↓reduceIte] at hx132_0); (try simp only [show (1 : Int).toNat = 1 from rfl, Nat.reduceMul, Nat.reduceEqDiff, Go.Addr.add, ↓reduceIte] at hx132_1); have qi132 : (1 < t123.length) = True := eq_true (by omega); (try rw [show ((1 : Int)).toNat = 1 from rfl] at hx132_0); (try rw [show 1 * 2 = 2 from rfl] at hx132_0); (try rw [show ((1 : Int)).toNat = 1 from rfl] at hx132_1); (try rw [show 1 * 2 = 2 from rfl] at hx132_1); replace p132 := eq_true p132; replace q132 := eq_true q132; have p133 : 0 ≤ (1 : Int) := (by omega); have q133 : 1 < (t123.length : Int) := of_decide_eq_true (by first | (with_reducible assumption) | assumption); obtain ⟨ad133, e133, hx133_0, hx133_1⟩ := at_T38 (Kd.R_reads' HO126.out).2.2 1 p133 q133; obtain rfl : ad132 = ad133 := (by injection e133); (try simp only [show (1 : Int).toNat = 1 from rfl, Nat.reduceMul, Nat.reduceEqDiff, Go.Addr.add, ↓reduceIte] at hx133_0); (try simp only [show (1 : Int).toNat = 1 from rfl, Nat.reduceMul, Nat.reduceEqDiff, Go.Addr.add, ↓reduceIte] at hx133_1); have qi133 : (1 < t123.length) = True := eq_true (by omega); (try rw [show ((1 : Int)).toNat = 1 from rfl] at hx133_0); (try rw [show 1 * 2 = 2 from rfl] at hx133_0); (try rw [show ((1 : Int)).toNat = 1 from rfl] at hx133_1); (try rw [show 1 * 2 = 2 from rfl] at hx133_1); replace p133 := eq_true p133; replace q133 := eq_true q133))
                      go_ret
                      exact ⟨by first | rfl | (simp [errW_none, errW_some] <;> rfl) | (simp [*, errW_none, errW_some] <;> rfl), by repeat (first | (with_reducible first | exact HB.out | apply below_alloc | apply pw_below_drewN | apply below_drew1) | exact HB.out)⟩
                  · replace c12 := Bool.eq_false_iff.mpr c12
                    subst c12
                    have H1 : (some false) = some r := by rw [if_neg (show ¬ (false = true) by decide)] at H; exact H
                    clear H
                    have H := H1
                    clear H1
                    obtain rfl := Option.some.inj H
                    go_enter Tryd.func5, Tryd.ntmps5
                    go_wp2_with (first | ((with_reducible refine gate_callee (f := 15) rfl ?_); refine goesL_ (some 9) rfl rfl Tryd.func15 (by kernel_rfl) rfl #[.string (⟨#[32, 97, 32, 32, 98, 35, 99]⟩ : ByteArray)] rfl (by (try simp only [List.map_toArray, List.map_cons, List.map_nil]); first | done | rfl | (simp only [List.length_drop, List.length_take]; rfl)) ?_; (with_reducible refine (scan_Words.calls k (⟨#[32, 97, 32, 32, 98, 35, 99]⟩ : ByteArray) t123 t124 _ A1.out).mono ?_); rintro e w31 ⟨v125, rfl, ho0, hb⟩; refine ⟨_, rfl, ?_⟩; have n0_ := Aside0.mk (Kd.R_lower ho0 (below_size (by repeat (first | (with_reducible first | exact HB.out | apply below_alloc | apply pw_below_drewN | apply below_drew1) | exact HB.out)))); have n1_ := Aside0.mk (below_step (by repeat (first | (with_reducible first | exact HB.out | apply below_alloc | apply pw_below_drewN | apply below_drew1) | exact HB.out)) hb); clear HB; have HO126 := n0_; have HB := n1_; clear n0_ n1_; (try clear hb); (try clear hb2); (try clear hk); (try clear hi); (try clear ho0)) | ((with_reducible refine gate_callee (f := 13) rfl ?_); refine goesL_ (some 13) rfl rfl Tryd.func13 (by kernel_rfl) rfl #[.string (⟨#[52, 49, 46, 46, 53, 65]⟩ : ByteArray)] rfl (by (try simp only [List.map_toArray, List.map_cons, List.map_nil]); first | done | rfl | (simp only [List.length_drop, List.length_take]; rfl)) ?_; (with_reducible refine (scan_Span.calls k (⟨#[52, 49, 46, 46, 53, 65]⟩ : ByteArray) t127 t128 true _ A2.out).mono ?_); rintro e w' ⟨rfl, ⟨nd, rfl⟩⟩; refine ⟨_, rfl, ?_⟩) | ((with_reducible refine gate_callee (f := 14) rfl ?_); refine goesL_ (some 18) rfl rfl Tryd.func14 (by kernel_rfl) rfl #[.string (⟨#[45, 55]⟩ : ByteArray)] rfl (by (try simp only [List.map_toArray, List.map_cons, List.map_nil]); first | done | rfl | (simp only [List.length_drop, List.length_take]; rfl)) ?_; (with_reducible refine (scan_Whole.calls k (⟨#[45, 55]⟩ : ByteArray) t130 false _ A3.out).mono ?_); rintro e w' ⟨rfl, ⟨nd, rfl⟩⟩; refine ⟨_, rfl, ?_⟩; obtain ⟨Ao32, co32, eo32⟩ := Kd.R_slice HO126.out; subst eo32; have p132 : 0 ≤ (1 : Int) := (by omega); have q132 : 1 < (t123.length : Int) := of_decide_eq_true (by first | (with_reducible assumption) | assumption); obtain ⟨ad132, e132, hx132_0, hx132_1⟩ := at_T38 (Kd.R_reads' HO126.out).2.2 1 p132 q132; cases e132; (try simp only [show (1 : Int).toNat = 1 from rfl, Nat.reduceMul, Nat.reduceEqDiff, Go.Addr.add, ↓reduceIte] at hx132_0); (try simp only [show (1 : Int).toNat = 1 from rfl, Nat.reduceMul, Nat.reduceEqDiff, Go.Addr.add, ↓reduceIte] at hx132_1); have qi132 : (1 < t123.length) = True := eq_true (by omega); (try rw [show ((1 : Int)).toNat = 1 from rfl] at hx132_0); (try rw [show 1 * 2 = 2 from rfl] at hx132_0); (try rw [show ((1 : Int)).toNat = 1 from rfl] at hx132_1); (try rw [show 1 * 2 = 2 from rfl] at hx132_1); replace p132 := eq_true p132; replace q132 := eq_true q132; have p133 : 0 ≤ (1 : Int) := (by omega); have q133 : 1 < (t123.length : Int) := of_decide_eq_true (by first | (with_reducible assumption) | assumption); obtain ⟨ad133, e133, hx133_0, hx133_1⟩ := at_T38 (Kd.R_reads' HO126.out).2.2 1 p133 q133; obtain rfl : ad132 = ad133 := (by injection e133); (try simp only [show (1 : Int).toNat = 1 from rfl, Nat.reduceMul, Nat.reduceEqDiff, Go.Addr.add, ↓reduceIte] at hx133_0); (try simp only [show (1 : Int).toNat = 1 from rfl, Nat.reduceMul, Nat.reduceEqDiff, Go.Addr.add, ↓reduceIte] at hx133_1); have qi133 : (1 < t123.length) = True := eq_true (by omega); (try rw [show ((1 : Int)).toNat = 1 from rfl] at hx133_0); (try rw [show 1 * 2 = 2 from rfl] at hx133_0); (try rw [show ((1 : Int)).toNat = 1 from rfl] at hx133_1); (try rw [show 1 * 2 = 2 from rfl] at hx133_1); replace p133 := eq_true p133; replace q133 := eq_true q133))
                    go_ret
                    exact ⟨by first | rfl | (simp [errW_none, errW_some] <;> rfl) | (simp [*, errW_none, errW_some] <;> rfl), by repeat (first | (with_reducible first | exact HB.out | apply below_alloc | apply pw_below_drewN | apply below_drew1) | exact HB.out)⟩
                · rw [if_neg c11] at H
                  have c11b0 : (t128 == 90) = false := beq_eq_false_iff_ne.mpr c11
                  have c11b1 : (t128 != 90) = true := bne_iff_ne.mpr c11
                  obtain rfl := Option.some.inj H
                  go_enter Tryd.func5, Tryd.ntmps5
                  go_wp2_with (first | ((with_reducible refine gate_callee (f := 15) rfl ?_); refine goesL_ (some 9) rfl rfl Tryd.func15 (by kernel_rfl) rfl #[.string (⟨#[32, 97, 32, 32, 98, 35, 99]⟩ : ByteArray)] rfl (by (try simp only [List.map_toArray, List.map_cons, List.map_nil]); first | done | rfl | (simp only [List.length_drop, List.length_take]; rfl)) ?_; (with_reducible refine (scan_Words.calls k (⟨#[32, 97, 32, 32, 98, 35, 99]⟩ : ByteArray) t123 t124 _ A1.out).mono ?_); rintro e w33 ⟨v125, rfl, ho0, hb⟩; refine ⟨_, rfl, ?_⟩; have n0_ := Aside0.mk (Kd.R_lower ho0 (below_size (by repeat (first | (with_reducible first | exact HB.out | apply below_alloc | apply pw_below_drewN | apply below_drew1) | exact HB.out)))); have n1_ := Aside0.mk (below_step (by repeat (first | (with_reducible first | exact HB.out | apply below_alloc | apply pw_below_drewN | apply below_drew1) | exact HB.out)) hb); clear HB; have HO126 := n0_; have HB := n1_; clear n0_ n1_; (try clear hb); (try clear hb2); (try clear hk); (try clear hi); (try clear ho0)) | ((with_reducible refine gate_callee (f := 13) rfl ?_); refine goesL_ (some 13) rfl rfl Tryd.func13 (by kernel_rfl) rfl #[.string (⟨#[52, 49, 46, 46, 53, 65]⟩ : ByteArray)] rfl (by (try simp only [List.map_toArray, List.map_cons, List.map_nil]); first | done | rfl | (simp only [List.length_drop, List.length_take]; rfl)) ?_; (with_reducible refine (scan_Span.calls k (⟨#[52, 49, 46, 46, 53, 65]⟩ : ByteArray) t127 t128 true _ A2.out).mono ?_); rintro e w' ⟨rfl, ⟨nd, rfl⟩⟩; refine ⟨_, rfl, ?_⟩) | ((with_reducible refine gate_callee (f := 14) rfl ?_); refine goesL_ (some 18) rfl rfl Tryd.func14 (by kernel_rfl) rfl #[.string (⟨#[45, 55]⟩ : ByteArray)] rfl (by (try simp only [List.map_toArray, List.map_cons, List.map_nil]); first | done | rfl | (simp only [List.length_drop, List.length_take]; rfl)) ?_; (with_reducible refine (scan_Whole.calls k (⟨#[45, 55]⟩ : ByteArray) t130 t131 _ A3.out).mono ?_); rintro e w' ⟨rfl, ⟨nd, rfl⟩⟩; refine ⟨_, rfl, ?_⟩; obtain ⟨Ao34, co34, eo34⟩ := Kd.R_slice HO126.out; subst eo34; have p132 : 0 ≤ (1 : Int) := (by omega); have q132 : 1 < (t123.length : Int) := of_decide_eq_true (by first | (with_reducible assumption) | assumption); obtain ⟨ad132, e132, hx132_0, hx132_1⟩ := at_T38 (Kd.R_reads' HO126.out).2.2 1 p132 q132; cases e132; (try simp only [show (1 : Int).toNat = 1 from rfl, Nat.reduceMul, Nat.reduceEqDiff, Go.Addr.add, ↓reduceIte] at hx132_0); (try simp only [show (1 : Int).toNat = 1 from rfl, Nat.reduceMul, Nat.reduceEqDiff, Go.Addr.add, ↓reduceIte] at hx132_1); have qi132 : (1 < t123.length) = True := eq_true (by omega); (try rw [show ((1 : Int)).toNat = 1 from rfl] at hx132_0); (try rw [show 1 * 2 = 2 from rfl] at hx132_0); (try rw [show ((1 : Int)).toNat = 1 from rfl] at hx132_1); (try rw [show 1 * 2 = 2 from rfl] at hx132_1); replace p132 := eq_true p132; replace q132 := eq_true q132; have p133 : 0 ≤ (1 : Int) := (by omega); have q133 : 1 < (t123.length : Int) := of_decide_eq_true (by first | (with_reducible assumption) | assumption); obtain ⟨ad133, e133, hx133_0, hx133_1⟩ := at_T38 (Kd.R_reads' HO126.out).2.2 1 p133 q133; obtain rfl : ad132 = ad133 := (by injection e133); (try simp only [show (1 : Int).toNat = 1 from rfl, Nat.reduceMul, Nat.reduceEqDiff, Go.Addr.add, ↓reduceIte] at hx133_0); (try simp only [show (1 : Int).toNat = 1 from rfl, Nat.reduceMul, Nat.reduceEqDiff, Go.Addr.add, ↓reduceIte] at hx133_1); have qi133 : (1 < t123.length) = True := eq_true (by omega); (try rw [show ((1 : Int)).toNat = 1 from rfl] at hx133_0); (try rw [show 1 * 2 = 2 from rfl] at hx133_0); (try rw [show ((1 : Int)).toNat = 1 from rfl] at hx133_1); (try rw [show 1 * 2 = 2 from rfl] at hx133_1); replace p133 := eq_true p133; replace q133 := eq_true q133))
                  go_ret
                  exact ⟨by first | rfl | (simp [errW_none, errW_some] <;> rfl) | (simp [*, errW_none, errW_some] <;> rfl), by repeat (first | (with_reducible first | exact HB.out | apply below_alloc | apply pw_below_drewN | apply below_drew1) | exact HB.out)⟩
              · rw [if_neg c10] at H
                have c10b0 : (t127 == 65) = false := beq_eq_false_iff_ne.mpr c10
                have c10b1 : (t127 != 65) = true := bne_iff_ne.mpr c10
                obtain rfl := Option.some.inj H
                go_enter Tryd.func5, Tryd.ntmps5
                go_wp2_with (first | ((with_reducible refine gate_callee (f := 15) rfl ?_); refine goesL_ (some 9) rfl rfl Tryd.func15 (by kernel_rfl) rfl #[.string (⟨#[32, 97, 32, 32, 98, 35, 99]⟩ : ByteArray)] rfl (by (try simp only [List.map_toArray, List.map_cons, List.map_nil]); first | done | rfl | (simp only [List.length_drop, List.length_take]; rfl)) ?_; (with_reducible refine (scan_Words.calls k (⟨#[32, 97, 32, 32, 98, 35, 99]⟩ : ByteArray) t123 t124 _ A1.out).mono ?_); rintro e w35 ⟨v125, rfl, ho0, hb⟩; refine ⟨_, rfl, ?_⟩; have n0_ := Aside0.mk (Kd.R_lower ho0 (below_size (by repeat (first | (with_reducible first | exact HB.out | apply below_alloc | apply pw_below_drewN | apply below_drew1) | exact HB.out)))); have n1_ := Aside0.mk (below_step (by repeat (first | (with_reducible first | exact HB.out | apply below_alloc | apply pw_below_drewN | apply below_drew1) | exact HB.out)) hb); clear HB; have HO126 := n0_; have HB := n1_; clear n0_ n1_; (try clear hb); (try clear hb2); (try clear hk); (try clear hi); (try clear ho0)) | ((with_reducible refine gate_callee (f := 13) rfl ?_); refine goesL_ (some 13) rfl rfl Tryd.func13 (by kernel_rfl) rfl #[.string (⟨#[52, 49, 46, 46, 53, 65]⟩ : ByteArray)] rfl (by (try simp only [List.map_toArray, List.map_cons, List.map_nil]); first | done | rfl | (simp only [List.length_drop, List.length_take]; rfl)) ?_; (with_reducible refine (scan_Span.calls k (⟨#[52, 49, 46, 46, 53, 65]⟩ : ByteArray) t127 t128 true _ A2.out).mono ?_); rintro e w' ⟨rfl, ⟨nd, rfl⟩⟩; refine ⟨_, rfl, ?_⟩) | ((with_reducible refine gate_callee (f := 14) rfl ?_); refine goesL_ (some 18) rfl rfl Tryd.func14 (by kernel_rfl) rfl #[.string (⟨#[45, 55]⟩ : ByteArray)] rfl (by (try simp only [List.map_toArray, List.map_cons, List.map_nil]); first | done | rfl | (simp only [List.length_drop, List.length_take]; rfl)) ?_; (with_reducible refine (scan_Whole.calls k (⟨#[45, 55]⟩ : ByteArray) t130 t131 _ A3.out).mono ?_); rintro e w' ⟨rfl, ⟨nd, rfl⟩⟩; refine ⟨_, rfl, ?_⟩; obtain ⟨Ao36, co36, eo36⟩ := Kd.R_slice HO126.out; subst eo36; have p132 : 0 ≤ (1 : Int) := (by omega); have q132 : 1 < (t123.length : Int) := of_decide_eq_true (by first | (with_reducible assumption) | assumption); obtain ⟨ad132, e132, hx132_0, hx132_1⟩ := at_T38 (Kd.R_reads' HO126.out).2.2 1 p132 q132; cases e132; (try simp only [show (1 : Int).toNat = 1 from rfl, Nat.reduceMul, Nat.reduceEqDiff, Go.Addr.add, ↓reduceIte] at hx132_0); (try simp only [show (1 : Int).toNat = 1 from rfl, Nat.reduceMul, Nat.reduceEqDiff, Go.Addr.add, ↓reduceIte] at hx132_1); have qi132 : (1 < t123.length) = True := eq_true (by omega); (try rw [show ((1 : Int)).toNat = 1 from rfl] at hx132_0); (try rw [show 1 * 2 = 2 from rfl] at hx132_0); (try rw [show ((1 : Int)).toNat = 1 from rfl] at hx132_1); (try rw [show 1 * 2 = 2 from rfl] at hx132_1); replace p132 := eq_true p132; replace q132 := eq_true q132; have p133 : 0 ≤ (1 : Int) := (by omega); have q133 : 1 < (t123.length : Int) := of_decide_eq_true (by first | (with_reducible assumption) | assumption); obtain ⟨ad133, e133, hx133_0, hx133_1⟩ := at_T38 (Kd.R_reads' HO126.out).2.2 1 p133 q133; obtain rfl : ad132 = ad133 := (by injection e133); (try simp only [show (1 : Int).toNat = 1 from rfl, Nat.reduceMul, Nat.reduceEqDiff, Go.Addr.add, ↓reduceIte] at hx133_0); (try simp only [show (1 : Int).toNat = 1 from rfl, Nat.reduceMul, Nat.reduceEqDiff, Go.Addr.add, ↓reduceIte] at hx133_1); have qi133 : (1 < t123.length) = True := eq_true (by omega); (try rw [show ((1 : Int)).toNat = 1 from rfl] at hx133_0); (try rw [show 1 * 2 = 2 from rfl] at hx133_0); (try rw [show ((1 : Int)).toNat = 1 from rfl] at hx133_1); (try rw [show 1 * 2 = 2 from rfl] at hx133_1); replace p133 := eq_true p133; replace q133 := eq_true q133))
                go_ret
                exact ⟨by first | rfl | (simp [errW_none, errW_some] <;> rfl) | (simp [*, errW_none, errW_some] <;> rfl), by repeat (first | (with_reducible first | exact HB.out | apply below_alloc | apply pw_below_drewN | apply below_drew1) | exact HB.out)⟩
            · replace c9 := Bool.eq_false_iff.mpr c9
              subst c9
              have H1 : (some false) = some r := by rw [if_neg (show ¬ (false = true) by decide)] at H; exact H
              clear H
              have H := H1
              clear H1
              obtain rfl := Option.some.inj H
              go_enter Tryd.func5, Tryd.ntmps5
              go_wp2_with (first | ((with_reducible refine gate_callee (f := 15) rfl ?_); refine goesL_ (some 9) rfl rfl Tryd.func15 (by kernel_rfl) rfl #[.string (⟨#[32, 97, 32, 32, 98, 35, 99]⟩ : ByteArray)] rfl (by (try simp only [List.map_toArray, List.map_cons, List.map_nil]); first | done | rfl | (simp only [List.length_drop, List.length_take]; rfl)) ?_; (with_reducible refine (scan_Words.calls k (⟨#[32, 97, 32, 32, 98, 35, 99]⟩ : ByteArray) t123 t124 _ A1.out).mono ?_); rintro e w37 ⟨v125, rfl, ho0, hb⟩; refine ⟨_, rfl, ?_⟩; have n0_ := Aside0.mk (Kd.R_lower ho0 (below_size (by repeat (first | (with_reducible first | exact HB.out | apply below_alloc | apply pw_below_drewN | apply below_drew1) | exact HB.out)))); have n1_ := Aside0.mk (below_step (by repeat (first | (with_reducible first | exact HB.out | apply below_alloc | apply pw_below_drewN | apply below_drew1) | exact HB.out)) hb); clear HB; have HO126 := n0_; have HB := n1_; clear n0_ n1_; (try clear hb); (try clear hb2); (try clear hk); (try clear hi); (try clear ho0)) | ((with_reducible refine gate_callee (f := 13) rfl ?_); refine goesL_ (some 13) rfl rfl Tryd.func13 (by kernel_rfl) rfl #[.string (⟨#[52, 49, 46, 46, 53, 65]⟩ : ByteArray)] rfl (by (try simp only [List.map_toArray, List.map_cons, List.map_nil]); first | done | rfl | (simp only [List.length_drop, List.length_take]; rfl)) ?_; (with_reducible refine (scan_Span.calls k (⟨#[52, 49, 46, 46, 53, 65]⟩ : ByteArray) t127 t128 false _ A2.out).mono ?_); rintro e w' ⟨rfl, ⟨nd, rfl⟩⟩; refine ⟨_, rfl, ?_⟩) | ((with_reducible refine gate_callee (f := 14) rfl ?_); refine goesL_ (some 18) rfl rfl Tryd.func14 (by kernel_rfl) rfl #[.string (⟨#[45, 55]⟩ : ByteArray)] rfl (by (try simp only [List.map_toArray, List.map_cons, List.map_nil]); first | done | rfl | (simp only [List.length_drop, List.length_take]; rfl)) ?_; (with_reducible refine (scan_Whole.calls k (⟨#[45, 55]⟩ : ByteArray) t130 t131 _ A3.out).mono ?_); rintro e w' ⟨rfl, ⟨nd, rfl⟩⟩; refine ⟨_, rfl, ?_⟩; obtain ⟨Ao38, co38, eo38⟩ := Kd.R_slice HO126.out; subst eo38; have p132 : 0 ≤ (1 : Int) := (by omega); have q132 : 1 < (t123.length : Int) := of_decide_eq_true (by first | (with_reducible assumption) | assumption); obtain ⟨ad132, e132, hx132_0, hx132_1⟩ := at_T38 (Kd.R_reads' HO126.out).2.2 1 p132 q132; cases e132; (try simp only [show (1 : Int).toNat = 1 from rfl, Nat.reduceMul, Nat.reduceEqDiff, Go.Addr.add, ↓reduceIte] at hx132_0); (try simp only [show (1 : Int).toNat = 1 from rfl, Nat.reduceMul, Nat.reduceEqDiff, Go.Addr.add, ↓reduceIte] at hx132_1); have qi132 : (1 < t123.length) = True := eq_true (by omega); (try rw [show ((1 : Int)).toNat = 1 from rfl] at hx132_0); (try rw [show 1 * 2 = 2 from rfl] at hx132_0); (try rw [show ((1 : Int)).toNat = 1 from rfl] at hx132_1); (try rw [show 1 * 2 = 2 from rfl] at hx132_1); replace p132 := eq_true p132; replace q132 := eq_true q132; have p133 : 0 ≤ (1 : Int) := (by omega); have q133 : 1 < (t123.length : Int) := of_decide_eq_true (by first | (with_reducible assumption) | assumption); obtain ⟨ad133, e133, hx133_0, hx133_1⟩ := at_T38 (Kd.R_reads' HO126.out).2.2 1 p133 q133; obtain rfl : ad132 = ad133 := (by injection e133); (try simp only [show (1 : Int).toNat = 1 from rfl, Nat.reduceMul, Nat.reduceEqDiff, Go.Addr.add, ↓reduceIte] at hx133_0); (try simp only [show (1 : Int).toNat = 1 from rfl, Nat.reduceMul, Nat.reduceEqDiff, Go.Addr.add, ↓reduceIte] at hx133_1); have qi133 : (1 < t123.length) = True := eq_true (by omega); (try rw [show ((1 : Int)).toNat = 1 from rfl] at hx133_0); (try rw [show 1 * 2 = 2 from rfl] at hx133_0); (try rw [show ((1 : Int)).toNat = 1 from rfl] at hx133_1); (try rw [show 1 * 2 = 2 from rfl] at hx133_1); replace p133 := eq_true p133; replace q133 := eq_true q133))
              go_ret
              exact ⟨by first | rfl | (simp [errW_none, errW_some] <;> rfl) | (simp [*, errW_none, errW_some] <;> rfl), by repeat (first | (with_reducible first | exact HB.out | apply below_alloc | apply pw_below_drewN | apply below_drew1) | exact HB.out)⟩
          · rw [if_neg c8] at H
            have c8b0 : (t124 == 5) = false := beq_eq_false_iff_ne.mpr c8
            have c8b1 : (t124 != 5) = true := bne_iff_ne.mpr c8
            obtain rfl := Option.some.inj H
            go_enter Tryd.func5, Tryd.ntmps5
            go_wp2_with (first | ((with_reducible refine gate_callee (f := 15) rfl ?_); refine goesL_ (some 9) rfl rfl Tryd.func15 (by kernel_rfl) rfl #[.string (⟨#[32, 97, 32, 32, 98, 35, 99]⟩ : ByteArray)] rfl (by (try simp only [List.map_toArray, List.map_cons, List.map_nil]); first | done | rfl | (simp only [List.length_drop, List.length_take]; rfl)) ?_; (with_reducible refine (scan_Words.calls k (⟨#[32, 97, 32, 32, 98, 35, 99]⟩ : ByteArray) t123 t124 _ A1.out).mono ?_); rintro e w39 ⟨v125, rfl, ho0, hb⟩; refine ⟨_, rfl, ?_⟩; have n0_ := Aside0.mk (Kd.R_lower ho0 (below_size (by repeat (first | (with_reducible first | exact HB.out | apply below_alloc | apply pw_below_drewN | apply below_drew1) | exact HB.out)))); have n1_ := Aside0.mk (below_step (by repeat (first | (with_reducible first | exact HB.out | apply below_alloc | apply pw_below_drewN | apply below_drew1) | exact HB.out)) hb); clear HB; have HO126 := n0_; have HB := n1_; clear n0_ n1_; (try clear hb); (try clear hb2); (try clear hk); (try clear hi); (try clear ho0)) | ((with_reducible refine gate_callee (f := 13) rfl ?_); refine goesL_ (some 13) rfl rfl Tryd.func13 (by kernel_rfl) rfl #[.string (⟨#[52, 49, 46, 46, 53, 65]⟩ : ByteArray)] rfl (by (try simp only [List.map_toArray, List.map_cons, List.map_nil]); first | done | rfl | (simp only [List.length_drop, List.length_take]; rfl)) ?_; (with_reducible refine (scan_Span.calls k (⟨#[52, 49, 46, 46, 53, 65]⟩ : ByteArray) t127 t128 t129 _ A2.out).mono ?_); rintro e w' ⟨rfl, ⟨nd, rfl⟩⟩; refine ⟨_, rfl, ?_⟩) | ((with_reducible refine gate_callee (f := 14) rfl ?_); refine goesL_ (some 18) rfl rfl Tryd.func14 (by kernel_rfl) rfl #[.string (⟨#[45, 55]⟩ : ByteArray)] rfl (by (try simp only [List.map_toArray, List.map_cons, List.map_nil]); first | done | rfl | (simp only [List.length_drop, List.length_take]; rfl)) ?_; (with_reducible refine (scan_Whole.calls k (⟨#[45, 55]⟩ : ByteArray) t130 t131 _ A3.out).mono ?_); rintro e w' ⟨rfl, ⟨nd, rfl⟩⟩; refine ⟨_, rfl, ?_⟩; obtain ⟨Ao40, co40, eo40⟩ := Kd.R_slice HO126.out; subst eo40; have p132 : 0 ≤ (1 : Int) := (by omega); have q132 : 1 < (t123.length : Int) := of_decide_eq_true (by first | (with_reducible assumption) | assumption); obtain ⟨ad132, e132, hx132_0, hx132_1⟩ := at_T38 (Kd.R_reads' HO126.out).2.2 1 p132 q132; cases e132; (try simp only [show (1 : Int).toNat = 1 from rfl, Nat.reduceMul, Nat.reduceEqDiff, Go.Addr.add, ↓reduceIte] at hx132_0); (try simp only [show (1 : Int).toNat = 1 from rfl, Nat.reduceMul, Nat.reduceEqDiff, Go.Addr.add, ↓reduceIte] at hx132_1); have qi132 : (1 < t123.length) = True := eq_true (by omega); (try rw [show ((1 : Int)).toNat = 1 from rfl] at hx132_0); (try rw [show 1 * 2 = 2 from rfl] at hx132_0); (try rw [show ((1 : Int)).toNat = 1 from rfl] at hx132_1); (try rw [show 1 * 2 = 2 from rfl] at hx132_1); replace p132 := eq_true p132; replace q132 := eq_true q132; have p133 : 0 ≤ (1 : Int) := (by omega); have q133 : 1 < (t123.length : Int) := of_decide_eq_true (by first | (with_reducible assumption) | assumption); obtain ⟨ad133, e133, hx133_0, hx133_1⟩ := at_T38 (Kd.R_reads' HO126.out).2.2 1 p133 q133; obtain rfl : ad132 = ad133 := (by injection e133); (try simp only [show (1 : Int).toNat = 1 from rfl, Nat.reduceMul, Nat.reduceEqDiff, Go.Addr.add, ↓reduceIte] at hx133_0); (try simp only [show (1 : Int).toNat = 1 from rfl, Nat.reduceMul, Nat.reduceEqDiff, Go.Addr.add, ↓reduceIte] at hx133_1); have qi133 : (1 < t123.length) = True := eq_true (by omega); (try rw [show ((1 : Int)).toNat = 1 from rfl] at hx133_0); (try rw [show 1 * 2 = 2 from rfl] at hx133_0); (try rw [show ((1 : Int)).toNat = 1 from rfl] at hx133_1); (try rw [show 1 * 2 = 2 from rfl] at hx133_1); replace p133 := eq_true p133; replace q133 := eq_true q133))
            go_ret
            exact ⟨by first | rfl | (simp [errW_none, errW_some] <;> rfl) | (simp [*, errW_none, errW_some] <;> rfl), by repeat (first | (with_reducible first | exact HB.out | apply below_alloc | apply pw_below_drewN | apply below_drew1) | exact HB.out)⟩
        · rw [if_neg c7] at H
          have c7b0 : (((rd_T38 t123 1).f1) == 4) = false := beq_eq_false_iff_ne.mpr c7
          have c7b1 : (((rd_T38 t123 1).f1) != 4) = true := bne_iff_ne.mpr c7
          obtain rfl := Option.some.inj H
          go_enter Tryd.func5, Tryd.ntmps5
          go_wp2_with (first | ((with_reducible refine gate_callee (f := 15) rfl ?_); refine goesL_ (some 9) rfl rfl Tryd.func15 (by kernel_rfl) rfl #[.string (⟨#[32, 97, 32, 32, 98, 35, 99]⟩ : ByteArray)] rfl (by (try simp only [List.map_toArray, List.map_cons, List.map_nil]); first | done | rfl | (simp only [List.length_drop, List.length_take]; rfl)) ?_; (with_reducible refine (scan_Words.calls k (⟨#[32, 97, 32, 32, 98, 35, 99]⟩ : ByteArray) t123 t124 _ A1.out).mono ?_); rintro e w41 ⟨v125, rfl, ho0, hb⟩; refine ⟨_, rfl, ?_⟩; have n0_ := Aside0.mk (Kd.R_lower ho0 (below_size (by repeat (first | (with_reducible first | exact HB.out | apply below_alloc | apply pw_below_drewN | apply below_drew1) | exact HB.out)))); have n1_ := Aside0.mk (below_step (by repeat (first | (with_reducible first | exact HB.out | apply below_alloc | apply pw_below_drewN | apply below_drew1) | exact HB.out)) hb); clear HB; have HO126 := n0_; have HB := n1_; clear n0_ n1_; (try clear hb); (try clear hb2); (try clear hk); (try clear hi); (try clear ho0)) | ((with_reducible refine gate_callee (f := 13) rfl ?_); refine goesL_ (some 13) rfl rfl Tryd.func13 (by kernel_rfl) rfl #[.string (⟨#[52, 49, 46, 46, 53, 65]⟩ : ByteArray)] rfl (by (try simp only [List.map_toArray, List.map_cons, List.map_nil]); first | done | rfl | (simp only [List.length_drop, List.length_take]; rfl)) ?_; (with_reducible refine (scan_Span.calls k (⟨#[52, 49, 46, 46, 53, 65]⟩ : ByteArray) t127 t128 t129 _ A2.out).mono ?_); rintro e w' ⟨rfl, ⟨nd, rfl⟩⟩; refine ⟨_, rfl, ?_⟩) | ((with_reducible refine gate_callee (f := 14) rfl ?_); refine goesL_ (some 18) rfl rfl Tryd.func14 (by kernel_rfl) rfl #[.string (⟨#[45, 55]⟩ : ByteArray)] rfl (by (try simp only [List.map_toArray, List.map_cons, List.map_nil]); first | done | rfl | (simp only [List.length_drop, List.length_take]; rfl)) ?_; (with_reducible refine (scan_Whole.calls k (⟨#[45, 55]⟩ : ByteArray) t130 t131 _ A3.out).mono ?_); rintro e w' ⟨rfl, ⟨nd, rfl⟩⟩; refine ⟨_, rfl, ?_⟩; obtain ⟨Ao42, co42, eo42⟩ := Kd.R_slice HO126.out; subst eo42; have p132 : 0 ≤ (1 : Int) := (by omega); have q132 : 1 < (t123.length : Int) := of_decide_eq_true (by first | (with_reducible assumption) | assumption); obtain ⟨ad132, e132, hx132_0, hx132_1⟩ := at_T38 (Kd.R_reads' HO126.out).2.2 1 p132 q132; cases e132; (try simp only [show (1 : Int).toNat = 1 from rfl, Nat.reduceMul, Nat.reduceEqDiff, Go.Addr.add, ↓reduceIte] at hx132_0); (try simp only [show (1 : Int).toNat = 1 from rfl, Nat.reduceMul, Nat.reduceEqDiff, Go.Addr.add, ↓reduceIte] at hx132_1); have qi132 : (1 < t123.length) = True := eq_true (by omega); (try rw [show ((1 : Int)).toNat = 1 from rfl] at hx132_0); (try rw [show 1 * 2 = 2 from rfl] at hx132_0); (try rw [show ((1 : Int)).toNat = 1 from rfl] at hx132_1); (try rw [show 1 * 2 = 2 from rfl] at hx132_1); replace p132 := eq_true p132; replace q132 := eq_true q132; have p133 : 0 ≤ (1 : Int) := (by omega); have q133 : 1 < (t123.length : Int) := of_decide_eq_true (by first | (with_reducible assumption) | assumption); obtain ⟨ad133, e133, hx133_0, hx133_1⟩ := at_T38 (Kd.R_reads' HO126.out).2.2 1 p133 q133; obtain rfl : ad132 = ad133 := (by injection e133); (try simp only [show (1 : Int).toNat = 1 from rfl, Nat.reduceMul, Nat.reduceEqDiff, Go.Addr.add, ↓reduceIte] at hx133_0); (try simp only [show (1 : Int).toNat = 1 from rfl, Nat.reduceMul, Nat.reduceEqDiff, Go.Addr.add, ↓reduceIte] at hx133_1); have qi133 : (1 < t123.length) = True := eq_true (by omega); (try rw [show ((1 : Int)).toNat = 1 from rfl] at hx133_0); (try rw [show 1 * 2 = 2 from rfl] at hx133_0); (try rw [show ((1 : Int)).toNat = 1 from rfl] at hx133_1); (try rw [show 1 * 2 = 2 from rfl] at hx133_1); replace p133 := eq_true p133; replace q133 := eq_true q133))
          go_ret
          exact ⟨by first | rfl | (simp [errW_none, errW_some] <;> rfl) | (simp [*, errW_none, errW_some] <;> rfl), by repeat (first | (with_reducible first | exact HB.out | apply below_alloc | apply pw_below_drewN | apply below_drew1) | exact HB.out)⟩
      · rw [if_neg c6] at H
        have c6b0 : (((rd_T38 t123 1).f0).toList == ([98] : List UInt8)) = false := beq_eq_false_iff_ne.mpr c6
        have c6b1 : (((rd_T38 t123 1).f0).toList != ([98] : List UInt8)) = true := bne_iff_ne.mpr c6
        obtain rfl := Option.some.inj H
        go_enter Tryd.func5, Tryd.ntmps5
        go_wp2_with (first | ((with_reducible refine gate_callee (f := 15) rfl ?_); refine goesL_ (some 9) rfl rfl Tryd.func15 (by kernel_rfl) rfl #[.string (⟨#[32, 97, 32, 32, 98, 35, 99]⟩ : ByteArray)] rfl (by (try simp only [List.map_toArray, List.map_cons, List.map_nil]); first | done | rfl | (simp only [List.length_drop, List.length_take]; rfl)) ?_; (with_reducible refine (scan_Words.calls k (⟨#[32, 97, 32, 32, 98, 35, 99]⟩ : ByteArray) t123 t124 _ A1.out).mono ?_); rintro e w43 ⟨v125, rfl, ho0, hb⟩; refine ⟨_, rfl, ?_⟩; have n0_ := Aside0.mk (Kd.R_lower ho0 (below_size (by repeat (first | (with_reducible first | exact HB.out | apply below_alloc | apply pw_below_drewN | apply below_drew1) | exact HB.out)))); have n1_ := Aside0.mk (below_step (by repeat (first | (with_reducible first | exact HB.out | apply below_alloc | apply pw_below_drewN | apply below_drew1) | exact HB.out)) hb); clear HB; have HO126 := n0_; have HB := n1_; clear n0_ n1_; (try clear hb); (try clear hb2); (try clear hk); (try clear hi); (try clear ho0)) | ((with_reducible refine gate_callee (f := 13) rfl ?_); refine goesL_ (some 13) rfl rfl Tryd.func13 (by kernel_rfl) rfl #[.string (⟨#[52, 49, 46, 46, 53, 65]⟩ : ByteArray)] rfl (by (try simp only [List.map_toArray, List.map_cons, List.map_nil]); first | done | rfl | (simp only [List.length_drop, List.length_take]; rfl)) ?_; (with_reducible refine (scan_Span.calls k (⟨#[52, 49, 46, 46, 53, 65]⟩ : ByteArray) t127 t128 t129 _ A2.out).mono ?_); rintro e w' ⟨rfl, ⟨nd, rfl⟩⟩; refine ⟨_, rfl, ?_⟩) | ((with_reducible refine gate_callee (f := 14) rfl ?_); refine goesL_ (some 18) rfl rfl Tryd.func14 (by kernel_rfl) rfl #[.string (⟨#[45, 55]⟩ : ByteArray)] rfl (by (try simp only [List.map_toArray, List.map_cons, List.map_nil]); first | done | rfl | (simp only [List.length_drop, List.length_take]; rfl)) ?_; (with_reducible refine (scan_Whole.calls k (⟨#[45, 55]⟩ : ByteArray) t130 t131 _ A3.out).mono ?_); rintro e w' ⟨rfl, ⟨nd, rfl⟩⟩; refine ⟨_, rfl, ?_⟩; obtain ⟨Ao44, co44, eo44⟩ := Kd.R_slice HO126.out; subst eo44; have p132 : 0 ≤ (1 : Int) := (by omega); have q132 : 1 < (t123.length : Int) := of_decide_eq_true (by first | (with_reducible assumption) | assumption); obtain ⟨ad132, e132, hx132_0, hx132_1⟩ := at_T38 (Kd.R_reads' HO126.out).2.2 1 p132 q132; cases e132; (try simp only [show (1 : Int).toNat = 1 from rfl, Nat.reduceMul, Nat.reduceEqDiff, Go.Addr.add, ↓reduceIte] at hx132_0); (try simp only [show (1 : Int).toNat = 1 from rfl, Nat.reduceMul, Nat.reduceEqDiff, Go.Addr.add, ↓reduceIte] at hx132_1); have qi132 : (1 < t123.length) = True := eq_true (by omega); (try rw [show ((1 : Int)).toNat = 1 from rfl] at hx132_0); (try rw [show 1 * 2 = 2 from rfl] at hx132_0); (try rw [show ((1 : Int)).toNat = 1 from rfl] at hx132_1); (try rw [show 1 * 2 = 2 from rfl] at hx132_1); replace p132 := eq_true p132; replace q132 := eq_true q132))
        go_ret
        exact ⟨by first | rfl | (simp [errW_none, errW_some] <;> rfl) | (simp [*, errW_none, errW_some] <;> rfl), by repeat (first | (with_reducible first | exact HB.out | apply below_alloc | apply pw_below_drewN | apply below_drew1) | exact HB.out)⟩
    · rw [if_neg c5] at H
      exact absurd H (by simp)
  · rw [if_neg c4] at H
    have c4b0 : ((t123.length : Int) == 2) = false := beq_eq_false_iff_ne.mpr c4
    have c4b1 : ((t123.length : Int) != 2) = true := bne_iff_ne.mpr c4
    obtain rfl := Option.some.inj H
    go_enter Tryd.func5, Tryd.ntmps5
    go_wp2_with (first | ((with_reducible refine gate_callee (f := 15) rfl ?_); refine goesL_ (some 9) rfl rfl Tryd.func15 (by kernel_rfl) rfl #[.string (⟨#[32, 97, 32, 32, 98, 35, 99]⟩ : ByteArray)] rfl (by (try simp only [List.map_toArray, List.map_cons, List.map_nil]); first | done | rfl | (simp only [List.length_drop, List.length_take]; rfl)) ?_; (with_reducible refine (scan_Words.calls k (⟨#[32, 97, 32, 32, 98, 35, 99]⟩ : ByteArray) t123 t124 _ A1.out).mono ?_); rintro e w45 ⟨v125, rfl, ho0, hb⟩; refine ⟨_, rfl, ?_⟩; have n0_ := Aside0.mk (Kd.R_lower ho0 (below_size (by repeat (first | (with_reducible first | exact HB.out | apply below_alloc | apply pw_below_drewN | apply below_drew1) | exact HB.out)))); have n1_ := Aside0.mk (below_step (by repeat (first | (with_reducible first | exact HB.out | apply below_alloc | apply pw_below_drewN | apply below_drew1) | exact HB.out)) hb); clear HB; have HO126 := n0_; have HB := n1_; clear n0_ n1_; (try clear hb); (try clear hb2); (try clear hk); (try clear hi); (try clear ho0)) | ((with_reducible refine gate_callee (f := 13) rfl ?_); refine goesL_ (some 13) rfl rfl Tryd.func13 (by kernel_rfl) rfl #[.string (⟨#[52, 49, 46, 46, 53, 65]⟩ : ByteArray)] rfl (by (try simp only [List.map_toArray, List.map_cons, List.map_nil]); first | done | rfl | (simp only [List.length_drop, List.length_take]; rfl)) ?_; (with_reducible refine (scan_Span.calls k (⟨#[52, 49, 46, 46, 53, 65]⟩ : ByteArray) t127 t128 t129 _ A2.out).mono ?_); rintro e w' ⟨rfl, ⟨nd, rfl⟩⟩; refine ⟨_, rfl, ?_⟩) | ((with_reducible refine gate_callee (f := 14) rfl ?_); refine goesL_ (some 18) rfl rfl Tryd.func14 (by kernel_rfl) rfl #[.string (⟨#[45, 55]⟩ : ByteArray)] rfl (by (try simp only [List.map_toArray, List.map_cons, List.map_nil]); first | done | rfl | (simp only [List.length_drop, List.length_take]; rfl)) ?_; (with_reducible refine (scan_Whole.calls k (⟨#[45, 55]⟩ : ByteArray) t130 t131 _ A3.out).mono ?_); rintro e w' ⟨rfl, ⟨nd, rfl⟩⟩; refine ⟨_, rfl, ?_⟩; obtain ⟨Ao46, co46, eo46⟩ := Kd.R_slice HO126.out; subst eo46))
    go_ret
    exact ⟨by first | rfl | (simp [errW_none, errW_some] <;> rfl) | (simp [*, errW_none, errW_some] <;> rfl), by repeat (first | (with_reducible first | exact HB.out | apply below_alloc | apply pw_below_drewN | apply below_drew1) | exact HB.out)⟩

/-! ### endonymref5_PrintCode: function 7 -/
mutual
def endonymref5_PrintCode.j0 : Nat → Int → Bool → Option (ByteArray)
  | 0, _, _ => none
  | k + 1, x0, x9 => if x9 = true then (some (⟨#[]⟩ : ByteArray)) else (endonymref5_PrintCode.l0 k x0 (⟨#[]⟩ : ByteArray))
def endonymref5_PrintCode.l0 : Nat → Int → ByteArray → Option (ByteArray)
  | 0, _, _ => none
  | k + 1, x0, x3 => if x0 > 0 then (if 0 ≤ (Int.tmod x0 16) then (if (Int.tmod x0 16) ≤ (wrap32 ((Int.tmod x0 16) + 1)) then (if (wrap32 ((Int.tmod x0 16) + 1)) ≤ 16 then (if ((⟨#[48, 49, 50, 51, 52, 53, 54, 55, 56, 57, 65, 66, 67, 68, 69, 70]⟩ : ByteArray).extract ((Int.tmod x0 16) : Int).toNat ((wrap32 ((Int.tmod x0 16) + 1)) : Int).toNat).size + x3.size ≤ 9223372036854775807 then (endonymref5_PrintCode.l0 k (wrap32 (Int.tdiv x0 16)) (((⟨#[48, 49, 50, 51, 52, 53, 54, 55, 56, 57, 65, 66, 67, 68, 69, 70]⟩ : ByteArray).extract ((Int.tmod x0 16) : Int).toNat ((wrap32 ((Int.tmod x0 16) + 1)) : Int).toNat) ++ x3)) else (none)) else (none)) else (none)) else (none)) else (if x3.toList = ([] : List UInt8) then (if 0 ≤ (Int.tmod x0 16) then (if (Int.tmod x0 16) ≤ (wrap32 ((Int.tmod x0 16) + 1)) then (if (wrap32 ((Int.tmod x0 16) + 1)) ≤ 16 then (if ((⟨#[48, 49, 50, 51, 52, 53, 54, 55, 56, 57, 65, 66, 67, 68, 69, 70]⟩ : ByteArray).extract ((Int.tmod x0 16) : Int).toNat ((wrap32 ((Int.tmod x0 16) + 1)) : Int).toNat).size + x3.size ≤ 9223372036854775807 then (endonymref5_PrintCode.l0 k (wrap32 (Int.tdiv x0 16)) (((⟨#[48, 49, 50, 51, 52, 53, 54, 55, 56, 57, 65, 66, 67, 68, 69, 70]⟩ : ByteArray).extract ((Int.tmod x0 16) : Int).toNat ((wrap32 ((Int.tmod x0 16) + 1)) : Int).toNat) ++ x3)) else (none)) else (none)) else (none)) else (none)) else (some x3))
end
def endonymref5_PrintCode.f (k : Nat) (a0 : Int) : Option (ByteArray) := if a0 < 0 then (endonymref5_PrintCode.j0 k a0 true) else (endonymref5_PrintCode.j0 k a0 (decide (a0 > 1114111)))
theorem endonymref5_PrintCode.mono_l : ∀ k, (∀ y0 y1, LeO (endonymref5_PrintCode.j0 k y0 y1) (endonymref5_PrintCode.j0 (k + 1) y0 y1)) ∧ (∀ y0 y1, LeO (endonymref5_PrintCode.l0 k y0 y1) (endonymref5_PrintCode.l0 (k + 1) y0 y1))
  | 0 => ⟨fun _ _ r h => by simp [endonymref5_PrintCode.j0] at h, fun _ _ r h => by simp [endonymref5_PrintCode.l0] at h⟩
  | k + 1 => by
    obtain ⟨ih0, ih1⟩ := endonymref5_PrintCode.mono_l k
    refine ⟨?_, ?_⟩
    · intro y0 y1
      unfold endonymref5_PrintCode.j0
      repeat' first
      | (with_reducible exact ih0 _ _)
      | (with_reducible exact ih1 _ _)
      | (with_reducible exact LeO.refl _)
      | (with_reducible exact LeO.none _)
      | (with_reducible refine LeO.ite ?_ ?_)
      | (with_reducible refine LeO.bind ?_ (fun _ => ?_))
      | exact ih0 _ _
      | exact ih1 _ _
      | exact LeO.none _
      | refine LeO.ite ?_ ?_
      | refine LeO.bind ?_ (fun _ => ?_)
    · intro y0 y1
      unfold endonymref5_PrintCode.l0
      repeat' first
      | (with_reducible exact ih0 _ _)
      | (with_reducible exact ih1 _ _)
      | (with_reducible exact LeO.refl _)
      | (with_reducible exact LeO.none _)
      | (with_reducible refine LeO.ite ?_ ?_)
      | (with_reducible refine LeO.bind ?_ (fun _ => ?_))
      | exact ih0 _ _
      | exact ih1 _ _
      | exact LeO.none _
      | refine LeO.ite ?_ ?_
      | refine LeO.bind ?_ (fun _ => ?_)
theorem endonymref5_PrintCode.mono : ∀ a0 k, LeO (endonymref5_PrintCode.f k a0) (endonymref5_PrintCode.f (k + 1) a0) := by
  intro a0 k
  obtain ⟨ih0, ih1⟩ := endonymref5_PrintCode.mono_l k
  unfold endonymref5_PrintCode.f
  repeat' first
      | (with_reducible exact ih0 _ _)
      | (with_reducible exact ih1 _ _)
      | (with_reducible exact LeO.refl _)
      | (with_reducible exact LeO.none _)
      | (with_reducible refine LeO.ite ?_ ?_)
      | (with_reducible refine LeO.bind ?_ (fun _ => ?_))
      | exact ih0 _ _
      | exact ih1 _ _
      | exact LeO.none _
      | refine LeO.ite ?_ ?_
      | refine LeO.bind ?_ (fun _ => ?_)
set_option maxHeartbeats 8000000 in
set_option maxRecDepth 100000 in
theorem endonymref5_PrintCode.calls (k : Nat) (a0 : Int) (r : ByteArray) (w : World) (h : endonymref5_PrintCode.f k a0 = some r) :
    Calls Tryd.prog 7 #[.int .i32 a0] w fun e w' => e = .returned (.string r) ∧ Drawn0 w w' := by
  have H : (if a0 < 0 then (endonymref5_PrintCode.j0 k a0 true) else (endonymref5_PrintCode.j0 k a0 (decide (a0 > 1114111)))) = some r := h
  clear h
  have HC2 := Aside0.mk H
  clear H
  go_enter Tryd.func7, Tryd.ntmps7
  go_upto_region 1 with (fail)
  go_cut [9] (fun v9 wc => ∃ (kq : Nat) (x9_1 : Bool), v9 = .bool x9_1 ∧ Aside0 (endonymref5_PrintCode.j0 kq a0 x9_1 = some r) ∧ Aside0 (kq ≤ k) ∧ Drawn0 w wc)
  case first =>
    have H := HC2.out
    clear HC2
    by_cases c3 : a0 < 0
    · rw [if_pos c3] at H
      have c3b0 : decide (a0 < 0) = true := decide_eq_true c3
      clear c3
      (first | rw [c3b0] | (simp only [i64_w, i32_w]; rw [c3b0]) | skip)
      have H' := Aside0.mk H
      clear H
      go_wp2
      go_meet
      case rel => exact ⟨_, (true), (by first | rfl | (simp; done) | (simp [*]; done)), H', ⟨by first | omega | exact Nat.le_refl _⟩, by repeat (first | exact Drawn0.refl _ | apply Drawn0.step)⟩
    · rw [if_neg c3] at H
      have c3b0 : decide (a0 < 0) = false := decide_eq_false c3
      clear c3
      (first | rw [c3b0] | (simp only [i64_w, i32_w]; rw [c3b0]) | skip)
      have H' := Aside0.mk H
      clear H
      go_wp2
      go_meet
      case rel => exact ⟨_, (decide (a0 > 1114111)), (by first | rfl | (simp; done) | (simp [*]; done)), H', ⟨by first | omega | exact Nat.le_refl _⟩, by repeat (first | exact Drawn0.refl _ | apply Drawn0.step)⟩
  case rest =>
    clear HC2
    try clear p2
    try clear c3
    try clear c3b0
    obtain ⟨kq, x9_1, rfl, HA, HJ1, ⟨mc1, rfl⟩⟩ := hcut
    cases kq with
    | zero => exact absurd HA.out (by simp [endonymref5_PrintCode.j0])
    | succ kj1 =>
      have H := HA.out
      clear HA
      simp only [endonymref5_PrintCode.j0] at H
      by_cases c4 : x9_1 = true
      · subst c4
        have H1 : (some (⟨#[]⟩ : ByteArray)) = some r := by rw [if_pos rfl] at H; exact H
        clear H
        have H := H1
        clear H1
        obtain rfl := Option.some.inj H
        go_wp2
        go_ret
        exact ⟨by first | rfl | (simp; done) | (simp [*]; done), by repeat (first | exact Drawn0.refl _ | apply Drawn0.step)⟩
      · replace c4 := Bool.eq_false_iff.mpr c4
        subst c4
        have H1 : (endonymref5_PrintCode.l0 kj1 a0 (⟨#[]⟩ : ByteArray)) = some r := by rw [if_neg (show ¬ (false = true) by decide)] at H; exact H
        clear H
        have H := H1
        clear H1
        have H' := Aside0.mk H
        clear H
        go_wp2
        go_loopg [0, 3] kj1 (fun kq v0 v3 w' => ∃ (x0_2 : Int) (x3_2 : ByteArray), v0 = .int .i32 x0_2 ∧ v3 = .string x3_2 ∧ Aside0 (endonymref5_PrintCode.l0 kq x0_2 x3_2 = some r) ∧ Aside0 (kq ≤ kj1) ∧ Drawn0 w w')
        case atStart => exact ⟨(a0), ((⟨#[]⟩ : ByteArray)), (by first | rfl | (simp; done) | (simp [*]; done)), (by first | rfl | (simp; done) | (simp [*]; done)), H', ⟨Nat.le_refl _⟩, by repeat (first | exact Drawn0.refl _ | apply Drawn0.step)⟩
        case round =>
          clear H'
          try clear c1
          try clear p2
          try clear c3
          try clear c3b0
          try clear c4
          try clear p2
          obtain ⟨x0_2, x3_2, rfl, rfl, HA, HK2, ⟨m2, rfl⟩⟩ := hrel
          cases gk with
          | zero => exact absurd HA.out (by simp [endonymref5_PrintCode.l0])
          | succ k2 =>
            have H := HA.out
            clear HA
            simp only [endonymref5_PrintCode.l0] at H
            by_cases c5 : x0_2 > 0
            · rw [if_pos c5] at H
              have c5b0 : decide (0 < x0_2) = true := decide_eq_true c5
              clear c5
              obtain ⟨ji6, hji6⟩ : ∃ j_ : Int, (Int.tmod x0_2 16) = j_ := ⟨_, rfl⟩
              replace H : (if 0 ≤ (ji6) then (if (ji6) ≤ (wrap32 ((ji6) + 1)) then (if (wrap32 ((ji6) + 1)) ≤ 16 then (if ((⟨#[48, 49, 50, 51, 52, 53, 54, 55, 56, 57, 65, 66, 67, 68, 69, 70]⟩ : ByteArray).extract ((ji6) : Int).toNat ((wrap32 ((ji6) + 1)) : Int).toNat).size + x3_2.size ≤ 9223372036854775807 then (endonymref5_PrintCode.l0 k2 (wrap32 (Int.tdiv x0_2 16)) (((⟨#[48, 49, 50, 51, 52, 53, 54, 55, 56, 57, 65, 66, 67, 68, 69, 70]⟩ : ByteArray).extract ((ji6) : Int).toNat ((wrap32 ((ji6) + 1)) : Int).toNat) ++ x3_2)) else (none)) else (none)) else (none)) else (none)) = some r := by first | (rw [hji6] at H; exact H) | (simp only [hji6] at H ⊢; exact H)
              by_cases c7 : 0 ≤ (ji6)
              · rw [if_pos c7] at H
                have c7b0 := eq_true c7
                have c7b1 : decide (0 ≤ (ji6)) = true := decide_eq_true c7
                clear c7
                by_cases c8 : (ji6) ≤ (wrap32 ((ji6) + 1))
                · rw [if_pos c8] at H
                  have c8b0 := eq_true c8
                  have c8b1 : decide ((ji6) ≤ (wrap32 ((ji6) + 1))) = true := decide_eq_true c8
                  by_cases c9 : (wrap32 ((ji6) + 1)) ≤ 16
                  · rw [if_pos c9] at H
                    have c9b0 := eq_true c9
                    have c9b1 : decide ((wrap32 ((ji6) + 1)) ≤ 16) = true := decide_eq_true c9
                    by_cases c10 : ((⟨#[48, 49, 50, 51, 52, 53, 54, 55, 56, 57, 65, 66, 67, 68, 69, 70]⟩ : ByteArray).extract ((ji6) : Int).toNat ((wrap32 ((ji6) + 1)) : Int).toNat).size + x3_2.size ≤ 9223372036854775807
                    · rw [if_pos c10] at H
                      have c10b0 := eq_true c10
                      have c10b1 : decide (((⟨#[48, 49, 50, 51, 52, 53, 54, 55, 56, 57, 65, 66, 67, 68, 69, 70]⟩ : ByteArray).extract ((ji6) : Int).toNat ((wrap32 ((ji6) + 1)) : Int).toNat).size + x3_2.size ≤ 9223372036854775807) = true := decide_eq_true c10
                      try have c10b2 : (9223372036854775807 < ((⟨#[48, 49, 50, 51, 52, 53, 54, 55, 56, 57, 65, 66, 67, 68, 69, 70]⟩ : ByteArray).extract ((ji6) : Int).toNat ((wrap32 ((ji6) + 1)) : Int).toNat).size + x3_2.size) = False := eq_false (Nat.not_lt.2 c10)
                      have H' := Aside0.mk H
                      clear H
                      go_wp2
                      go_roundg k2
                      case measure => have := HJ1.out; have := HK2.out; omega
                      case rel => exact ⟨(wrap32 (Int.tdiv x0_2 16)), (((⟨#[48, 49, 50, 51, 52, 53, 54, 55, 56, 57, 65, 66, 67, 68, 69, 70]⟩ : ByteArray).extract ((ji6) : Int).toNat ((wrap32 ((ji6) + 1)) : Int).toNat) ++ x3_2), (by first | rfl | (simp; done) | (simp [*]; done)), (by first | rfl | (simp; done) | (simp only [← hji6] <;> (first | rfl | simp)) | (simp [*]; done)), H', ⟨by have := HJ1.out; have := HK2.out; omega⟩, by repeat (first | exact Drawn0.refl _ | apply Drawn0.step)⟩
                    · rw [if_neg c10] at H
                      exact absurd H (by simp)
                  · rw [if_neg c9] at H
                    exact absurd H (by simp)
                · rw [if_neg c8] at H
                  exact absurd H (by simp)
              · rw [if_neg c7] at H
                exact absurd H (by simp)
            · rw [if_neg c5] at H
              have c5b0 : decide (0 < x0_2) = false := decide_eq_false c5
              clear c5
              by_cases c11 : x3_2.toList = ([] : List UInt8)
              · rw [if_pos c11] at H
                have c11b0 : (x3_2.toList == ([] : List UInt8)) = true := beq_iff_eq.mpr c11
                have c11b1 : (x3_2.toList != ([] : List UInt8)) = false := bne_eq_false_iff_eq.mpr c11
                clear c11
                obtain ⟨ji12, hji12⟩ : ∃ j_ : Int, (Int.tmod x0_2 16) = j_ := ⟨_, rfl⟩
                replace H : (if 0 ≤ (ji12) then (if (ji12) ≤ (wrap32 ((ji12) + 1)) then (if (wrap32 ((ji12) + 1)) ≤ 16 then (if ((⟨#[48, 49, 50, 51, 52, 53, 54, 55, 56, 57, 65, 66, 67, 68, 69, 70]⟩ : ByteArray).extract ((ji12) : Int).toNat ((wrap32 ((ji12) + 1)) : Int).toNat).size + x3_2.size ≤ 9223372036854775807 then (endonymref5_PrintCode.l0 k2 (wrap32 (Int.tdiv x0_2 16)) (((⟨#[48, 49, 50, 51, 52, 53, 54, 55, 56, 57, 65, 66, 67, 68, 69, 70]⟩ : ByteArray).extract ((ji12) : Int).toNat ((wrap32 ((ji12) + 1)) : Int).toNat) ++ x3_2)) else (none)) else (none)) else (none)) else (none)) = some r := by first | (rw [hji12] at H; exact H) | (simp only [hji12] at H ⊢; exact H)
                by_cases c13 : 0 ≤ (ji12)
                · rw [if_pos c13] at H
                  have c13b0 := eq_true c13
                  have c13b1 : decide (0 ≤ (ji12)) = true := decide_eq_true c13
                  clear c13
                  by_cases c14 : (ji12) ≤ (wrap32 ((ji12) + 1))
                  · rw [if_pos c14] at H
                    have c14b0 := eq_true c14
                    have c14b1 : decide ((ji12) ≤ (wrap32 ((ji12) + 1))) = true := decide_eq_true c14
                    by_cases c15 : (wrap32 ((ji12) + 1)) ≤ 16
                    · rw [if_pos c15] at H
                      have c15b0 := eq_true c15
                      have c15b1 : decide ((wrap32 ((ji12) + 1)) ≤ 16) = true := decide_eq_true c15
                      by_cases c16 : ((⟨#[48, 49, 50, 51, 52, 53, 54, 55, 56, 57, 65, 66, 67, 68, 69, 70]⟩ : ByteArray).extract ((ji12) : Int).toNat ((wrap32 ((ji12) + 1)) : Int).toNat).size + x3_2.size ≤ 9223372036854775807
                      · rw [if_pos c16] at H
                        have c16b0 := eq_true c16
                        have c16b1 : decide (((⟨#[48, 49, 50, 51, 52, 53, 54, 55, 56, 57, 65, 66, 67, 68, 69, 70]⟩ : ByteArray).extract ((ji12) : Int).toNat ((wrap32 ((ji12) + 1)) : Int).toNat).size + x3_2.size ≤ 9223372036854775807) = true := decide_eq_true c16
                        try have c16b2 : (9223372036854775807 < ((⟨#[48, 49, 50, 51, 52, 53, 54, 55, 56, 57, 65, 66, 67, 68, 69, 70]⟩ : ByteArray).extract ((ji12) : Int).toNat ((wrap32 ((ji12) + 1)) : Int).toNat).size + x3_2.size) = False := eq_false (Nat.not_lt.2 c16)
                        have H' := Aside0.mk H
                        clear H
                        go_wp2
                        go_roundg k2
                        case measure => have := HJ1.out; have := HK2.out; omega
                        case rel => exact ⟨(wrap32 (Int.tdiv x0_2 16)), (((⟨#[48, 49, 50, 51, 52, 53, 54, 55, 56, 57, 65, 66, 67, 68, 69, 70]⟩ : ByteArray).extract ((ji12) : Int).toNat ((wrap32 ((ji12) + 1)) : Int).toNat) ++ x3_2), (by first | rfl | (simp; done) | (simp [*]; done)), (by first | rfl | (simp; done) | (simp only [← hji12] <;> (first | rfl | simp)) | (simp [*]; done)), H', ⟨by have := HJ1.out; have := HK2.out; omega⟩, by repeat (first | exact Drawn0.refl _ | apply Drawn0.step)⟩
                      · rw [if_neg c16] at H
                        exact absurd H (by simp)
                    · rw [if_neg c15] at H
                      exact absurd H (by simp)
                  · rw [if_neg c14] at H
                    exact absurd H (by simp)
                · rw [if_neg c13] at H
                  exact absurd H (by simp)
              · rw [if_neg c11] at H
                have c11b0 : (x3_2.toList == ([] : List UInt8)) = false := beq_eq_false_iff_ne.mpr c11
                have c11b1 : (x3_2.toList != ([] : List UInt8)) = true := bne_iff_ne.mpr c11
                obtain rfl := Option.some.inj H
                go_wp2
                go_ret
                exact ⟨by first | rfl | (simp; done) | (simp [*]; done), by repeat (first | exact Drawn0.refl _ | apply Drawn0.step)⟩

/-! ### scan_PrintSpan: function 8 -/
def scan_PrintSpan.j0 : Nat → Int → Int → Bool → Option (ByteArray)
  | 0, _, _, _ => none
  | k + 1, x0, x1, x11 => if x11 = true then ((scan_PrintCode.f k x0).bind fun t140 => (if t140.size + 2 ≤ 9223372036854775807 then ((scan_PrintCode.f k x1).bind fun t141 => (if (t140 ++ (⟨#[46, 46]⟩ : ByteArray)).size + t141.size ≤ 9223372036854775807 then (some ((t140 ++ (⟨#[46, 46]⟩ : ByteArray)) ++ t141)) else (none))) else (none))) else (some (⟨#[]⟩ : ByteArray))
def scan_PrintSpan.f (k : Nat) (a0 : Int) (a1 : Int) : Option (ByteArray) := if a0 = a1 then ((scan_PrintCode.f k a0).bind fun t139 => (some t139)) else (if a0 ≥ 0 then (if a0 < a1 then (scan_PrintSpan.j0 k a0 a1 (decide (a1 ≤ 1114111))) else (scan_PrintSpan.j0 k a0 a1 false)) else (scan_PrintSpan.j0 k a0 a1 false))
theorem scan_PrintSpan.mono_l : ∀ k, (∀ y0 y1 y2, LeO (scan_PrintSpan.j0 k y0 y1 y2) (scan_PrintSpan.j0 (k + 1) y0 y1 y2))
  | 0 => fun _ _ _ r h => by simp [scan_PrintSpan.j0] at h
  | k + 1 => by
    have ih0 := scan_PrintSpan.mono_l k
    · intro y0 y1 y2
      unfold scan_PrintSpan.j0
      repeat' first
      | (with_reducible exact ih0 _ _ _)
      | (with_reducible exact scan_PrintCode.mono _ _)
      | (with_reducible exact LeO.refl _)
      | (with_reducible exact LeO.none _)
      | (with_reducible refine LeO.ite ?_ ?_)
      | (with_reducible refine LeO.bind ?_ (fun _ => ?_))
      | exact ih0 _ _ _
      | exact scan_PrintCode.mono _ _
      | exact LeO.none _
      | refine LeO.ite ?_ ?_
      | refine LeO.bind ?_ (fun _ => ?_)
theorem scan_PrintSpan.mono : ∀ a0 a1 k, LeO (scan_PrintSpan.f k a0 a1) (scan_PrintSpan.f (k + 1) a0 a1) := by
  intro a0 a1 k
  have ih0 := scan_PrintSpan.mono_l k
  unfold scan_PrintSpan.f
  repeat' first
      | (with_reducible exact ih0 _ _ _)
      | (with_reducible exact scan_PrintCode.mono _ _)
      | (with_reducible exact LeO.refl _)
      | (with_reducible exact LeO.none _)
      | (with_reducible refine LeO.ite ?_ ?_)
      | (with_reducible refine LeO.bind ?_ (fun _ => ?_))
      | exact ih0 _ _ _
      | exact scan_PrintCode.mono _ _
      | exact LeO.none _
      | refine LeO.ite ?_ ?_
      | refine LeO.bind ?_ (fun _ => ?_)
set_option maxHeartbeats 8000000 in
set_option maxRecDepth 100000 in
theorem scan_PrintSpan.calls (k : Nat) (a0 : Int) (a1 : Int) (r : ByteArray) (w : World) (h : scan_PrintSpan.f k a0 a1 = some r) :
    Calls Tryd.prog 8 #[.int .i32 a0, .int .i32 a1] w fun e w' => e = .returned (.string r) ∧ Drawn0 w w' := by
  have H : (if a0 = a1 then ((scan_PrintCode.f k a0).bind fun t139 => (some t139)) else (if a0 ≥ 0 then (if a0 < a1 then (scan_PrintSpan.j0 k a0 a1 (decide (a1 ≤ 1114111))) else (scan_PrintSpan.j0 k a0 a1 false)) else (scan_PrintSpan.j0 k a0 a1 false))) = some r := h
  clear h
  by_cases c3 : a0 = a1
  · rw [if_pos c3] at H
    have c3b0 : (a0 == a1) = true := beq_iff_eq.mpr c3
    have c3b1 : (a0 != a1) = false := bne_eq_false_iff_eq.mpr c3
    clear c3
    replace H := Option.bind_eq_some_iff.mp H
    obtain ⟨t139, A40, H⟩ := H
    replace H : (some t139) = some r := H
    have A4 := Aside0.mk A40
    clear A40
    obtain rfl := Option.some.inj H
    go_enter Tryd.func8, Tryd.ntmps8
    go_wp2_with (first | ((with_reducible refine gate_callee (f := 6) rfl ?_); refine goesL_ (some 10) rfl rfl Tryd.func6 (by kernel_rfl) rfl #[.int .i32 a0] rfl (by (try simp only [List.map_toArray, List.map_cons, List.map_nil]); first | done | rfl | (simp only [List.length_drop, List.length_take]; rfl)) ?_; (with_reducible refine (scan_PrintCode.calls k a0 t139 _ A4.out).mono ?_); rintro e w' ⟨rfl, ⟨nd, rfl⟩⟩; refine ⟨_, rfl, ?_⟩))
    go_ret
    exact ⟨by first | rfl | (simp; done) | (simp [*]; done), by repeat (first | exact Drawn0.refl _ | apply Drawn0.step)⟩
  · rw [if_neg c3] at H
    have c3b0 : (a0 == a1) = false := beq_eq_false_iff_ne.mpr c3
    have c3b1 : (a0 != a1) = true := bne_iff_ne.mpr c3
    have HC5 := Aside0.mk H
    clear H
    go_enter Tryd.func8, Tryd.ntmps8
    go_upto_region 3 with (fail)
    go_cut [11] (fun v11 wc => ∃ (kq : Nat) (x11_4 : Bool), v11 = .bool x11_4 ∧ Aside0 (scan_PrintSpan.j0 kq a0 a1 x11_4 = some r) ∧ Aside0 (kq ≤ k) ∧ Drawn0 w wc)
    case first =>
      have H := HC5.out
      clear HC5
      by_cases c6 : a0 ≥ 0
      · rw [if_pos c6] at H
        have c6b0 : decide (0 ≤ a0) = true := decide_eq_true c6
        clear c6
        (first | rw [c6b0] | (simp only [i64_w, i32_w]; rw [c6b0]) | skip)
        by_cases c7 : a0 < a1
        · rw [if_pos c7] at H
          have c7b0 : decide (a0 < a1) = true := decide_eq_true c7
          clear c7
          have H' := Aside0.mk H
          clear H
          go_wp2
          go_meet
          case rel => exact ⟨_, (decide (a1 ≤ 1114111)), (by first | rfl | (simp; done) | (simp [*]; done)), H', ⟨by first | omega | exact Nat.le_refl _⟩, by repeat (first | exact Drawn0.refl _ | apply Drawn0.step)⟩
        · rw [if_neg c7] at H
          have c7b0 : decide (a0 < a1) = false := decide_eq_false c7
          clear c7
          have H' := Aside0.mk H
          clear H
          go_wp2
          go_meet
          case rel => exact ⟨_, (false), (by first | rfl | (simp; done) | (simp [*]; done)), H', ⟨by first | omega | exact Nat.le_refl _⟩, by repeat (first | exact Drawn0.refl _ | apply Drawn0.step)⟩
      · rw [if_neg c6] at H
        have c6b0 : decide (0 ≤ a0) = false := decide_eq_false c6
        clear c6
        (first | rw [c6b0] | (simp only [i64_w, i32_w]; rw [c6b0]) | skip)
        have H' := Aside0.mk H
        clear H
        go_wp2
        go_meet
        case rel => exact ⟨_, (false), (by first | rfl | (simp; done) | (simp [*]; done)), H', ⟨by first | omega | exact Nat.le_refl _⟩, by repeat (first | exact Drawn0.refl _ | apply Drawn0.step)⟩
    case rest =>
      clear HC5
      try clear p2
      try clear c3
      try clear c3b0
      try clear c3b1
      try clear c6
      try clear c6b0
      try clear c7
      try clear c7b0
      obtain ⟨kq, x11_4, rfl, HA, HJ4, ⟨mc4, rfl⟩⟩ := hcut
      cases kq with
      | zero => exact absurd HA.out (by simp [scan_PrintSpan.j0])
      | succ kj4 =>
        have H := HA.out
        clear HA
        simp only [scan_PrintSpan.j0] at H
        by_cases c8 : x11_4 = true
        · subst c8
          have H1 : ((scan_PrintCode.f kj4 a0).bind fun t140 => (if t140.size + 2 ≤ 9223372036854775807 then ((scan_PrintCode.f kj4 a1).bind fun t141 => (if (t140 ++ (⟨#[46, 46]⟩ : ByteArray)).size + t141.size ≤ 9223372036854775807 then (some ((t140 ++ (⟨#[46, 46]⟩ : ByteArray)) ++ t141)) else (none))) else (none))) = some r := by rw [if_pos rfl] at H; exact H
          clear H
          have H := H1
          clear H1
          replace H := Option.bind_eq_some_iff.mp H
          obtain ⟨t140, A90, H⟩ := H
          replace H : (if t140.size + 2 ≤ 9223372036854775807 then ((scan_PrintCode.f kj4 a1).bind fun t141 => (if (t140 ++ (⟨#[46, 46]⟩ : ByteArray)).size + t141.size ≤ 9223372036854775807 then (some ((t140 ++ (⟨#[46, 46]⟩ : ByteArray)) ++ t141)) else (none))) else (none)) = some r := H
          have A9 := Aside0.mk A90
          clear A90
          by_cases c10 : t140.size + 2 ≤ 9223372036854775807
          · rw [if_pos c10] at H
            have c10b0 := eq_true c10
            have c10b1 : decide (t140.size + 2 ≤ 9223372036854775807) = true := decide_eq_true c10
            try have c10b2 : (9223372036854775807 < t140.size + 2) = False := eq_false (Nat.not_lt.2 c10)
            replace H := Option.bind_eq_some_iff.mp H
            obtain ⟨t141, A110, H⟩ := H
            replace H : (if (t140 ++ (⟨#[46, 46]⟩ : ByteArray)).size + t141.size ≤ 9223372036854775807 then (some ((t140 ++ (⟨#[46, 46]⟩ : ByteArray)) ++ t141)) else (none)) = some r := H
            have A11 := Aside0.mk A110
            clear A110
            by_cases c12 : (t140 ++ (⟨#[46, 46]⟩ : ByteArray)).size + t141.size ≤ 9223372036854775807
            · rw [if_pos c12] at H
              have c12b0 := eq_true c12
              have c12b1 : decide ((t140 ++ (⟨#[46, 46]⟩ : ByteArray)).size + t141.size ≤ 9223372036854775807) = true := decide_eq_true c12
              try have c12b2 : (9223372036854775807 < (t140 ++ (⟨#[46, 46]⟩ : ByteArray)).size + t141.size) = False := eq_false (Nat.not_lt.2 c12)
              have c12b3 : (9223372036854775807 < t140.size + 2 + t141.size) = False := eq_false (by have h_ := c12; have e_ : (⟨#[46, 46]⟩ : ByteArray).size = 2 := rfl; rw [ByteArray.size_append] at h_; omega)
              obtain rfl := Option.some.inj H
              go_wp2_with (first | ((with_reducible refine gate_callee (f := 6) rfl ?_); refine goesL_ (some 24) rfl rfl Tryd.func6 (by kernel_rfl) rfl #[.int .i32 a0] rfl (by (try simp only [List.map_toArray, List.map_cons, List.map_nil]); first | done | rfl | (simp only [List.length_drop, List.length_take]; rfl)) ?_; (with_reducible refine (scan_PrintCode.calls kj4 a0 t140 _ A9.out).mono ?_); rintro e w' ⟨rfl, ⟨nd, rfl⟩⟩; refine ⟨_, rfl, ?_⟩) | ((with_reducible refine gate_callee (f := 6) rfl ?_); refine goesL_ (some 27) rfl rfl Tryd.func6 (by kernel_rfl) rfl #[.int .i32 a1] rfl (by (try simp only [List.map_toArray, List.map_cons, List.map_nil]); first | done | rfl | (simp only [List.length_drop, List.length_take]; rfl)) ?_; (with_reducible refine (scan_PrintCode.calls kj4 a1 t141 _ A11.out).mono ?_); rintro e w' ⟨rfl, ⟨nd, rfl⟩⟩; refine ⟨_, rfl, ?_⟩))
              go_ret
              exact ⟨by first | rfl | (simp; done) | (simp [*]; done), by repeat (first | exact Drawn0.refl _ | apply Drawn0.step)⟩
            · rw [if_neg c12] at H
              exact absurd H (by simp)
          · rw [if_neg c10] at H
            exact absurd H (by simp)
        · replace c8 := Bool.eq_false_iff.mpr c8
          subst c8
          have H1 : (some (⟨#[]⟩ : ByteArray)) = some r := by rw [if_neg (show ¬ (false = true) by decide)] at H; exact H
          clear H
          have H := H1
          clear H1
          obtain rfl := Option.some.inj H
          go_wp2
          go_ret
          exact ⟨by first | rfl | (simp; done) | (simp [*]; done), by repeat (first | exact Drawn0.refl _ | apply Drawn0.step)⟩

/-! ### endonymref5_PrintSpan: function 9 -/
def endonymref5_PrintSpan.j0 : Nat → Int → Int → Bool → Option (ByteArray)
  | 0, _, _, _ => none
  | k + 1, x0, x1, x11 => if x11 = true then (some (⟨#[]⟩ : ByteArray)) else ((endonymref5_PrintCode.f k x0).bind fun t143 => (if t143.size + 2 ≤ 9223372036854775807 then ((endonymref5_PrintCode.f k x1).bind fun t144 => (if (t143 ++ (⟨#[46, 46]⟩ : ByteArray)).size + t144.size ≤ 9223372036854775807 then (some ((t143 ++ (⟨#[46, 46]⟩ : ByteArray)) ++ t144)) else (none))) else (none)))
def endonymref5_PrintSpan.f (k : Nat) (a0 : Int) (a1 : Int) : Option (ByteArray) := if a0 = a1 then ((endonymref5_PrintCode.f k a0).bind fun t142 => (some t142)) else (if a0 < 0 then (endonymref5_PrintSpan.j0 k a0 a1 true) else (if a0 > a1 then (endonymref5_PrintSpan.j0 k a0 a1 true) else (endonymref5_PrintSpan.j0 k a0 a1 (decide (a1 > 1114111)))))
theorem endonymref5_PrintSpan.mono_l : ∀ k, (∀ y0 y1 y2, LeO (endonymref5_PrintSpan.j0 k y0 y1 y2) (endonymref5_PrintSpan.j0 (k + 1) y0 y1 y2))
  | 0 => fun _ _ _ r h => by simp [endonymref5_PrintSpan.j0] at h
  | k + 1 => by
    have ih0 := endonymref5_PrintSpan.mono_l k
    · intro y0 y1 y2
      unfold endonymref5_PrintSpan.j0
      repeat' first
      | (with_reducible exact ih0 _ _ _)
      | (with_reducible exact endonymref5_PrintCode.mono _ _)
      | (with_reducible exact LeO.refl _)
      | (with_reducible exact LeO.none _)
      | (with_reducible refine LeO.ite ?_ ?_)
      | (with_reducible refine LeO.bind ?_ (fun _ => ?_))
      | exact ih0 _ _ _
      | exact endonymref5_PrintCode.mono _ _
      | exact LeO.none _
      | refine LeO.ite ?_ ?_
      | refine LeO.bind ?_ (fun _ => ?_)
theorem endonymref5_PrintSpan.mono : ∀ a0 a1 k, LeO (endonymref5_PrintSpan.f k a0 a1) (endonymref5_PrintSpan.f (k + 1) a0 a1) := by
  intro a0 a1 k
  have ih0 := endonymref5_PrintSpan.mono_l k
  unfold endonymref5_PrintSpan.f
  repeat' first
      | (with_reducible exact ih0 _ _ _)
      | (with_reducible exact endonymref5_PrintCode.mono _ _)
      | (with_reducible exact LeO.refl _)
      | (with_reducible exact LeO.none _)
      | (with_reducible refine LeO.ite ?_ ?_)
      | (with_reducible refine LeO.bind ?_ (fun _ => ?_))
      | exact ih0 _ _ _
      | exact endonymref5_PrintCode.mono _ _
      | exact LeO.none _
      | refine LeO.ite ?_ ?_
      | refine LeO.bind ?_ (fun _ => ?_)
set_option maxHeartbeats 8000000 in
set_option maxRecDepth 100000 in
theorem endonymref5_PrintSpan.calls (k : Nat) (a0 : Int) (a1 : Int) (r : ByteArray) (w : World) (h : endonymref5_PrintSpan.f k a0 a1 = some r) :
    Calls Tryd.prog 9 #[.int .i32 a0, .int .i32 a1] w fun e w' => e = .returned (.string r) ∧ Drawn0 w w' := by
  have H : (if a0 = a1 then ((endonymref5_PrintCode.f k a0).bind fun t142 => (some t142)) else (if a0 < 0 then (endonymref5_PrintSpan.j0 k a0 a1 true) else (if a0 > a1 then (endonymref5_PrintSpan.j0 k a0 a1 true) else (endonymref5_PrintSpan.j0 k a0 a1 (decide (a1 > 1114111)))))) = some r := h
  clear h
  by_cases c3 : a0 = a1
  · rw [if_pos c3] at H
    have c3b0 : (a0 == a1) = true := beq_iff_eq.mpr c3
    have c3b1 : (a0 != a1) = false := bne_eq_false_iff_eq.mpr c3
    clear c3
    replace H := Option.bind_eq_some_iff.mp H
    obtain ⟨t142, A40, H⟩ := H
    replace H : (some t142) = some r := H
    have A4 := Aside0.mk A40
    clear A40
    obtain rfl := Option.some.inj H
    go_enter Tryd.func9, Tryd.ntmps9
    go_wp2_with (first | ((with_reducible refine gate_callee (f := 7) rfl ?_); refine goesL_ (some 10) rfl rfl Tryd.func7 (by kernel_rfl) rfl #[.int .i32 a0] rfl (by (try simp only [List.map_toArray, List.map_cons, List.map_nil]); first | done | rfl | (simp only [List.length_drop, List.length_take]; rfl)) ?_; (with_reducible refine (endonymref5_PrintCode.calls k a0 t142 _ A4.out).mono ?_); rintro e w' ⟨rfl, ⟨nd, rfl⟩⟩; refine ⟨_, rfl, ?_⟩))
    go_ret
    exact ⟨by first | rfl | (simp; done) | (simp [*]; done), by repeat (first | exact Drawn0.refl _ | apply Drawn0.step)⟩
  · rw [if_neg c3] at H
    have c3b0 : (a0 == a1) = false := beq_eq_false_iff_ne.mpr c3
    have c3b1 : (a0 != a1) = true := bne_iff_ne.mpr c3
    have HC5 := Aside0.mk H
    clear H
    go_enter Tryd.func9, Tryd.ntmps9
    go_upto_region 3 with (fail)
    go_cut [11] (fun v11 wc => ∃ (kq : Nat) (x11_4 : Bool), v11 = .bool x11_4 ∧ Aside0 (endonymref5_PrintSpan.j0 kq a0 a1 x11_4 = some r) ∧ Aside0 (kq ≤ k) ∧ Drawn0 w wc)
    case first =>
      have H := HC5.out
      clear HC5
      by_cases c6 : a0 < 0
      · rw [if_pos c6] at H
        have c6b0 : decide (a0 < 0) = true := decide_eq_true c6
        clear c6
        (first | rw [c6b0] | (simp only [i64_w, i32_w]; rw [c6b0]) | skip)
        have H' := Aside0.mk H
        clear H
        go_wp2
        go_meet
        case rel => exact ⟨_, (true), (by first | rfl | (simp; done) | (simp [*]; done)), H', ⟨by first | omega | exact Nat.le_refl _⟩, by repeat (first | exact Drawn0.refl _ | apply Drawn0.step)⟩
      · rw [if_neg c6] at H
        have c6b0 : decide (a0 < 0) = false := decide_eq_false c6
        clear c6
        (first | rw [c6b0] | (simp only [i64_w, i32_w]; rw [c6b0]) | skip)
        by_cases c7 : a0 > a1
        · rw [if_pos c7] at H
          have c7b0 : decide (a1 < a0) = true := decide_eq_true c7
          clear c7
          have H' := Aside0.mk H
          clear H
          go_wp2
          go_meet
          case rel => exact ⟨_, (true), (by first | rfl | (simp; done) | (simp [*]; done)), H', ⟨by first | omega | exact Nat.le_refl _⟩, by repeat (first | exact Drawn0.refl _ | apply Drawn0.step)⟩
        · rw [if_neg c7] at H
          have c7b0 : decide (a1 < a0) = false := decide_eq_false c7
          clear c7
          have H' := Aside0.mk H
          clear H
          go_wp2
          go_meet
          case rel => exact ⟨_, (decide (a1 > 1114111)), (by first | rfl | (simp; done) | (simp [*]; done)), H', ⟨by first | omega | exact Nat.le_refl _⟩, by repeat (first | exact Drawn0.refl _ | apply Drawn0.step)⟩
    case rest =>
      clear HC5
      try clear p2
      try clear c3
      try clear c3b0
      try clear c3b1
      try clear c6
      try clear c6b0
      try clear c7
      try clear c7b0
      obtain ⟨kq, x11_4, rfl, HA, HJ4, ⟨mc4, rfl⟩⟩ := hcut
      cases kq with
      | zero => exact absurd HA.out (by simp [endonymref5_PrintSpan.j0])
      | succ kj4 =>
        have H := HA.out
        clear HA
        simp only [endonymref5_PrintSpan.j0] at H
        by_cases c8 : x11_4 = true
        · subst c8
          have H1 : (some (⟨#[]⟩ : ByteArray)) = some r := by rw [if_pos rfl] at H; exact H
          clear H
          have H := H1
          clear H1
          obtain rfl := Option.some.inj H
          go_wp2
          go_ret
          exact ⟨by first | rfl | (simp; done) | (simp [*]; done), by repeat (first | exact Drawn0.refl _ | apply Drawn0.step)⟩
        · replace c8 := Bool.eq_false_iff.mpr c8
          subst c8
          have H1 : ((endonymref5_PrintCode.f kj4 a0).bind fun t143 => (if t143.size + 2 ≤ 9223372036854775807 then ((endonymref5_PrintCode.f kj4 a1).bind fun t144 => (if (t143 ++ (⟨#[46, 46]⟩ : ByteArray)).size + t144.size ≤ 9223372036854775807 then (some ((t143 ++ (⟨#[46, 46]⟩ : ByteArray)) ++ t144)) else (none))) else (none))) = some r := by rw [if_neg (show ¬ (false = true) by decide)] at H; exact H
          clear H
          have H := H1
          clear H1
          replace H := Option.bind_eq_some_iff.mp H
          obtain ⟨t143, A90, H⟩ := H
          replace H : (if t143.size + 2 ≤ 9223372036854775807 then ((endonymref5_PrintCode.f kj4 a1).bind fun t144 => (if (t143 ++ (⟨#[46, 46]⟩ : ByteArray)).size + t144.size ≤ 9223372036854775807 then (some ((t143 ++ (⟨#[46, 46]⟩ : ByteArray)) ++ t144)) else (none))) else (none)) = some r := H
          have A9 := Aside0.mk A90
          clear A90
          by_cases c10 : t143.size + 2 ≤ 9223372036854775807
          · rw [if_pos c10] at H
            have c10b0 := eq_true c10
            have c10b1 : decide (t143.size + 2 ≤ 9223372036854775807) = true := decide_eq_true c10
            try have c10b2 : (9223372036854775807 < t143.size + 2) = False := eq_false (Nat.not_lt.2 c10)
            replace H := Option.bind_eq_some_iff.mp H
            obtain ⟨t144, A110, H⟩ := H
            replace H : (if (t143 ++ (⟨#[46, 46]⟩ : ByteArray)).size + t144.size ≤ 9223372036854775807 then (some ((t143 ++ (⟨#[46, 46]⟩ : ByteArray)) ++ t144)) else (none)) = some r := H
            have A11 := Aside0.mk A110
            clear A110
            by_cases c12 : (t143 ++ (⟨#[46, 46]⟩ : ByteArray)).size + t144.size ≤ 9223372036854775807
            · rw [if_pos c12] at H
              have c12b0 := eq_true c12
              have c12b1 : decide ((t143 ++ (⟨#[46, 46]⟩ : ByteArray)).size + t144.size ≤ 9223372036854775807) = true := decide_eq_true c12
              try have c12b2 : (9223372036854775807 < (t143 ++ (⟨#[46, 46]⟩ : ByteArray)).size + t144.size) = False := eq_false (Nat.not_lt.2 c12)
              have c12b3 : (9223372036854775807 < t143.size + 2 + t144.size) = False := eq_false (by have h_ := c12; have e_ : (⟨#[46, 46]⟩ : ByteArray).size = 2 := rfl; rw [ByteArray.size_append] at h_; omega)
              obtain rfl := Option.some.inj H
              go_wp2_with (first | ((with_reducible refine gate_callee (f := 7) rfl ?_); refine goesL_ (some 24) rfl rfl Tryd.func7 (by kernel_rfl) rfl #[.int .i32 a0] rfl (by (try simp only [List.map_toArray, List.map_cons, List.map_nil]); first | done | rfl | (simp only [List.length_drop, List.length_take]; rfl)) ?_; (with_reducible refine (endonymref5_PrintCode.calls kj4 a0 t143 _ A9.out).mono ?_); rintro e w' ⟨rfl, ⟨nd, rfl⟩⟩; refine ⟨_, rfl, ?_⟩) | ((with_reducible refine gate_callee (f := 7) rfl ?_); refine goesL_ (some 27) rfl rfl Tryd.func7 (by kernel_rfl) rfl #[.int .i32 a1] rfl (by (try simp only [List.map_toArray, List.map_cons, List.map_nil]); first | done | rfl | (simp only [List.length_drop, List.length_take]; rfl)) ?_; (with_reducible refine (endonymref5_PrintCode.calls kj4 a1 t144 _ A11.out).mono ?_); rintro e w' ⟨rfl, ⟨nd, rfl⟩⟩; refine ⟨_, rfl, ?_⟩))
              go_ret
              exact ⟨by first | rfl | (simp; done) | (simp [*]; done), by repeat (first | exact Drawn0.refl _ | apply Drawn0.step)⟩
            · rw [if_neg c12] at H
              exact absurd H (by simp)
          · rw [if_neg c10] at H
            exact absurd H (by simp)

-- NOT PRINTED: function 22 (strconv_small)

-- NOT PRINTED: function 26 (strconv_log10Pow2)

-- NOT PRINTED: function 27 (bits_Len64)

-- NOT PRINTED: function 28 (strconv_bool2_int)

-- NOT PRINTED: function 23 (strconv_numDigits)

-- NOT PRINTED: function 24 (strconv_formatBase10)

-- NOT PRINTED: function 29 (strconv_isPowerOfTwo)

-- NOT PRINTED: function 31 (bits_TrailingZeros32)

-- NOT PRINTED: function 32 (bits_TrailingZeros64)

-- NOT PRINTED: function 30 (bits_TrailingZeros)

-- NOT PRINTED: function 25 (strconv_formatBits)

-- NOT PRINTED: function 21 (strconv_FormatInt)

-- NOT PRINTED: function 20 (strconv_Itoa_20)

-- NOT PRINTED: function 18 (strconv_Itoa_18)

/-! ### scan_PrintWhole: function 10 -/
def scan_PrintWhole.f (a0 : Int) : Option (ByteArray) := if -9223372036854775808 ≤ a0 ∧ a0 ≤ 9223372036854775807 then some (⟨(Lib.itoa a0).toArray⟩ : ByteArray) else none
theorem scan_PrintWhole.calls (a0 : Int) (r : ByteArray) (w : World) (htab : Aside0 (Rm.Tab w)) (h : scan_PrintWhole.f a0 = some r) :
    Calls Tryd.prog 10 #[.int .i64 a0] w fun e w' => e = .returned (.string r) ∧ Below w.heap.size w w' := by
  unfold scan_PrintWhole.f at h
  by_cases hb : -9223372036854775808 ≤ a0 ∧ a0 ≤ 9223372036854775807
  · rw [if_pos hb] at h
    obtain rfl := Option.some.inj h
    obtain ⟨hb0, hb1⟩ := hb
    have hq0 := Aside0.mk hb0
    have hq1 := Aside0.mk hb1
    clear hb0 hb1 h
    go_enter Tryd.func10, Tryd.ntmps10
    go_wp2_with (go_at_call 18; refine (Rm.itoa_calls a0 hq0.out hq1.out _ htab.out).mono ?_; rintro e w' ⟨rfl, hb⟩)
    go_ret
    exact ⟨rfl, hb⟩
  · rw [if_neg hb] at h
    exact absurd h (by simp)

