-- written by wip/pp.py of this session (the kit's print with patches); checked by Lean alone
import Derived.Test.YtfbadcjojkgibaaDoorNx0
import Derived.Test.YtfbadcjojkgibaaDoorNx1
import Derived.Test.YtfbadcjojkgibaaDoorNx2
import Derived.Test.YtfbadcjojkgibaaDoorNx3
import Derived.Test.YtfbadcjojkgibaaDoorNx8
namespace Go.Proofs.YtfbadcjojkgibaaDoor.N
open Go.RowKit Go.Proofs.YtfbadcjojkgibaaDoorW.PrintWords Go.Proofs.YtfbadcjojkgibaaDoorW.PrintLast Go.Proofs.YtfbadcjojkgibaaDoorW.PrintMore
attribute [local go_sem] max2_int min2_int max_two min_two max_three min_three max_four min_four   -- for this text's walks alone
set_option linter.unusedVariables false
set_option linter.unusedSimpArgs false

/-! ### endonymlaw20_NameLies: function 7 -/
mutual
def endonymlaw20_NameLies.j0 : Nat → ByteArray → ByteArray → ByteArray → ByteArray → Bool → Option (Bool)
  | 0, _, _, _, _, _ => none
  | k + 1, x0, x1, x2, x3, x20 => if x20 = true then ((name_Below.f k x0 x3).bind fun t323 => (if t323 = true then ((name_Below.f k x2 x3).bind fun t324 => (if t324 = true then ((name_Below.f k x1 x3).bind fun t325 => (if t325 = true then ((name_Below.f k x2 x0).bind fun t326 => (if t326 = true then ((name_Below.f k x1 x0).bind fun t327 => (if t327 = true then (endonymlaw20_NameLies.j1 k x0) else (some false))) else (endonymlaw20_NameLies.j1 k x0))) else (some false))) else ((name_Below.f k x2 x0).bind fun t328 => (if t328 = true then ((name_Below.f k x1 x0).bind fun t329 => (if t329 = true then (endonymlaw20_NameLies.j1 k x0) else (some false))) else (endonymlaw20_NameLies.j1 k x0))))) else ((name_Below.f k x2 x0).bind fun t330 => (if t330 = true then ((name_Below.f k x1 x0).bind fun t331 => (if t331 = true then (endonymlaw20_NameLies.j1 k x0) else (some false))) else (endonymlaw20_NameLies.j1 k x0))))) else (endonymlaw20_NameLies.j1 k x0)
def endonymlaw20_NameLies.j1 : Nat → ByteArray → Option (Bool)
  | 0, _ => none
  | k + 1, x0 => (name_Parent.f x0).bind fun bt332 => (if (bt332.2 != (x0.toList != ([] : List UInt8))) = true then (endonymlaw20_NameLies.j2 k x0 bt332.1 bt332.2 true) else ((name_Below.f k x0 (⟨#[]⟩ : ByteArray)).bind fun t334 => (if t334 = true then ((name_Below.f k x0 x0).bind fun t335 => (endonymlaw20_NameLies.j2 k x0 bt332.1 bt332.2 (!t335))) else (endonymlaw20_NameLies.j2 k x0 bt332.1 bt332.2 true))))
def endonymlaw20_NameLies.j2 : Nat → ByteArray → ByteArray → Bool → Bool → Option (Bool)
  | 0, _, _, _, _ => none
  | k + 1, x0, x9, x10, x65 => if x65 = true then (some false) else ((endonymlaw20_told.f k).bind fun t336 => (if t336 = true then (if x10 = true then (if x9.toList = ([] : List UInt8) then ((name_Labels.f x0).bind fun t337 => (if (t337.length : Int) = 2 then (some true) else ((name_Compare.f k x9 x0).bind fun t340 => (if t340 < 0 then ((name_Below.f k x0 x9).bind fun t341 => (some t341)) else (some false))))) else ((name_Compare.f k x9 x0).bind fun t342 => (if t342 < 0 then ((name_Below.f k x0 x9).bind fun t343 => (some t343)) else (some false)))) else (some true)) else (some false)))
end
def endonymlaw20_NameLies.f (k : Nat) (a0 : ByteArray) (a1 : ByteArray) (a2 : ByteArray) (a3 : ByteArray) : Option (Bool) := (name_Compare.f k a0 a1).bind fun t321 => (if t321 ≤ 0 then ((name_Compare.f k a1 a2).bind fun t322 => (endonymlaw20_NameLies.j0 k a0 a1 a2 a3 (decide (t322 ≤ 0)))) else (endonymlaw20_NameLies.j0 k a0 a1 a2 a3 false))
theorem endonymlaw20_NameLies.mono_l : ∀ k, (∀ y0 y1 y2 y3 y4, LeO (endonymlaw20_NameLies.j0 k y0 y1 y2 y3 y4) (endonymlaw20_NameLies.j0 (k + 1) y0 y1 y2 y3 y4)) ∧ (∀ y0, LeO (endonymlaw20_NameLies.j1 k y0) (endonymlaw20_NameLies.j1 (k + 1) y0)) ∧ (∀ y0 y1 y2 y3, LeO (endonymlaw20_NameLies.j2 k y0 y1 y2 y3) (endonymlaw20_NameLies.j2 (k + 1) y0 y1 y2 y3))
  | 0 => ⟨fun _ _ _ _ _ r h => by simp [endonymlaw20_NameLies.j0] at h, fun _ r h => by simp [endonymlaw20_NameLies.j1] at h, fun _ _ _ _ r h => by simp [endonymlaw20_NameLies.j2] at h⟩
  | k + 1 => by
    obtain ⟨ih0, ih1, ih2⟩ := endonymlaw20_NameLies.mono_l k
    refine ⟨?_, ?_, ?_⟩
    · intro y0 y1 y2 y3 y4
      unfold endonymlaw20_NameLies.j0
      repeat' first
      | (with_reducible exact ih0 _ _ _ _ _)
      | (with_reducible exact ih1 _)
      | (with_reducible exact ih2 _ _ _ _)
      | (with_reducible exact endonymlaw20_told.mono _)
      | (with_reducible exact name_Below.mono _ _ _)
      | (with_reducible exact name_Compare.mono _ _ _)
      | (with_reducible exact LeO.refl _)
      | (with_reducible exact LeO.none _)
      | (with_reducible refine LeO.ite ?_ ?_)
      | (with_reducible refine LeO.bind ?_ (fun _ => ?_))
      | exact ih0 _ _ _ _ _
      | exact ih1 _
      | exact ih2 _ _ _ _
      | exact endonymlaw20_told.mono _
      | exact name_Below.mono _ _ _
      | exact name_Compare.mono _ _ _
      | exact LeO.none _
      | refine LeO.ite ?_ ?_
      | refine LeO.bind ?_ (fun _ => ?_)
    · intro y0
      unfold endonymlaw20_NameLies.j1
      repeat' first
      | (with_reducible exact ih0 _ _ _ _ _)
      | (with_reducible exact ih1 _)
      | (with_reducible exact ih2 _ _ _ _)
      | (with_reducible exact endonymlaw20_told.mono _)
      | (with_reducible exact name_Below.mono _ _ _)
      | (with_reducible exact name_Compare.mono _ _ _)
      | (with_reducible exact LeO.refl _)
      | (with_reducible exact LeO.none _)
      | (with_reducible refine LeO.ite ?_ ?_)
      | (with_reducible refine LeO.bind ?_ (fun _ => ?_))
      | exact ih0 _ _ _ _ _
      | exact ih1 _
      | exact ih2 _ _ _ _
      | exact endonymlaw20_told.mono _
      | exact name_Below.mono _ _ _
      | exact name_Compare.mono _ _ _
      | exact LeO.none _
      | refine LeO.ite ?_ ?_
      | refine LeO.bind ?_ (fun _ => ?_)
    · intro y0 y1 y2 y3
      unfold endonymlaw20_NameLies.j2
      repeat' first
      | (with_reducible exact ih0 _ _ _ _ _)
      | (with_reducible exact ih1 _)
      | (with_reducible exact ih2 _ _ _ _)
      | (with_reducible exact endonymlaw20_told.mono _)
      | (with_reducible exact name_Below.mono _ _ _)
      | (with_reducible exact name_Compare.mono _ _ _)
      | (with_reducible exact LeO.refl _)
      | (with_reducible exact LeO.none _)
      | (with_reducible refine LeO.ite ?_ ?_)
      | (with_reducible refine LeO.bind ?_ (fun _ => ?_))
      | exact ih0 _ _ _ _ _
      | exact ih1 _
      | exact ih2 _ _ _ _
      | exact endonymlaw20_told.mono _
      | exact name_Below.mono _ _ _
      | exact name_Compare.mono _ _ _
      | exact LeO.none _
      | refine LeO.ite ?_ ?_
      | refine LeO.bind ?_ (fun _ => ?_)
theorem endonymlaw20_NameLies.mono : ∀ a0 a1 a2 a3 k, LeO (endonymlaw20_NameLies.f k a0 a1 a2 a3) (endonymlaw20_NameLies.f (k + 1) a0 a1 a2 a3) := by
  intro a0 a1 a2 a3 k
  obtain ⟨ih0, ih1, ih2⟩ := endonymlaw20_NameLies.mono_l k
  unfold endonymlaw20_NameLies.f
  repeat' first
      | (with_reducible exact ih0 _ _ _ _ _)
      | (with_reducible exact ih1 _)
      | (with_reducible exact ih2 _ _ _ _)
      | (with_reducible exact endonymlaw20_told.mono _)
      | (with_reducible exact name_Below.mono _ _ _)
      | (with_reducible exact name_Compare.mono _ _ _)
      | (with_reducible exact LeO.refl _)
      | (with_reducible exact LeO.none _)
      | (with_reducible refine LeO.ite ?_ ?_)
      | (with_reducible refine LeO.bind ?_ (fun _ => ?_))
      | exact ih0 _ _ _ _ _
      | exact ih1 _
      | exact ih2 _ _ _ _
      | exact endonymlaw20_told.mono _
      | exact name_Below.mono _ _ _
      | exact name_Compare.mono _ _ _
      | exact LeO.none _
      | refine LeO.ite ?_ ?_
      | refine LeO.bind ?_ (fun _ => ?_)
set_option maxHeartbeats 8000000 in
set_option maxRecDepth 100000 in
theorem endonymlaw20_NameLies.calls (k : Nat) (a0 : ByteArray) (a1 : ByteArray) (a2 : ByteArray) (a3 : ByteArray) (r : Bool) (w : World) (h : endonymlaw20_NameLies.f k a0 a1 a2 a3 = some r) :
    Calls Tryd.prog 7 #[.string a0, .string a1, .string a2, .string a3] w fun e w' => e = .returned (.bool r) ∧ Below w.heap.size w w' := by
  have HB := Aside0.mk (Below.refl w.heap.size w)
  have H : ((name_Compare.f k a0 a1).bind fun t321 => (if t321 ≤ 0 then ((name_Compare.f k a1 a2).bind fun t322 => (endonymlaw20_NameLies.j0 k a0 a1 a2 a3 (decide (t322 ≤ 0)))) else (endonymlaw20_NameLies.j0 k a0 a1 a2 a3 false))) = some r := h
  clear h
  have HC5 := Aside0.mk H
  clear H
  go_enter Tryd.func7, Tryd.ntmps7
  go_upto_region 1 with (fail)
  go_cut [20] (fun v20 wc => ∃ (kq : Nat) (x20_4 : Bool), v20 = .bool x20_4 ∧ Aside0 (endonymlaw20_NameLies.j0 kq a0 a1 a2 a3 x20_4 = some r) ∧ Aside0 (kq ≤ k) ∧ Aside0 (Below w.heap.size w wc))
  case first =>
    have H := HC5.out
    clear HC5
    replace H := Option.bind_eq_some_iff.mp H
    obtain ⟨t321, A60, H⟩ := H
    replace H : (if t321 ≤ 0 then ((name_Compare.f k a1 a2).bind fun t322 => (endonymlaw20_NameLies.j0 k a0 a1 a2 a3 (decide (t322 ≤ 0)))) else (endonymlaw20_NameLies.j0 k a0 a1 a2 a3 false)) = some r := H
    have A6 := Aside0.mk A60
    clear A60
    by_cases c7 : t321 ≤ 0
    · rw [if_pos c7] at H
      have c7b0 : decide (t321 ≤ 0) = true := decide_eq_true c7
      clear c7
      (first | rw [c7b0] | (simp only [i64_w, i32_w]; rw [c7b0]) | skip)
      replace H := Option.bind_eq_some_iff.mp H
      obtain ⟨t322, A80, H⟩ := H
      replace H : (endonymlaw20_NameLies.j0 k a0 a1 a2 a3 (decide (t322 ≤ 0))) = some r := H
      have A8 := Aside0.mk A80
      clear A80
      have H' := Aside0.mk H
      clear H
      go_wp2_with (first | ((with_reducible refine gate_callee (f := 12) rfl ?_); refine goesL_ (some 13) rfl rfl Tryd.func12 (by kernel_rfl) rfl #[.string a0, .string a1] rfl (by (try simp only [List.map_toArray, List.map_cons, List.map_nil]); first | done | rfl | (simp only [List.length_drop, List.length_take]; rfl)) ?_; (with_reducible refine (name_Compare.calls k a0 a1 t321 _ A6.out).mono ?_); rintro e w9 ⟨rfl, hb⟩; refine ⟨_, rfl, ?_⟩; have n0_ := Aside0.mk (below_step (by repeat (first | (with_reducible first | exact HB.out | apply below_alloc | apply pw_below_drewN | apply below_drew1) | exact HB.out)) hb); clear HB; have HB := n0_; clear n0_; (try clear hb); (try clear hb2); (try clear hk); (try clear hi)) | (go_at_call 12; (with_reducible refine (name_Compare.calls k a1 a2 t322 _ A8.out).mono ?_); rintro e w10 ⟨rfl, hb⟩; have n0_ := Aside0.mk (below_step (by repeat (first | (with_reducible first | exact HB.out | apply below_alloc | apply pw_below_drewN | apply below_drew1) | exact HB.out)) hb); clear HB; have HB := n0_; clear n0_; (try clear hb); (try clear hb2); (try clear hk); (try clear hi)))
      go_meet
      case rel => exact ⟨_, (decide (t322 ≤ 0)), (by first | rfl | (simp; done) | (simp [*]; done)), H', ⟨by first | omega | exact Nat.le_refl _⟩, ⟨by repeat (first | (with_reducible first | exact HB.out | apply below_alloc | apply pw_below_drewN | apply below_drew1) | exact HB.out)⟩⟩
    · rw [if_neg c7] at H
      have c7b0 : decide (t321 ≤ 0) = false := decide_eq_false c7
      clear c7
      (first | rw [c7b0] | (simp only [i64_w, i32_w]; rw [c7b0]) | skip)
      have H' := Aside0.mk H
      clear H
      go_wp2_with (first | ((with_reducible refine gate_callee (f := 12) rfl ?_); refine goesL_ (some 13) rfl rfl Tryd.func12 (by kernel_rfl) rfl #[.string a0, .string a1] rfl (by (try simp only [List.map_toArray, List.map_cons, List.map_nil]); first | done | rfl | (simp only [List.length_drop, List.length_take]; rfl)) ?_; (with_reducible refine (name_Compare.calls k a0 a1 t321 _ A6.out).mono ?_); rintro e w11 ⟨rfl, hb⟩; refine ⟨_, rfl, ?_⟩; have n0_ := Aside0.mk (below_step (by repeat (first | (with_reducible first | exact HB.out | apply below_alloc | apply pw_below_drewN | apply below_drew1) | exact HB.out)) hb); clear HB; have HB := n0_; clear n0_; (try clear hb); (try clear hb2); (try clear hk); (try clear hi)))
      go_meet
      case rel => exact ⟨_, (false), (by first | rfl | (simp; done) | (simp [*]; done)), H', ⟨by first | omega | exact Nat.le_refl _⟩, ⟨by repeat (first | (with_reducible first | exact HB.out | apply below_alloc | apply pw_below_drewN | apply below_drew1) | exact HB.out)⟩⟩
  case rest =>
    clear HC5
    try clear c1
    try clear p2
    try clear c7
    try clear c7b0
    obtain ⟨kq, x20_4, rfl, HA, HJ4, HB⟩ := hcut
    cases kq with
    | zero => exact absurd HA.out (by simp [endonymlaw20_NameLies.j0])
    | succ kj4 =>
      have H := HA.out
      clear HA
      simp only [endonymlaw20_NameLies.j0] at H
      have HC12 := Aside0.mk H
      clear H
      go_upto_if 20 with (fail)
      go_cut [] (fun wc => ∃ (kq : Nat), Aside0 (endonymlaw20_NameLies.j1 kq a0 = some r) ∧ Aside0 (kq ≤ kj4) ∧ Aside0 (Below w.heap.size w wc))
      case first =>
        have H := HC12.out
        clear HC12
        by_cases c13 : x20_4 = true
        · subst c13
          have H1 : ((name_Below.f kj4 a0 a3).bind fun t323 => (if t323 = true then ((name_Below.f kj4 a2 a3).bind fun t324 => (if t324 = true then ((name_Below.f kj4 a1 a3).bind fun t325 => (if t325 = true then ((name_Below.f kj4 a2 a0).bind fun t326 => (if t326 = true then ((name_Below.f kj4 a1 a0).bind fun t327 => (if t327 = true then (endonymlaw20_NameLies.j1 kj4 a0) else (some false))) else (endonymlaw20_NameLies.j1 kj4 a0))) else (some false))) else ((name_Below.f kj4 a2 a0).bind fun t328 => (if t328 = true then ((name_Below.f kj4 a1 a0).bind fun t329 => (if t329 = true then (endonymlaw20_NameLies.j1 kj4 a0) else (some false))) else (endonymlaw20_NameLies.j1 kj4 a0))))) else ((name_Below.f kj4 a2 a0).bind fun t330 => (if t330 = true then ((name_Below.f kj4 a1 a0).bind fun t331 => (if t331 = true then (endonymlaw20_NameLies.j1 kj4 a0) else (some false))) else (endonymlaw20_NameLies.j1 kj4 a0))))) = some r := by rw [if_pos rfl] at H; exact H
          clear H
          have H := H1
          clear H1
          replace H := Option.bind_eq_some_iff.mp H
          obtain ⟨t323, A140, H⟩ := H
          replace H : (if t323 = true then ((name_Below.f kj4 a2 a3).bind fun t324 => (if t324 = true then ((name_Below.f kj4 a1 a3).bind fun t325 => (if t325 = true then ((name_Below.f kj4 a2 a0).bind fun t326 => (if t326 = true then ((name_Below.f kj4 a1 a0).bind fun t327 => (if t327 = true then (endonymlaw20_NameLies.j1 kj4 a0) else (some false))) else (endonymlaw20_NameLies.j1 kj4 a0))) else (some false))) else ((name_Below.f kj4 a2 a0).bind fun t328 => (if t328 = true then ((name_Below.f kj4 a1 a0).bind fun t329 => (if t329 = true then (endonymlaw20_NameLies.j1 kj4 a0) else (some false))) else (endonymlaw20_NameLies.j1 kj4 a0))))) else ((name_Below.f kj4 a2 a0).bind fun t330 => (if t330 = true then ((name_Below.f kj4 a1 a0).bind fun t331 => (if t331 = true then (endonymlaw20_NameLies.j1 kj4 a0) else (some false))) else (endonymlaw20_NameLies.j1 kj4 a0)))) = some r := H
          have A14 := Aside0.mk A140
          clear A140
          by_cases c15 : t323 = true
          · subst c15
            have H1 : ((name_Below.f kj4 a2 a3).bind fun t324 => (if t324 = true then ((name_Below.f kj4 a1 a3).bind fun t325 => (if t325 = true then ((name_Below.f kj4 a2 a0).bind fun t326 => (if t326 = true then ((name_Below.f kj4 a1 a0).bind fun t327 => (if t327 = true then (endonymlaw20_NameLies.j1 kj4 a0) else (some false))) else (endonymlaw20_NameLies.j1 kj4 a0))) else (some false))) else ((name_Below.f kj4 a2 a0).bind fun t328 => (if t328 = true then ((name_Below.f kj4 a1 a0).bind fun t329 => (if t329 = true then (endonymlaw20_NameLies.j1 kj4 a0) else (some false))) else (endonymlaw20_NameLies.j1 kj4 a0))))) = some r := by rw [if_pos rfl] at H; exact H
            clear H
            have H := H1
            clear H1
            replace H := Option.bind_eq_some_iff.mp H
            obtain ⟨t324, A160, H⟩ := H
            replace H : (if t324 = true then ((name_Below.f kj4 a1 a3).bind fun t325 => (if t325 = true then ((name_Below.f kj4 a2 a0).bind fun t326 => (if t326 = true then ((name_Below.f kj4 a1 a0).bind fun t327 => (if t327 = true then (endonymlaw20_NameLies.j1 kj4 a0) else (some false))) else (endonymlaw20_NameLies.j1 kj4 a0))) else (some false))) else ((name_Below.f kj4 a2 a0).bind fun t328 => (if t328 = true then ((name_Below.f kj4 a1 a0).bind fun t329 => (if t329 = true then (endonymlaw20_NameLies.j1 kj4 a0) else (some false))) else (endonymlaw20_NameLies.j1 kj4 a0)))) = some r := H
            have A16 := Aside0.mk A160
            clear A160
            by_cases c17 : t324 = true
            · subst c17
              have H1 : ((name_Below.f kj4 a1 a3).bind fun t325 => (if t325 = true then ((name_Below.f kj4 a2 a0).bind fun t326 => (if t326 = true then ((name_Below.f kj4 a1 a0).bind fun t327 => (if t327 = true then (endonymlaw20_NameLies.j1 kj4 a0) else (some false))) else (endonymlaw20_NameLies.j1 kj4 a0))) else (some false))) = some r := by rw [if_pos rfl] at H; exact H
              clear H
              have H := H1
              clear H1
              replace H := Option.bind_eq_some_iff.mp H
              obtain ⟨t325, A180, H⟩ := H
              replace H : (if t325 = true then ((name_Below.f kj4 a2 a0).bind fun t326 => (if t326 = true then ((name_Below.f kj4 a1 a0).bind fun t327 => (if t327 = true then (endonymlaw20_NameLies.j1 kj4 a0) else (some false))) else (endonymlaw20_NameLies.j1 kj4 a0))) else (some false)) = some r := H
              have A18 := Aside0.mk A180
              clear A180
              by_cases c19 : t325 = true
              · subst c19
                have H1 : ((name_Below.f kj4 a2 a0).bind fun t326 => (if t326 = true then ((name_Below.f kj4 a1 a0).bind fun t327 => (if t327 = true then (endonymlaw20_NameLies.j1 kj4 a0) else (some false))) else (endonymlaw20_NameLies.j1 kj4 a0))) = some r := by rw [if_pos rfl] at H; exact H
                clear H
                have H := H1
                clear H1
                replace H := Option.bind_eq_some_iff.mp H
                obtain ⟨t326, A200, H⟩ := H
                replace H : (if t326 = true then ((name_Below.f kj4 a1 a0).bind fun t327 => (if t327 = true then (endonymlaw20_NameLies.j1 kj4 a0) else (some false))) else (endonymlaw20_NameLies.j1 kj4 a0)) = some r := H
                have A20 := Aside0.mk A200
                clear A200
                by_cases c21 : t326 = true
                · subst c21
                  have H1 : ((name_Below.f kj4 a1 a0).bind fun t327 => (if t327 = true then (endonymlaw20_NameLies.j1 kj4 a0) else (some false))) = some r := by rw [if_pos rfl] at H; exact H
                  clear H
                  have H := H1
                  clear H1
                  replace H := Option.bind_eq_some_iff.mp H
                  obtain ⟨t327, A220, H⟩ := H
                  replace H : (if t327 = true then (endonymlaw20_NameLies.j1 kj4 a0) else (some false)) = some r := H
                  have A22 := Aside0.mk A220
                  clear A220
                  by_cases c23 : t327 = true
                  · subst c23
                    have H1 : (endonymlaw20_NameLies.j1 kj4 a0) = some r := by rw [if_pos rfl] at H; exact H
                    clear H
                    have H := H1
                    clear H1
                    have H' := Aside0.mk H
                    clear H
                    go_wp2_with (first | ((with_reducible refine gate_callee (f := 14) rfl ?_); refine goesL_ (some 23) rfl rfl Tryd.func14 (by kernel_rfl) rfl #[.string a0, .string a3] rfl (by (try simp only [List.map_toArray, List.map_cons, List.map_nil]); first | done | rfl | (simp only [List.length_drop, List.length_take]; rfl)) ?_; (with_reducible refine (name_Below.calls kj4 a0 a3 true _ A14.out).mono ?_); rintro e w24 ⟨rfl, hb⟩; refine ⟨_, rfl, ?_⟩; have n0_ := Aside0.mk (below_step (by repeat (first | (with_reducible first | exact HB.out | apply below_alloc | apply pw_below_drewN | apply below_drew1) | exact HB.out)) hb); clear HB; have HB := n0_; clear n0_; (try clear hb); (try clear hb2); (try clear hk); (try clear hi)) | (go_at_call 14; (with_reducible refine (name_Below.calls kj4 a2 a3 true _ A16.out).mono ?_); rintro e w25 ⟨rfl, hb⟩; have n0_ := Aside0.mk (below_step (by repeat (first | (with_reducible first | exact HB.out | apply below_alloc | apply pw_below_drewN | apply below_drew1) | exact HB.out)) hb); clear HB; have HB := n0_; clear n0_; (try clear hb); (try clear hb2); (try clear hk); (try clear hi)) | (go_at_call 14; (with_reducible refine (name_Below.calls kj4 a1 a3 true _ A18.out).mono ?_); rintro e w26 ⟨rfl, hb⟩; have n0_ := Aside0.mk (below_step (by repeat (first | (with_reducible first | exact HB.out | apply below_alloc | apply pw_below_drewN | apply below_drew1) | exact HB.out)) hb); clear HB; have HB := n0_; clear n0_; (try clear hb); (try clear hb2); (try clear hk); (try clear hi)) | (go_at_call 14; (with_reducible refine (name_Below.calls kj4 a2 a0 true _ A20.out).mono ?_); rintro e w27 ⟨rfl, hb⟩; have n0_ := Aside0.mk (below_step (by repeat (first | (with_reducible first | exact HB.out | apply below_alloc | apply pw_below_drewN | apply below_drew1) | exact HB.out)) hb); clear HB; have HB := n0_; clear n0_; (try clear hb); (try clear hb2); (try clear hk); (try clear hi)) | (go_at_call 14; (with_reducible refine (name_Below.calls kj4 a1 a0 true _ A22.out).mono ?_); rintro e w28 ⟨rfl, hb⟩; have n0_ := Aside0.mk (below_step (by repeat (first | (with_reducible first | exact HB.out | apply below_alloc | apply pw_below_drewN | apply below_drew1) | exact HB.out)) hb); clear HB; have HB := n0_; clear n0_; (try clear hb); (try clear hb2); (try clear hk); (try clear hi)))
                    go_meet
                    case rel => exact ⟨_, H', ⟨by have := HJ4.out; first | omega | exact Nat.le_refl _⟩, ⟨by repeat (first | (with_reducible first | exact HB.out | apply below_alloc | apply pw_below_drewN | apply below_drew1) | exact HB.out)⟩⟩
                  · replace c23 := Bool.eq_false_iff.mpr c23
                    subst c23
                    have H1 : (some false) = some r := by rw [if_neg (show ¬ (false = true) by decide)] at H; exact H
                    clear H
                    have H := H1
                    clear H1
                    obtain rfl := Option.some.inj H
                    go_wp2_with (first | ((with_reducible refine gate_callee (f := 14) rfl ?_); refine goesL_ (some 23) rfl rfl Tryd.func14 (by kernel_rfl) rfl #[.string a0, .string a3] rfl (by (try simp only [List.map_toArray, List.map_cons, List.map_nil]); first | done | rfl | (simp only [List.length_drop, List.length_take]; rfl)) ?_; (with_reducible refine (name_Below.calls kj4 a0 a3 true _ A14.out).mono ?_); rintro e w29 ⟨rfl, hb⟩; refine ⟨_, rfl, ?_⟩; have n0_ := Aside0.mk (below_step (by repeat (first | (with_reducible first | exact HB.out | apply below_alloc | apply pw_below_drewN | apply below_drew1) | exact HB.out)) hb); clear HB; have HB := n0_; clear n0_; (try clear hb); (try clear hb2); (try clear hk); (try clear hi)) | (go_at_call 14; (with_reducible refine (name_Below.calls kj4 a2 a3 true _ A16.out).mono ?_); rintro e w30 ⟨rfl, hb⟩; have n0_ := Aside0.mk (below_step (by repeat (first | (with_reducible first | exact HB.out | apply below_alloc | apply pw_below_drewN | apply below_drew1) | exact HB.out)) hb); clear HB; have HB := n0_; clear n0_; (try clear hb); (try clear hb2); (try clear hk); (try clear hi)) | (go_at_call 14; (with_reducible refine (name_Below.calls kj4 a1 a3 true _ A18.out).mono ?_); rintro e w31 ⟨rfl, hb⟩; have n0_ := Aside0.mk (below_step (by repeat (first | (with_reducible first | exact HB.out | apply below_alloc | apply pw_below_drewN | apply below_drew1) | exact HB.out)) hb); clear HB; have HB := n0_; clear n0_; (try clear hb); (try clear hb2); (try clear hk); (try clear hi)) | (go_at_call 14; (with_reducible refine (name_Below.calls kj4 a2 a0 true _ A20.out).mono ?_); rintro e w32 ⟨rfl, hb⟩; have n0_ := Aside0.mk (below_step (by repeat (first | (with_reducible first | exact HB.out | apply below_alloc | apply pw_below_drewN | apply below_drew1) | exact HB.out)) hb); clear HB; have HB := n0_; clear n0_; (try clear hb); (try clear hb2); (try clear hk); (try clear hi)) | (go_at_call 14; (with_reducible refine (name_Below.calls kj4 a1 a0 false _ A22.out).mono ?_); rintro e w33 ⟨rfl, hb⟩; have n0_ := Aside0.mk (below_step (by repeat (first | (with_reducible first | exact HB.out | apply below_alloc | apply pw_below_drewN | apply below_drew1) | exact HB.out)) hb); clear HB; have HB := n0_; clear n0_; (try clear hb); (try clear hb2); (try clear hk); (try clear hi)))
                    go_ret
                    exact ⟨by first | rfl | (simp [errW_none, errW_some] <;> rfl) | (simp [*, errW_none, errW_some] <;> rfl), by repeat (first | (with_reducible first | exact HB.out | apply below_alloc | apply pw_below_drewN | apply below_drew1) | exact HB.out)⟩
                · replace c21 := Bool.eq_false_iff.mpr c21
                  subst c21
                  have H1 : (endonymlaw20_NameLies.j1 kj4 a0) = some r := by rw [if_neg (show ¬ (false = true) by decide)] at H; exact H
                  clear H
                  have H := H1
                  clear H1
                  have H' := Aside0.mk H
                  clear H
                  go_wp2_with (first | ((with_reducible refine gate_callee (f := 14) rfl ?_); refine goesL_ (some 23) rfl rfl Tryd.func14 (by kernel_rfl) rfl #[.string a0, .string a3] rfl (by (try simp only [List.map_toArray, List.map_cons, List.map_nil]); first | done | rfl | (simp only [List.length_drop, List.length_take]; rfl)) ?_; (with_reducible refine (name_Below.calls kj4 a0 a3 true _ A14.out).mono ?_); rintro e w34 ⟨rfl, hb⟩; refine ⟨_, rfl, ?_⟩; have n0_ := Aside0.mk (below_step (by repeat (first | (with_reducible first | exact HB.out | apply below_alloc | apply pw_below_drewN | apply below_drew1) | exact HB.out)) hb); clear HB; have HB := n0_; clear n0_; (try clear hb); (try clear hb2); (try clear hk); (try clear hi)) | (go_at_call 14; (with_reducible refine (name_Below.calls kj4 a2 a3 true _ A16.out).mono ?_); rintro e w35 ⟨rfl, hb⟩; have n0_ := Aside0.mk (below_step (by repeat (first | (with_reducible first | exact HB.out | apply below_alloc | apply pw_below_drewN | apply below_drew1) | exact HB.out)) hb); clear HB; have HB := n0_; clear n0_; (try clear hb); (try clear hb2); (try clear hk); (try clear hi)) | (go_at_call 14; (with_reducible refine (name_Below.calls kj4 a1 a3 true _ A18.out).mono ?_); rintro e w36 ⟨rfl, hb⟩; have n0_ := Aside0.mk (below_step (by repeat (first | (with_reducible first | exact HB.out | apply below_alloc | apply pw_below_drewN | apply below_drew1) | exact HB.out)) hb); clear HB; have HB := n0_; clear n0_; (try clear hb); (try clear hb2); (try clear hk); (try clear hi)) | (go_at_call 14; (with_reducible refine (name_Below.calls kj4 a2 a0 false _ A20.out).mono ?_); rintro e w37 ⟨rfl, hb⟩; have n0_ := Aside0.mk (below_step (by repeat (first | (with_reducible first | exact HB.out | apply below_alloc | apply pw_below_drewN | apply below_drew1) | exact HB.out)) hb); clear HB; have HB := n0_; clear n0_; (try clear hb); (try clear hb2); (try clear hk); (try clear hi)))
                  go_meet
                  case rel => exact ⟨_, H', ⟨by have := HJ4.out; first | omega | exact Nat.le_refl _⟩, ⟨by repeat (first | (with_reducible first | exact HB.out | apply below_alloc | apply pw_below_drewN | apply below_drew1) | exact HB.out)⟩⟩
              · replace c19 := Bool.eq_false_iff.mpr c19
                subst c19
                have H1 : (some false) = some r := by rw [if_neg (show ¬ (false = true) by decide)] at H; exact H
                clear H
                have H := H1
                clear H1
                obtain rfl := Option.some.inj H
                go_wp2_with (first | ((with_reducible refine gate_callee (f := 14) rfl ?_); refine goesL_ (some 23) rfl rfl Tryd.func14 (by kernel_rfl) rfl #[.string a0, .string a3] rfl (by (try simp only [List.map_toArray, List.map_cons, List.map_nil]); first | done | rfl | (simp only [List.length_drop, List.length_take]; rfl)) ?_; (with_reducible refine (name_Below.calls kj4 a0 a3 true _ A14.out).mono ?_); rintro e w38 ⟨rfl, hb⟩; refine ⟨_, rfl, ?_⟩; have n0_ := Aside0.mk (below_step (by repeat (first | (with_reducible first | exact HB.out | apply below_alloc | apply pw_below_drewN | apply below_drew1) | exact HB.out)) hb); clear HB; have HB := n0_; clear n0_; (try clear hb); (try clear hb2); (try clear hk); (try clear hi)) | (go_at_call 14; (with_reducible refine (name_Below.calls kj4 a2 a3 true _ A16.out).mono ?_); rintro e w39 ⟨rfl, hb⟩; have n0_ := Aside0.mk (below_step (by repeat (first | (with_reducible first | exact HB.out | apply below_alloc | apply pw_below_drewN | apply below_drew1) | exact HB.out)) hb); clear HB; have HB := n0_; clear n0_; (try clear hb); (try clear hb2); (try clear hk); (try clear hi)) | (go_at_call 14; (with_reducible refine (name_Below.calls kj4 a1 a3 false _ A18.out).mono ?_); rintro e w40 ⟨rfl, hb⟩; have n0_ := Aside0.mk (below_step (by repeat (first | (with_reducible first | exact HB.out | apply below_alloc | apply pw_below_drewN | apply below_drew1) | exact HB.out)) hb); clear HB; have HB := n0_; clear n0_; (try clear hb); (try clear hb2); (try clear hk); (try clear hi)))
                go_ret
                exact ⟨by first | rfl | (simp [errW_none, errW_some] <;> rfl) | (simp [*, errW_none, errW_some] <;> rfl), by repeat (first | (with_reducible first | exact HB.out | apply below_alloc | apply pw_below_drewN | apply below_drew1) | exact HB.out)⟩
            · replace c17 := Bool.eq_false_iff.mpr c17
              subst c17
              have H1 : ((name_Below.f kj4 a2 a0).bind fun t328 => (if t328 = true then ((name_Below.f kj4 a1 a0).bind fun t329 => (if t329 = true then (endonymlaw20_NameLies.j1 kj4 a0) else (some false))) else (endonymlaw20_NameLies.j1 kj4 a0))) = some r := by rw [if_neg (show ¬ (false = true) by decide)] at H; exact H
              clear H
              have H := H1
              clear H1
              replace H := Option.bind_eq_some_iff.mp H
              obtain ⟨t328, A410, H⟩ := H
              replace H : (if t328 = true then ((name_Below.f kj4 a1 a0).bind fun t329 => (if t329 = true then (endonymlaw20_NameLies.j1 kj4 a0) else (some false))) else (endonymlaw20_NameLies.j1 kj4 a0)) = some r := H
              have A41 := Aside0.mk A410
              clear A410
              by_cases c42 : t328 = true
              · subst c42
                have H1 : ((name_Below.f kj4 a1 a0).bind fun t329 => (if t329 = true then (endonymlaw20_NameLies.j1 kj4 a0) else (some false))) = some r := by rw [if_pos rfl] at H; exact H
                clear H
                have H := H1
                clear H1
                replace H := Option.bind_eq_some_iff.mp H
                obtain ⟨t329, A430, H⟩ := H
                replace H : (if t329 = true then (endonymlaw20_NameLies.j1 kj4 a0) else (some false)) = some r := H
                have A43 := Aside0.mk A430
                clear A430
                by_cases c44 : t329 = true
                · subst c44
                  have H1 : (endonymlaw20_NameLies.j1 kj4 a0) = some r := by rw [if_pos rfl] at H; exact H
                  clear H
                  have H := H1
                  clear H1
                  have H' := Aside0.mk H
                  clear H
                  go_wp2_with (first | ((with_reducible refine gate_callee (f := 14) rfl ?_); refine goesL_ (some 23) rfl rfl Tryd.func14 (by kernel_rfl) rfl #[.string a0, .string a3] rfl (by (try simp only [List.map_toArray, List.map_cons, List.map_nil]); first | done | rfl | (simp only [List.length_drop, List.length_take]; rfl)) ?_; (with_reducible refine (name_Below.calls kj4 a0 a3 true _ A14.out).mono ?_); rintro e w45 ⟨rfl, hb⟩; refine ⟨_, rfl, ?_⟩; have n0_ := Aside0.mk (below_step (by repeat (first | (with_reducible first | exact HB.out | apply below_alloc | apply pw_below_drewN | apply below_drew1) | exact HB.out)) hb); clear HB; have HB := n0_; clear n0_; (try clear hb); (try clear hb2); (try clear hk); (try clear hi)) | (go_at_call 14; (with_reducible refine (name_Below.calls kj4 a2 a3 false _ A16.out).mono ?_); rintro e w46 ⟨rfl, hb⟩; have n0_ := Aside0.mk (below_step (by repeat (first | (with_reducible first | exact HB.out | apply below_alloc | apply pw_below_drewN | apply below_drew1) | exact HB.out)) hb); clear HB; have HB := n0_; clear n0_; (try clear hb); (try clear hb2); (try clear hk); (try clear hi)) | (go_at_call 14; (with_reducible refine (name_Below.calls kj4 a2 a0 true _ A41.out).mono ?_); rintro e w47 ⟨rfl, hb⟩; have n0_ := Aside0.mk (below_step (by repeat (first | (with_reducible first | exact HB.out | apply below_alloc | apply pw_below_drewN | apply below_drew1) | exact HB.out)) hb); clear HB; have HB := n0_; clear n0_; (try clear hb); (try clear hb2); (try clear hk); (try clear hi)) | (go_at_call 14; (with_reducible refine (name_Below.calls kj4 a1 a0 true _ A43.out).mono ?_); rintro e w48 ⟨rfl, hb⟩; have n0_ := Aside0.mk (below_step (by repeat (first | (with_reducible first | exact HB.out | apply below_alloc | apply pw_below_drewN | apply below_drew1) | exact HB.out)) hb); clear HB; have HB := n0_; clear n0_; (try clear hb); (try clear hb2); (try clear hk); (try clear hi)))
                  go_meet
                  case rel => exact ⟨_, H', ⟨by have := HJ4.out; first | omega | exact Nat.le_refl _⟩, ⟨by repeat (first | (with_reducible first | exact HB.out | apply below_alloc | apply pw_below_drewN | apply below_drew1) | exact HB.out)⟩⟩
                · replace c44 := Bool.eq_false_iff.mpr c44
                  subst c44
                  have H1 : (some false) = some r := by rw [if_neg (show ¬ (false = true) by decide)] at H; exact H
                  clear H
                  have H := H1
                  clear H1
                  obtain rfl := Option.some.inj H
                  go_wp2_with (first | ((with_reducible refine gate_callee (f := 14) rfl ?_); refine goesL_ (some 23) rfl rfl Tryd.func14 (by kernel_rfl) rfl #[.string a0, .string a3] rfl (by (try simp only [List.map_toArray, List.map_cons, List.map_nil]); first | done | rfl | (simp only [List.length_drop, List.length_take]; rfl)) ?_; (with_reducible refine (name_Below.calls kj4 a0 a3 true _ A14.out).mono ?_); rintro e w49 ⟨rfl, hb⟩; refine ⟨_, rfl, ?_⟩; have n0_ := Aside0.mk (below_step (by repeat (first | (with_reducible first | exact HB.out | apply below_alloc | apply pw_below_drewN | apply below_drew1) | exact HB.out)) hb); clear HB; have HB := n0_; clear n0_; (try clear hb); (try clear hb2); (try clear hk); (try clear hi)) | (go_at_call 14; (with_reducible refine (name_Below.calls kj4 a2 a3 false _ A16.out).mono ?_); rintro e w50 ⟨rfl, hb⟩; have n0_ := Aside0.mk (below_step (by repeat (first | (with_reducible first | exact HB.out | apply below_alloc | apply pw_below_drewN | apply below_drew1) | exact HB.out)) hb); clear HB; have HB := n0_; clear n0_; (try clear hb); (try clear hb2); (try clear hk); (try clear hi)) | (go_at_call 14; (with_reducible refine (name_Below.calls kj4 a2 a0 true _ A41.out).mono ?_); rintro e w51 ⟨rfl, hb⟩; have n0_ := Aside0.mk (below_step (by repeat (first | (with_reducible first | exact HB.out | apply below_alloc | apply pw_below_drewN | apply below_drew1) | exact HB.out)) hb); clear HB; have HB := n0_; clear n0_; (try clear hb); (try clear hb2); (try clear hk); (try clear hi)) | (go_at_call 14; (with_reducible refine (name_Below.calls kj4 a1 a0 false _ A43.out).mono ?_); rintro e w52 ⟨rfl, hb⟩; have n0_ := Aside0.mk (below_step (by repeat (first | (with_reducible first | exact HB.out | apply below_alloc | apply pw_below_drewN | apply below_drew1) | exact HB.out)) hb); clear HB; have HB := n0_; clear n0_; (try clear hb); (try clear hb2); (try clear hk); (try clear hi)))
                  go_ret
                  exact ⟨by first | rfl | (simp [errW_none, errW_some] <;> rfl) | (simp [*, errW_none, errW_some] <;> rfl), by repeat (first | (with_reducible first | exact HB.out | apply below_alloc | apply pw_below_drewN | apply below_drew1) | exact HB.out)⟩
              · replace c42 := Bool.eq_false_iff.mpr c42
                subst c42
                have H1 : (endonymlaw20_NameLies.j1 kj4 a0) = some r := by rw [if_neg (show ¬ (false = true) by decide)] at H; exact H
                clear H
                have H := H1
                clear H1
                have H' := Aside0.mk H
                clear H
                go_wp2_with (first | ((with_reducible refine gate_callee (f := 14) rfl ?_); refine goesL_ (some 23) rfl rfl Tryd.func14 (by kernel_rfl) rfl #[.string a0, .string a3] rfl (by (try simp only [List.map_toArray, List.map_cons, List.map_nil]); first | done | rfl | (simp only [List.length_drop, List.length_take]; rfl)) ?_; (with_reducible refine (name_Below.calls kj4 a0 a3 true _ A14.out).mono ?_); rintro e w53 ⟨rfl, hb⟩; refine ⟨_, rfl, ?_⟩; have n0_ := Aside0.mk (below_step (by repeat (first | (with_reducible first | exact HB.out | apply below_alloc | apply pw_below_drewN | apply below_drew1) | exact HB.out)) hb); clear HB; have HB := n0_; clear n0_; (try clear hb); (try clear hb2); (try clear hk); (try clear hi)) | (go_at_call 14; (with_reducible refine (name_Below.calls kj4 a2 a3 false _ A16.out).mono ?_); rintro e w54 ⟨rfl, hb⟩; have n0_ := Aside0.mk (below_step (by repeat (first | (with_reducible first | exact HB.out | apply below_alloc | apply pw_below_drewN | apply below_drew1) | exact HB.out)) hb); clear HB; have HB := n0_; clear n0_; (try clear hb); (try clear hb2); (try clear hk); (try clear hi)) | (go_at_call 14; (with_reducible refine (name_Below.calls kj4 a2 a0 false _ A41.out).mono ?_); rintro e w55 ⟨rfl, hb⟩; have n0_ := Aside0.mk (below_step (by repeat (first | (with_reducible first | exact HB.out | apply below_alloc | apply pw_below_drewN | apply below_drew1) | exact HB.out)) hb); clear HB; have HB := n0_; clear n0_; (try clear hb); (try clear hb2); (try clear hk); (try clear hi)))
                go_meet
                case rel => exact ⟨_, H', ⟨by have := HJ4.out; first | omega | exact Nat.le_refl _⟩, ⟨by repeat (first | (with_reducible first | exact HB.out | apply below_alloc | apply pw_below_drewN | apply below_drew1) | exact HB.out)⟩⟩
          · replace c15 := Bool.eq_false_iff.mpr c15
            subst c15
            have H1 : ((name_Below.f kj4 a2 a0).bind fun t330 => (if t330 = true then ((name_Below.f kj4 a1 a0).bind fun t331 => (if t331 = true then (endonymlaw20_NameLies.j1 kj4 a0) else (some false))) else (endonymlaw20_NameLies.j1 kj4 a0))) = some r := by rw [if_neg (show ¬ (false = true) by decide)] at H; exact H
            clear H
            have H := H1
            clear H1
            replace H := Option.bind_eq_some_iff.mp H
            obtain ⟨t330, A560, H⟩ := H
            replace H : (if t330 = true then ((name_Below.f kj4 a1 a0).bind fun t331 => (if t331 = true then (endonymlaw20_NameLies.j1 kj4 a0) else (some false))) else (endonymlaw20_NameLies.j1 kj4 a0)) = some r := H
            have A56 := Aside0.mk A560
            clear A560
            by_cases c57 : t330 = true
            · subst c57
              have H1 : ((name_Below.f kj4 a1 a0).bind fun t331 => (if t331 = true then (endonymlaw20_NameLies.j1 kj4 a0) else (some false))) = some r := by rw [if_pos rfl] at H; exact H
              clear H
              have H := H1
              clear H1
              replace H := Option.bind_eq_some_iff.mp H
              obtain ⟨t331, A580, H⟩ := H
              replace H : (if t331 = true then (endonymlaw20_NameLies.j1 kj4 a0) else (some false)) = some r := H
              have A58 := Aside0.mk A580
              clear A580
              by_cases c59 : t331 = true
              · subst c59
                have H1 : (endonymlaw20_NameLies.j1 kj4 a0) = some r := by rw [if_pos rfl] at H; exact H
                clear H
                have H := H1
                clear H1
                have H' := Aside0.mk H
                clear H
                go_wp2_with (first | ((with_reducible refine gate_callee (f := 14) rfl ?_); refine goesL_ (some 23) rfl rfl Tryd.func14 (by kernel_rfl) rfl #[.string a0, .string a3] rfl (by (try simp only [List.map_toArray, List.map_cons, List.map_nil]); first | done | rfl | (simp only [List.length_drop, List.length_take]; rfl)) ?_; (with_reducible refine (name_Below.calls kj4 a0 a3 false _ A14.out).mono ?_); rintro e w60 ⟨rfl, hb⟩; refine ⟨_, rfl, ?_⟩; have n0_ := Aside0.mk (below_step (by repeat (first | (with_reducible first | exact HB.out | apply below_alloc | apply pw_below_drewN | apply below_drew1) | exact HB.out)) hb); clear HB; have HB := n0_; clear n0_; (try clear hb); (try clear hb2); (try clear hk); (try clear hi)) | (go_at_call 14; (with_reducible refine (name_Below.calls kj4 a2 a0 true _ A56.out).mono ?_); rintro e w61 ⟨rfl, hb⟩; have n0_ := Aside0.mk (below_step (by repeat (first | (with_reducible first | exact HB.out | apply below_alloc | apply pw_below_drewN | apply below_drew1) | exact HB.out)) hb); clear HB; have HB := n0_; clear n0_; (try clear hb); (try clear hb2); (try clear hk); (try clear hi)) | (go_at_call 14; (with_reducible refine (name_Below.calls kj4 a1 a0 true _ A58.out).mono ?_); rintro e w62 ⟨rfl, hb⟩; have n0_ := Aside0.mk (below_step (by repeat (first | (with_reducible first | exact HB.out | apply below_alloc | apply pw_below_drewN | apply below_drew1) | exact HB.out)) hb); clear HB; have HB := n0_; clear n0_; (try clear hb); (try clear hb2); (try clear hk); (try clear hi)))
                go_meet
                case rel => exact ⟨_, H', ⟨by have := HJ4.out; first | omega | exact Nat.le_refl _⟩, ⟨by repeat (first | (with_reducible first | exact HB.out | apply below_alloc | apply pw_below_drewN | apply below_drew1) | exact HB.out)⟩⟩
              · replace c59 := Bool.eq_false_iff.mpr c59
                subst c59
                have H1 : (some false) = some r := by rw [if_neg (show ¬ (false = true) by decide)] at H; exact H
                clear H
                have H := H1
                clear H1
                obtain rfl := Option.some.inj H
                go_wp2_with (first | ((with_reducible refine gate_callee (f := 14) rfl ?_); refine goesL_ (some 23) rfl rfl Tryd.func14 (by kernel_rfl) rfl #[.string a0, .string a3] rfl (by (try simp only [List.map_toArray, List.map_cons, List.map_nil]); first | done | rfl | (simp only [List.length_drop, List.length_take]; rfl)) ?_; (with_reducible refine (name_Below.calls kj4 a0 a3 false _ A14.out).mono ?_); rintro e w63 ⟨rfl, hb⟩; refine ⟨_, rfl, ?_⟩; have n0_ := Aside0.mk (below_step (by repeat (first | (with_reducible first | exact HB.out | apply below_alloc | apply pw_below_drewN | apply below_drew1) | exact HB.out)) hb); clear HB; have HB := n0_; clear n0_; (try clear hb); (try clear hb2); (try clear hk); (try clear hi)) | (go_at_call 14; (with_reducible refine (name_Below.calls kj4 a2 a0 true _ A56.out).mono ?_); rintro e w64 ⟨rfl, hb⟩; have n0_ := Aside0.mk (below_step (by repeat (first | (with_reducible first | exact HB.out | apply below_alloc | apply pw_below_drewN | apply below_drew1) | exact HB.out)) hb); clear HB; have HB := n0_; clear n0_; (try clear hb); (try clear hb2); (try clear hk); (try clear hi)) | (go_at_call 14; (with_reducible refine (name_Below.calls kj4 a1 a0 false _ A58.out).mono ?_); rintro e w65 ⟨rfl, hb⟩; have n0_ := Aside0.mk (below_step (by repeat (first | (with_reducible first | exact HB.out | apply below_alloc | apply pw_below_drewN | apply below_drew1) | exact HB.out)) hb); clear HB; have HB := n0_; clear n0_; (try clear hb); (try clear hb2); (try clear hk); (try clear hi)))
                go_ret
                exact ⟨by first | rfl | (simp [errW_none, errW_some] <;> rfl) | (simp [*, errW_none, errW_some] <;> rfl), by repeat (first | (with_reducible first | exact HB.out | apply below_alloc | apply pw_below_drewN | apply below_drew1) | exact HB.out)⟩
            · replace c57 := Bool.eq_false_iff.mpr c57
              subst c57
              have H1 : (endonymlaw20_NameLies.j1 kj4 a0) = some r := by rw [if_neg (show ¬ (false = true) by decide)] at H; exact H
              clear H
              have H := H1
              clear H1
              have H' := Aside0.mk H
              clear H
              go_wp2_with (first | ((with_reducible refine gate_callee (f := 14) rfl ?_); refine goesL_ (some 23) rfl rfl Tryd.func14 (by kernel_rfl) rfl #[.string a0, .string a3] rfl (by (try simp only [List.map_toArray, List.map_cons, List.map_nil]); first | done | rfl | (simp only [List.length_drop, List.length_take]; rfl)) ?_; (with_reducible refine (name_Below.calls kj4 a0 a3 false _ A14.out).mono ?_); rintro e w66 ⟨rfl, hb⟩; refine ⟨_, rfl, ?_⟩; have n0_ := Aside0.mk (below_step (by repeat (first | (with_reducible first | exact HB.out | apply below_alloc | apply pw_below_drewN | apply below_drew1) | exact HB.out)) hb); clear HB; have HB := n0_; clear n0_; (try clear hb); (try clear hb2); (try clear hk); (try clear hi)) | (go_at_call 14; (with_reducible refine (name_Below.calls kj4 a2 a0 false _ A56.out).mono ?_); rintro e w67 ⟨rfl, hb⟩; have n0_ := Aside0.mk (below_step (by repeat (first | (with_reducible first | exact HB.out | apply below_alloc | apply pw_below_drewN | apply below_drew1) | exact HB.out)) hb); clear HB; have HB := n0_; clear n0_; (try clear hb); (try clear hb2); (try clear hk); (try clear hi)))
              go_meet
              case rel => exact ⟨_, H', ⟨by have := HJ4.out; first | omega | exact Nat.le_refl _⟩, ⟨by repeat (first | (with_reducible first | exact HB.out | apply below_alloc | apply pw_below_drewN | apply below_drew1) | exact HB.out)⟩⟩
        · replace c13 := Bool.eq_false_iff.mpr c13
          subst c13
          have H1 : (endonymlaw20_NameLies.j1 kj4 a0) = some r := by rw [if_neg (show ¬ (false = true) by decide)] at H; exact H
          clear H
          have H := H1
          clear H1
          have H' := Aside0.mk H
          clear H
          go_wp2
          go_meet
          case rel => exact ⟨_, H', ⟨by have := HJ4.out; first | omega | exact Nat.le_refl _⟩, ⟨by repeat (first | (with_reducible first | exact HB.out | apply below_alloc | apply pw_below_drewN | apply below_drew1) | exact HB.out)⟩⟩
      case rest =>
        clear HC12
        try clear c1
        try clear c2
        try clear p2
        try clear c4
        try clear c5
        try clear c7
        try clear c7b0
        try clear c12
        try clear c13
        try clear c14
        try clear c15
        try clear c17
        try clear c19
        try clear c21
        try clear c23
        try clear c42
        try clear c44
        try clear c57
        try clear c59
        try clear p2
        obtain ⟨kq, HA, HJ11, HB⟩ := hcut
        cases kq with
        | zero => exact absurd HA.out (by simp [endonymlaw20_NameLies.j1])
        | succ kj11 =>
          have H := HA.out
          clear HA
          simp only [endonymlaw20_NameLies.j1] at H
          replace H := Option.bind_eq_some_iff.mp H
          obtain ⟨⟨t332, t333⟩, A680, H⟩ := H
          replace H : (if (t333 != (a0.toList != ([] : List UInt8))) = true then (endonymlaw20_NameLies.j2 kj11 a0 t332 t333 true) else ((name_Below.f kj11 a0 (⟨#[]⟩ : ByteArray)).bind fun t334 => (if t334 = true then ((name_Below.f kj11 a0 a0).bind fun t335 => (endonymlaw20_NameLies.j2 kj11 a0 t332 t333 (!t335))) else (endonymlaw20_NameLies.j2 kj11 a0 t332 t333 true)))) = some r := H
          have A68 := Aside0.mk A680
          clear A680
          have HC69 := Aside0.mk H
          clear H
          go_upto_region 5 with (first | ((with_reducible refine gate_callee (f := 9) rfl ?_); refine goesL_ (some 48) rfl rfl Tryd.func9 (by kernel_rfl) rfl #[.string a0] rfl (by (try simp only [List.map_toArray, List.map_cons, List.map_nil]); first | done | rfl | (simp only [List.length_drop, List.length_take]; rfl)) ?_; (with_reducible refine (name_Parent.calls a0 t332 t333 _ A68.out).mono ?_); rintro e w' ⟨rfl, ⟨nd, rfl⟩⟩; refine ⟨_, rfl, ?_⟩))
          (try simp only [Act.put, List.setIfInBounds_toArray, List.set_cons_zero, List.set_cons_succ])
          go_cut [65] (fun v65 wc => ∃ (kq : Nat) (x65_68 : Bool), v65 = .bool x65_68 ∧ Aside0 (endonymlaw20_NameLies.j2 kq a0 t332 t333 x65_68 = some r) ∧ Aside0 (kq ≤ kj11) ∧ Aside0 (Below w.heap.size w wc))
          case first =>
            have H := HC69.out
            clear HC69
            by_cases c70 : (t333 != (a0.toList != ([] : List UInt8))) = true
            · rw [if_pos c70] at H
              have c70b0 : (t333 != (a0.toList != ([] : List UInt8))) = true := c70
              (have c70b8 : (t333 != !a0.toList.isEmpty) = true := by have h_ := c70b0; rw [show (a0.toList != ([] : List UInt8)) = !a0.toList.isEmpty from by cases a0.toList <;> rfl] at h_; exact h_)
              (have c70b9 : (t333 == a0.toList.isEmpty) = true := by have h_ := c70b8; revert h_; cases t333 <;> cases a0.toList.isEmpty <;> decide)
              (have c70b7 : (t333 = !a0.toList.isEmpty) = False := by have h_ := c70b8; revert h_; cases t333 <;> cases a0.toList.isEmpty <;> decide)
              (try (have c70b1 : decide (t333 = (a0.toList != ([] : List UInt8))) = false := by simpa using c70))
              (try (have c70b2 : (t333 == (a0.toList != ([] : List UInt8))) = false := by simpa using c70))
              (try (have c70b3 : ¬ (t333 = (a0.toList != ([] : List UInt8))) := by simpa using c70))
              clear c70
              (first | rw [c70b0] | (simp only [i64_w, i32_w]; rw [c70b0]) | skip)
              have H' := Aside0.mk H
              clear H
              go_wp2
              go_meet
              case rel => exact ⟨_, (true), (by first | rfl | (simp; done) | (simp [*]; done)), H', ⟨by have := HJ4.out; have := HJ11.out; first | omega | exact Nat.le_refl _⟩, ⟨by repeat (first | (with_reducible first | exact HB.out | apply below_alloc | apply pw_below_drewN | apply below_drew1) | exact HB.out)⟩⟩
            · rw [if_neg c70] at H
              have c70b0 : (t333 != (a0.toList != ([] : List UInt8))) = false := by simpa using c70
              (have c70b8 : (t333 != !a0.toList.isEmpty) = false := by have h_ := c70b0; rw [show (a0.toList != ([] : List UInt8)) = !a0.toList.isEmpty from by cases a0.toList <;> rfl] at h_; exact h_)
              (have c70b9 : (t333 == a0.toList.isEmpty) = false := by have h_ := c70b8; revert h_; cases t333 <;> cases a0.toList.isEmpty <;> decide)
              (have c70b7 : (t333 = !a0.toList.isEmpty) = True := by have h_ := c70b8; revert h_; cases t333 <;> cases a0.toList.isEmpty <;> decide)
              (try (have c70b1 : decide (t333 = (a0.toList != ([] : List UInt8))) = true := by simpa using c70))
              (try (have c70b2 : (t333 == (a0.toList != ([] : List UInt8))) = true := by simpa using c70))
              clear c70
              (first | rw [c70b0] | (simp only [i64_w, i32_w]; rw [c70b0]) | skip)
              replace H := Option.bind_eq_some_iff.mp H
              obtain ⟨t334, A710, H⟩ := H
              replace H : (if t334 = true then ((name_Below.f kj11 a0 a0).bind fun t335 => (endonymlaw20_NameLies.j2 kj11 a0 t332 t333 (!t335))) else (endonymlaw20_NameLies.j2 kj11 a0 t332 t333 true)) = some r := H
              have A71 := Aside0.mk A710
              clear A710
              by_cases c72 : t334 = true
              · subst c72
                have H1 : ((name_Below.f kj11 a0 a0).bind fun t335 => (endonymlaw20_NameLies.j2 kj11 a0 t332 t333 (!t335))) = some r := by rw [if_pos rfl] at H; exact H
                clear H
                have H := H1
                clear H1
                replace H := Option.bind_eq_some_iff.mp H
                obtain ⟨t335, A730, H⟩ := H
                replace H : (endonymlaw20_NameLies.j2 kj11 a0 t332 t333 (!t335)) = some r := H
                have A73 := Aside0.mk A730
                clear A730
                have H' := Aside0.mk H
                clear H
                go_wp2_with (first | (go_at_call 14; (with_reducible refine (name_Below.calls kj11 a0 (⟨#[]⟩ : ByteArray) true _ A71.out).mono ?_); rintro e w74 ⟨rfl, hb⟩; have n0_ := Aside0.mk (below_step (by repeat (first | (with_reducible first | exact HB.out | apply below_alloc | apply pw_below_drewN | apply below_drew1) | exact HB.out)) hb); clear HB; have HB := n0_; clear n0_; (try clear hb); (try clear hb2); (try clear hk); (try clear hi)) | (go_at_call 14; (with_reducible refine (name_Below.calls kj11 a0 a0 t335 _ A73.out).mono ?_); rintro e w75 ⟨rfl, hb⟩; have n0_ := Aside0.mk (below_step (by repeat (first | (with_reducible first | exact HB.out | apply below_alloc | apply pw_below_drewN | apply below_drew1) | exact HB.out)) hb); clear HB; have HB := n0_; clear n0_; (try clear hb); (try clear hb2); (try clear hk); (try clear hi)))
                go_meet
                case rel => exact ⟨_, (!t335), (by first | rfl | (simp; done) | (simp [*]; done)), H', ⟨by have := HJ4.out; have := HJ11.out; first | omega | exact Nat.le_refl _⟩, ⟨by repeat (first | (with_reducible first | exact HB.out | apply below_alloc | apply pw_below_drewN | apply below_drew1) | exact HB.out)⟩⟩
              · replace c72 := Bool.eq_false_iff.mpr c72
                subst c72
                have H1 : (endonymlaw20_NameLies.j2 kj11 a0 t332 t333 true) = some r := by rw [if_neg (show ¬ (false = true) by decide)] at H; exact H
                clear H
                have H := H1
                clear H1
                have H' := Aside0.mk H
                clear H
                go_wp2_with (first | (go_at_call 14; (with_reducible refine (name_Below.calls kj11 a0 (⟨#[]⟩ : ByteArray) false _ A71.out).mono ?_); rintro e w76 ⟨rfl, hb⟩; have n0_ := Aside0.mk (below_step (by repeat (first | (with_reducible first | exact HB.out | apply below_alloc | apply pw_below_drewN | apply below_drew1) | exact HB.out)) hb); clear HB; have HB := n0_; clear n0_; (try clear hb); (try clear hb2); (try clear hk); (try clear hi)))
                go_meet
                case rel => exact ⟨_, (true), (by first | rfl | (simp; done) | (simp [*]; done)), H', ⟨by have := HJ4.out; have := HJ11.out; first | omega | exact Nat.le_refl _⟩, ⟨by repeat (first | (with_reducible first | exact HB.out | apply below_alloc | apply pw_below_drewN | apply below_drew1) | exact HB.out)⟩⟩
          case rest =>
            clear HC69
            try clear c1
            try clear c2
            try clear p2
            try clear c4
            try clear c5
            try clear c7
            try clear c7b0
            try clear c9
            try clear c12
            try clear c13
            try clear c14
            try clear c15
            try clear c17
            try clear c19
            try clear c21
            try clear c23
            try clear c42
            try clear c44
            try clear c57
            try clear c59
            try clear c70
            try clear c70b0
            try clear c70b1
            try clear c70b2
            try clear c72
            try clear p2
            obtain ⟨kq, x65_68, rfl, HA, HJ68, HB⟩ := hcut
            cases kq with
            | zero => exact absurd HA.out (by simp [endonymlaw20_NameLies.j2])
            | succ kj68 =>
              have H := HA.out
              clear HA
              simp only [endonymlaw20_NameLies.j2] at H
              by_cases c77 : x65_68 = true
              · subst c77
                have H1 : (some false) = some r := by rw [if_pos rfl] at H; exact H
                clear H
                have H := H1
                clear H1
                obtain rfl := Option.some.inj H
                go_wp2
                go_ret
                exact ⟨by first | rfl | (simp [errW_none, errW_some] <;> rfl) | (simp [*, errW_none, errW_some] <;> rfl), by repeat (first | (with_reducible first | exact HB.out | apply below_alloc | apply pw_below_drewN | apply below_drew1) | exact HB.out)⟩
              · replace c77 := Bool.eq_false_iff.mpr c77
                subst c77
                have H1 : ((endonymlaw20_told.f kj68).bind fun t336 => (if t336 = true then (if t333 = true then (if t332.toList = ([] : List UInt8) then ((name_Labels.f a0).bind fun t337 => (if (t337.length : Int) = 2 then (some true) else ((name_Compare.f kj68 t332 a0).bind fun t340 => (if t340 < 0 then ((name_Below.f kj68 a0 t332).bind fun t341 => (some t341)) else (some false))))) else ((name_Compare.f kj68 t332 a0).bind fun t342 => (if t342 < 0 then ((name_Below.f kj68 a0 t332).bind fun t343 => (some t343)) else (some false)))) else (some true)) else (some false))) = some r := by rw [if_neg (show ¬ (false = true) by decide)] at H; exact H
                clear H
                have H := H1
                clear H1
                replace H := Option.bind_eq_some_iff.mp H
                obtain ⟨t336, A780, H⟩ := H
                replace H : (if t336 = true then (if t333 = true then (if t332.toList = ([] : List UInt8) then ((name_Labels.f a0).bind fun t337 => (if (t337.length : Int) = 2 then (some true) else ((name_Compare.f kj68 t332 a0).bind fun t340 => (if t340 < 0 then ((name_Below.f kj68 a0 t332).bind fun t341 => (some t341)) else (some false))))) else ((name_Compare.f kj68 t332 a0).bind fun t342 => (if t342 < 0 then ((name_Below.f kj68 a0 t332).bind fun t343 => (some t343)) else (some false)))) else (some true)) else (some false)) = some r := H
                have A78 := Aside0.mk A780
                clear A780
                by_cases c79 : t336 = true
                · subst c79
                  have H1 : (if t333 = true then (if t332.toList = ([] : List UInt8) then ((name_Labels.f a0).bind fun t337 => (if (t337.length : Int) = 2 then (some true) else ((name_Compare.f kj68 t332 a0).bind fun t340 => (if t340 < 0 then ((name_Below.f kj68 a0 t332).bind fun t341 => (some t341)) else (some false))))) else ((name_Compare.f kj68 t332 a0).bind fun t342 => (if t342 < 0 then ((name_Below.f kj68 a0 t332).bind fun t343 => (some t343)) else (some false)))) else (some true)) = some r := by rw [if_pos rfl] at H; exact H
                  clear H
                  have H := H1
                  clear H1
                  by_cases c80 : t333 = true
                  · subst c80
                    have H1 : (if t332.toList = ([] : List UInt8) then ((name_Labels.f a0).bind fun t337 => (if (t337.length : Int) = 2 then (some true) else ((name_Compare.f kj68 t332 a0).bind fun t340 => (if t340 < 0 then ((name_Below.f kj68 a0 t332).bind fun t341 => (some t341)) else (some false))))) else ((name_Compare.f kj68 t332 a0).bind fun t342 => (if t342 < 0 then ((name_Below.f kj68 a0 t332).bind fun t343 => (some t343)) else (some false)))) = some r := by rw [if_pos rfl] at H; exact H
                    clear H
                    have H := H1
                    clear H1
                    by_cases c81 : t332.toList = ([] : List UInt8)
                    · rw [if_pos c81] at H
                      have c81b0 : (t332.toList == ([] : List UInt8)) = true := beq_iff_eq.mpr c81
                      have c81b1 : (t332.toList != ([] : List UInt8)) = false := bne_eq_false_iff_eq.mpr c81
                      clear c81
                      replace H := Option.bind_eq_some_iff.mp H
                      obtain ⟨t337, A820, H⟩ := H
                      replace H : (if (t337.length : Int) = 2 then (some true) else ((name_Compare.f kj68 t332 a0).bind fun t340 => (if t340 < 0 then ((name_Below.f kj68 a0 t332).bind fun t341 => (some t341)) else (some false)))) = some r := H
                      have A82 := Aside0.mk A820
                      clear A820
                      by_cases c83 : (t337.length : Int) = 2
                      · rw [if_pos c83] at H
                        have c83b0 : ((t337.length : Int) == 2) = true := beq_iff_eq.mpr c83
                        have c83b1 : ((t337.length : Int) != 2) = false := bne_eq_false_iff_eq.mpr c83
                        clear c83
                        obtain rfl := Option.some.inj H
                        go_wp2_with (first | ((with_reducible refine gate_callee (f := 11) rfl ?_); refine goesL_ (some 66) rfl rfl Tryd.func11 (by kernel_rfl) rfl #[] rfl (by (try simp only [List.map_toArray, List.map_cons, List.map_nil]); first | done | rfl | (simp only [List.length_drop, List.length_take]; rfl)) ?_; (with_reducible refine (endonymlaw20_told.calls kj68  true _ A78.out).mono ?_); rintro e w84 ⟨rfl, hb⟩; refine ⟨_, rfl, ?_⟩; have n0_ := Aside0.mk (below_step (by repeat (first | (with_reducible first | exact HB.out | apply below_alloc | apply pw_below_drewN | apply below_drew1) | exact HB.out)) hb); clear HB; have HB := n0_; clear n0_; (try clear hb); (try clear hb2); (try clear hk); (try clear hi)) | (go_at_call 21; (with_reducible refine (name_Labels.calls a0 t337 _ A82.out).mono ?_); rintro e w85 ⟨v338, rfl, ho0, hb⟩; have n0_ := Aside0.mk (Kd.R_lower ho0 (below_size (by repeat (first | (with_reducible first | exact HB.out | apply below_alloc | apply pw_below_drewN | apply below_drew1) | exact HB.out)))); have n1_ := Aside0.mk (below_step (by repeat (first | (with_reducible first | exact HB.out | apply below_alloc | apply pw_below_drewN | apply below_drew1) | exact HB.out)) hb); clear HB; have HO339 := n0_; have HB := n1_; clear n0_ n1_; (try clear hb); (try clear hb2); (try clear hk); (try clear hi); (try clear ho0); obtain ⟨Ao86, co86, eo86⟩ := Kd.R_slice HO339.out; subst eo86))
                        go_ret
                        exact ⟨by first | rfl | (simp [errW_none, errW_some] <;> rfl) | (simp [*, errW_none, errW_some] <;> rfl), by repeat (first | (with_reducible first | exact HB.out | apply below_alloc | apply pw_below_drewN | apply below_drew1) | exact HB.out)⟩
                      · rw [if_neg c83] at H
                        have c83b0 : ((t337.length : Int) == 2) = false := beq_eq_false_iff_ne.mpr c83
                        have c83b1 : ((t337.length : Int) != 2) = true := bne_iff_ne.mpr c83
                        replace H := Option.bind_eq_some_iff.mp H
                        obtain ⟨t340, A870, H⟩ := H
                        replace H : (if t340 < 0 then ((name_Below.f kj68 a0 t332).bind fun t341 => (some t341)) else (some false)) = some r := H
                        have A87 := Aside0.mk A870
                        clear A870
                        by_cases c88 : t340 < 0
                        · rw [if_pos c88] at H
                          have c88b0 : decide (t340 < 0) = true := decide_eq_true c88
                          clear c88
                          replace H := Option.bind_eq_some_iff.mp H
                          obtain ⟨t341, A890, H⟩ := H
                          replace H : (some t341) = some r := H
                          have A89 := Aside0.mk A890
                          clear A890
                          obtain rfl := Option.some.inj H
                          go_wp2_with (first | ((with_reducible refine gate_callee (f := 11) rfl ?_); refine goesL_ (some 66) rfl rfl Tryd.func11 (by kernel_rfl) rfl #[] rfl (by (try simp only [List.map_toArray, List.map_cons, List.map_nil]); first | done | rfl | (simp only [List.length_drop, List.length_take]; rfl)) ?_; (with_reducible refine (endonymlaw20_told.calls kj68  true _ A78.out).mono ?_); rintro e w90 ⟨rfl, hb⟩; refine ⟨_, rfl, ?_⟩; have n0_ := Aside0.mk (below_step (by repeat (first | (with_reducible first | exact HB.out | apply below_alloc | apply pw_below_drewN | apply below_drew1) | exact HB.out)) hb); clear HB; have HB := n0_; clear n0_; (try clear hb); (try clear hb2); (try clear hk); (try clear hi)) | (go_at_call 21; (with_reducible refine (name_Labels.calls a0 t337 _ A82.out).mono ?_); rintro e w91 ⟨v338, rfl, ho0, hb⟩; have n0_ := Aside0.mk (Kd.R_lower ho0 (below_size (by repeat (first | (with_reducible first | exact HB.out | apply below_alloc | apply pw_below_drewN | apply below_drew1) | exact HB.out)))); have n1_ := Aside0.mk (below_step (by repeat (first | (with_reducible first | exact HB.out | apply below_alloc | apply pw_below_drewN | apply below_drew1) | exact HB.out)) hb); clear HB; have HO339 := n0_; have HB := n1_; clear n0_ n1_; (try clear hb); (try clear hb2); (try clear hk); (try clear hi); (try clear ho0); obtain ⟨Ao92, co92, eo92⟩ := Kd.R_slice HO339.out; subst eo92) | (go_at_call 12; (with_reducible refine (name_Compare.calls kj68 t332 a0 t340 _ A87.out).mono ?_); rintro e w93 ⟨rfl, hb⟩; have n0_ := Aside0.mk (Kd.R_below (by (with_reducible repeat (first | apply Kd.R_alloc | apply Kd.R_drewN | apply Kd.R_drew)); exact HO339.out) hb); have n1_ := Aside0.mk (below_step (by repeat (first | (with_reducible first | exact HB.out | apply below_alloc | apply pw_below_drewN | apply below_drew1) | exact HB.out)) hb); clear HO339; clear HB; have HO339 := n0_; have HB := n1_; clear n0_ n1_; (try clear hb); (try clear hb2); (try clear hk); (try clear hi)) | (go_at_call 14; (with_reducible refine (name_Below.calls kj68 a0 t332 t341 _ A89.out).mono ?_); rintro e w94 ⟨rfl, hb⟩; have n0_ := Aside0.mk (Kd.R_below (by (with_reducible repeat (first | apply Kd.R_alloc | apply Kd.R_drewN | apply Kd.R_drew)); exact HO339.out) hb); have n1_ := Aside0.mk (below_step (by repeat (first | (with_reducible first | exact HB.out | apply below_alloc | apply pw_below_drewN | apply below_drew1) | exact HB.out)) hb); clear HO339; clear HB; have HO339 := n0_; have HB := n1_; clear n0_ n1_; (try clear hb); (try clear hb2); (try clear hk); (try clear hi)))
                          go_ret
                          exact ⟨by first | rfl | (simp [errW_none, errW_some] <;> rfl) | (simp [*, errW_none, errW_some] <;> rfl), by repeat (first | (with_reducible first | exact HB.out | apply below_alloc | apply pw_below_drewN | apply below_drew1) | exact HB.out)⟩
                        · rw [if_neg c88] at H
                          have c88b0 : decide (t340 < 0) = false := decide_eq_false c88
                          clear c88
                          obtain rfl := Option.some.inj H
                          go_wp2_with (first | ((with_reducible refine gate_callee (f := 11) rfl ?_); refine goesL_ (some 66) rfl rfl Tryd.func11 (by kernel_rfl) rfl #[] rfl (by (try simp only [List.map_toArray, List.map_cons, List.map_nil]); first | done | rfl | (simp only [List.length_drop, List.length_take]; rfl)) ?_; (with_reducible refine (endonymlaw20_told.calls kj68  true _ A78.out).mono ?_); rintro e w95 ⟨rfl, hb⟩; refine ⟨_, rfl, ?_⟩; have n0_ := Aside0.mk (below_step (by repeat (first | (with_reducible first | exact HB.out | apply below_alloc | apply pw_below_drewN | apply below_drew1) | exact HB.out)) hb); clear HB; have HB := n0_; clear n0_; (try clear hb); (try clear hb2); (try clear hk); (try clear hi)) | (go_at_call 21; (with_reducible refine (name_Labels.calls a0 t337 _ A82.out).mono ?_); rintro e w96 ⟨v338, rfl, ho0, hb⟩; have n0_ := Aside0.mk (Kd.R_lower ho0 (below_size (by repeat (first | (with_reducible first | exact HB.out | apply below_alloc | apply pw_below_drewN | apply below_drew1) | exact HB.out)))); have n1_ := Aside0.mk (below_step (by repeat (first | (with_reducible first | exact HB.out | apply below_alloc | apply pw_below_drewN | apply below_drew1) | exact HB.out)) hb); clear HB; have HO339 := n0_; have HB := n1_; clear n0_ n1_; (try clear hb); (try clear hb2); (try clear hk); (try clear hi); (try clear ho0); obtain ⟨Ao97, co97, eo97⟩ := Kd.R_slice HO339.out; subst eo97) | (go_at_call 12; (with_reducible refine (name_Compare.calls kj68 t332 a0 t340 _ A87.out).mono ?_); rintro e w98 ⟨rfl, hb⟩; have n0_ := Aside0.mk (Kd.R_below (by (with_reducible repeat (first | apply Kd.R_alloc | apply Kd.R_drewN | apply Kd.R_drew)); exact HO339.out) hb); have n1_ := Aside0.mk (below_step (by repeat (first | (with_reducible first | exact HB.out | apply below_alloc | apply pw_below_drewN | apply below_drew1) | exact HB.out)) hb); clear HO339; clear HB; have HO339 := n0_; have HB := n1_; clear n0_ n1_; (try clear hb); (try clear hb2); (try clear hk); (try clear hi)))
                          go_ret
                          exact ⟨by first | rfl | (simp [errW_none, errW_some] <;> rfl) | (simp [*, errW_none, errW_some] <;> rfl), by repeat (first | (with_reducible first | exact HB.out | apply below_alloc | apply pw_below_drewN | apply below_drew1) | exact HB.out)⟩
                    · rw [if_neg c81] at H
                      have c81b0 : (t332.toList == ([] : List UInt8)) = false := beq_eq_false_iff_ne.mpr c81
                      have c81b1 : (t332.toList != ([] : List UInt8)) = true := bne_iff_ne.mpr c81
                      replace H := Option.bind_eq_some_iff.mp H
                      obtain ⟨t342, A990, H⟩ := H
                      replace H : (if t342 < 0 then ((name_Below.f kj68 a0 t332).bind fun t343 => (some t343)) else (some false)) = some r := H
                      have A99 := Aside0.mk A990
                      clear A990
                      by_cases c100 : t342 < 0
                      · rw [if_pos c100] at H
                        have c100b0 : decide (t342 < 0) = true := decide_eq_true c100
                        clear c100
                        replace H := Option.bind_eq_some_iff.mp H
                        obtain ⟨t343, A1010, H⟩ := H
                        replace H : (some t343) = some r := H
                        have A101 := Aside0.mk A1010
                        clear A1010
                        obtain rfl := Option.some.inj H
                        go_wp2_with (first | ((with_reducible refine gate_callee (f := 11) rfl ?_); refine goesL_ (some 66) rfl rfl Tryd.func11 (by kernel_rfl) rfl #[] rfl (by (try simp only [List.map_toArray, List.map_cons, List.map_nil]); first | done | rfl | (simp only [List.length_drop, List.length_take]; rfl)) ?_; (with_reducible refine (endonymlaw20_told.calls kj68  true _ A78.out).mono ?_); rintro e w102 ⟨rfl, hb⟩; refine ⟨_, rfl, ?_⟩; have n0_ := Aside0.mk (below_step (by repeat (first | (with_reducible first | exact HB.out | apply below_alloc | apply pw_below_drewN | apply below_drew1) | exact HB.out)) hb); clear HB; have HB := n0_; clear n0_; (try clear hb); (try clear hb2); (try clear hk); (try clear hi)) | (go_at_call 12; (with_reducible refine (name_Compare.calls kj68 t332 a0 t342 _ A99.out).mono ?_); rintro e w103 ⟨rfl, hb⟩; have n0_ := Aside0.mk (below_step (by repeat (first | (with_reducible first | exact HB.out | apply below_alloc | apply pw_below_drewN | apply below_drew1) | exact HB.out)) hb); clear HB; have HB := n0_; clear n0_; (try clear hb); (try clear hb2); (try clear hk); (try clear hi)) | (go_at_call 14; (with_reducible refine (name_Below.calls kj68 a0 t332 t343 _ A101.out).mono ?_); rintro e w104 ⟨rfl, hb⟩; have n0_ := Aside0.mk (below_step (by repeat (first | (with_reducible first | exact HB.out | apply below_alloc | apply pw_below_drewN | apply below_drew1) | exact HB.out)) hb); clear HB; have HB := n0_; clear n0_; (try clear hb); (try clear hb2); (try clear hk); (try clear hi)))
                        go_ret
                        exact ⟨by first | rfl | (simp [errW_none, errW_some] <;> rfl) | (simp [*, errW_none, errW_some] <;> rfl), by repeat (first | (with_reducible first | exact HB.out | apply below_alloc | apply pw_below_drewN | apply below_drew1) | exact HB.out)⟩
                      · rw [if_neg c100] at H
                        have c100b0 : decide (t342 < 0) = false := decide_eq_false c100
                        clear c100
                        obtain rfl := Option.some.inj H
                        go_wp2_with (first | ((with_reducible refine gate_callee (f := 11) rfl ?_); refine goesL_ (some 66) rfl rfl Tryd.func11 (by kernel_rfl) rfl #[] rfl (by (try simp only [List.map_toArray, List.map_cons, List.map_nil]); first | done | rfl | (simp only [List.length_drop, List.length_take]; rfl)) ?_; (with_reducible refine (endonymlaw20_told.calls kj68  true _ A78.out).mono ?_); rintro e w105 ⟨rfl, hb⟩; refine ⟨_, rfl, ?_⟩; have n0_ := Aside0.mk (below_step (by repeat (first | (with_reducible first | exact HB.out | apply below_alloc | apply pw_below_drewN | apply below_drew1) | exact HB.out)) hb); clear HB; have HB := n0_; clear n0_; (try clear hb); (try clear hb2); (try clear hk); (try clear hi)) | (go_at_call 12; (with_reducible refine (name_Compare.calls kj68 t332 a0 t342 _ A99.out).mono ?_); rintro e w106 ⟨rfl, hb⟩; have n0_ := Aside0.mk (below_step (by repeat (first | (with_reducible first | exact HB.out | apply below_alloc | apply pw_below_drewN | apply below_drew1) | exact HB.out)) hb); clear HB; have HB := n0_; clear n0_; (try clear hb); (try clear hb2); (try clear hk); (try clear hi)))
                        go_ret
                        exact ⟨by first | rfl | (simp [errW_none, errW_some] <;> rfl) | (simp [*, errW_none, errW_some] <;> rfl), by repeat (first | (with_reducible first | exact HB.out | apply below_alloc | apply pw_below_drewN | apply below_drew1) | exact HB.out)⟩
                  · replace c80 := Bool.eq_false_iff.mpr c80
                    subst c80
                    have H1 : (some true) = some r := by rw [if_neg (show ¬ (false = true) by decide)] at H; exact H
                    clear H
                    have H := H1
                    clear H1
                    obtain rfl := Option.some.inj H
                    go_wp2_with (first | ((with_reducible refine gate_callee (f := 11) rfl ?_); refine goesL_ (some 66) rfl rfl Tryd.func11 (by kernel_rfl) rfl #[] rfl (by (try simp only [List.map_toArray, List.map_cons, List.map_nil]); first | done | rfl | (simp only [List.length_drop, List.length_take]; rfl)) ?_; (with_reducible refine (endonymlaw20_told.calls kj68  true _ A78.out).mono ?_); rintro e w107 ⟨rfl, hb⟩; refine ⟨_, rfl, ?_⟩; have n0_ := Aside0.mk (below_step (by repeat (first | (with_reducible first | exact HB.out | apply below_alloc | apply pw_below_drewN | apply below_drew1) | exact HB.out)) hb); clear HB; have HB := n0_; clear n0_; (try clear hb); (try clear hb2); (try clear hk); (try clear hi)))
                    go_ret
                    exact ⟨by first | rfl | (simp [errW_none, errW_some] <;> rfl) | (simp [*, errW_none, errW_some] <;> rfl), by repeat (first | (with_reducible first | exact HB.out | apply below_alloc | apply pw_below_drewN | apply below_drew1) | exact HB.out)⟩
                · replace c79 := Bool.eq_false_iff.mpr c79
                  subst c79
                  have H1 : (some false) = some r := by rw [if_neg (show ¬ (false = true) by decide)] at H; exact H
                  clear H
                  have H := H1
                  clear H1
                  obtain rfl := Option.some.inj H
                  go_wp2_with (first | ((with_reducible refine gate_callee (f := 11) rfl ?_); refine goesL_ (some 66) rfl rfl Tryd.func11 (by kernel_rfl) rfl #[] rfl (by (try simp only [List.map_toArray, List.map_cons, List.map_nil]); first | done | rfl | (simp only [List.length_drop, List.length_take]; rfl)) ?_; (with_reducible refine (endonymlaw20_told.calls kj68  false _ A78.out).mono ?_); rintro e w108 ⟨rfl, hb⟩; refine ⟨_, rfl, ?_⟩; have n0_ := Aside0.mk (below_step (by repeat (first | (with_reducible first | exact HB.out | apply below_alloc | apply pw_below_drewN | apply below_drew1) | exact HB.out)) hb); clear HB; have HB := n0_; clear n0_; (try clear hb); (try clear hb2); (try clear hk); (try clear hi)))
                  go_ret
                  exact ⟨by first | rfl | (simp [errW_none, errW_some] <;> rfl) | (simp [*, errW_none, errW_some] <;> rfl), by repeat (first | (with_reducible first | exact HB.out | apply below_alloc | apply pw_below_drewN | apply below_drew1) | exact HB.out)⟩

/-! ### endonymlaw20_same: function 17 -/
def endonymlaw20_same.l0 : Nat → List ByteArray → List ByteArray → Int → Option (Bool)
  | 0, _, _, _ => none
  | k + 1, x0, x1, x5 => if x5 < (x0.length : Int) then (if 0 ≤ x5 then (if x5 < (x1.length : Int) then (if (rdOf ByteArray.empty x0 x5).toList = (rdOf ByteArray.empty x1 x5).toList then (endonymlaw20_same.l0 k x0 x1 (wrap64 (x5 + 1))) else (some false)) else (none)) else (none)) else (some true)
def endonymlaw20_same.f (k : Nat) (l0 : List ByteArray) (l1 : List ByteArray) : Option (Bool) := if (l0.length : Int) = (l1.length : Int) then (endonymlaw20_same.l0 k l0 l1 0) else (some false)
theorem endonymlaw20_same.mono_l : ∀ k, (∀ y0 y1 y2, LeO (endonymlaw20_same.l0 k y0 y1 y2) (endonymlaw20_same.l0 (k + 1) y0 y1 y2))
  | 0 => fun _ _ _ r h => by simp [endonymlaw20_same.l0] at h
  | k + 1 => by
    have ih0 := endonymlaw20_same.mono_l k
    · intro y0 y1 y2
      unfold endonymlaw20_same.l0
      repeat' first
      | (with_reducible exact ih0 _ _ _)
      | (with_reducible exact LeO.refl _)
      | (with_reducible exact LeO.none _)
      | (with_reducible refine LeO.ite ?_ ?_)
      | (with_reducible refine LeO.bind ?_ (fun _ => ?_))
      | exact ih0 _ _ _
      | exact LeO.none _
      | refine LeO.ite ?_ ?_
      | refine LeO.bind ?_ (fun _ => ?_)
theorem endonymlaw20_same.mono : ∀ a0 a1 k, LeO (endonymlaw20_same.f k a0 a1) (endonymlaw20_same.f (k + 1) a0 a1) := by
  intro a0 a1 k
  have ih0 := endonymlaw20_same.mono_l k
  unfold endonymlaw20_same.f
  repeat' first
      | (with_reducible exact ih0 _ _ _)
      | (with_reducible exact LeO.refl _)
      | (with_reducible exact LeO.none _)
      | (with_reducible refine LeO.ite ?_ ?_)
      | (with_reducible refine LeO.bind ?_ (fun _ => ?_))
      | exact ih0 _ _ _
      | exact LeO.none _
      | refine LeO.ite ?_ ?_
      | refine LeO.bind ?_ (fun _ => ?_)
set_option maxHeartbeats 8000000 in
set_option maxRecDepth 100000 in
theorem endonymlaw20_same.calls (k : Nat) (A0 : Option Addr) (c0 : Nat) (l0 : List ByteArray) (A1 : Option Addr) (c1 : Nat) (l1 : List ByteArray) (r : Bool) (w : World) (hr0 : Kd.C Kd.string w A0 l0.length l0) (hc0 : l0.length ≤ c0) (hr1 : Kd.C Kd.string w A1 l1.length l1) (hc1 : l1.length ≤ c1) (h : endonymlaw20_same.f k l0 l1 = some r) :
    Calls Tryd.prog 17 #[.slice A0 l0.length c0, .slice A1 l1.length c1] w fun e w' => e = .returned (.bool r) ∧ Drawn0 w w' := by
  have HR0 := Aside0.mk hr0
  have HC0 := Aside0.mk hc0
  clear hr0 hc0
  have HR1 := Aside0.mk hr1
  have HC1 := Aside0.mk hc1
  clear hr1 hc1
  have H : (if (l0.length : Int) = (l1.length : Int) then (endonymlaw20_same.l0 k l0 l1 0) else (some false)) = some r := h
  clear h
  by_cases c3 : (l0.length : Int) = (l1.length : Int)
  · rw [if_pos c3] at H
    have c3b0 : ((l0.length : Int) == (l1.length : Int)) = true := beq_iff_eq.mpr c3
    have c3b1 : ((l0.length : Int) != (l1.length : Int)) = false := bne_eq_false_iff_eq.mpr c3
    have c3b2 : (l0.length == l1.length) = true := by first | simpa using c3 | (simp at c3 ⊢; omega)
    clear c3
    have H' := Aside0.mk H
    clear H
    go_enter Tryd.func17, Tryd.ntmps17
    go_wp2
    repeat (go_quiet (fail); try go_wp2)
    go_loopg [5] k (fun kq v5 w' => ∃ (x5_1 : Int), v5 = .int .i64 x5_1 ∧ Aside0 (endonymlaw20_same.l0 kq l0 l1 x5_1 = some r) ∧ Aside0 (kq ≤ k) ∧ Drawn0 w w')
    case atStart => exact ⟨(0), (by first | rfl | (simp; done) | (simp [*]; done)), H', ⟨Nat.le_refl _⟩, by repeat (first | exact Drawn0.refl _ | apply Drawn0.step)⟩
    case round =>
      clear H'
      try clear c1
      try clear p2
      try clear c3
      try clear c3b0
      try clear c3b1
      try clear c3b2
      obtain ⟨x5_1, rfl, HA, HK1, ⟨m1, rfl⟩⟩ := hrel
      cases gk with
      | zero => exact absurd HA.out (by simp [endonymlaw20_same.l0])
      | succ k1 =>
        have H := HA.out
        clear HA
        simp only [endonymlaw20_same.l0] at H
        by_cases c4 : x5_1 < (l0.length : Int)
        · rw [if_pos c4] at H
          have c4b0 : decide (x5_1 < (l0.length : Int)) = true := decide_eq_true c4
          clear c4
          by_cases c5 : 0 ≤ x5_1
          · rw [if_pos c5] at H
            have c5b0 : decide (0 ≤ x5_1) = true := decide_eq_true c5
            clear c5
            by_cases c6 : x5_1 < (l1.length : Int)
            · rw [if_pos c6] at H
              have c6b0 : decide (x5_1 < (l1.length : Int)) = true := decide_eq_true c6
              clear c6
              by_cases c7 : (rdOf ByteArray.empty l0 x5_1).toList = (rdOf ByteArray.empty l1 x5_1).toList
              · rw [if_pos c7] at H
                have c7b0 : ((rdOf ByteArray.empty l0 x5_1).toList == (rdOf ByteArray.empty l1 x5_1).toList) = true := beq_iff_eq.mpr c7
                have c7b1 : ((rdOf ByteArray.empty l0 x5_1).toList != (rdOf ByteArray.empty l1 x5_1).toList) = false := bne_eq_false_iff_eq.mpr c7
                clear c7
                have H' := Aside0.mk H
                clear H
                have p344 : 0 ≤ (x5_1 : Int) := of_decide_eq_true (by first | (with_reducible assumption) | assumption)
                have q344 : x5_1 < (l0.length : Int) := of_decide_eq_true (by first | (with_reducible assumption) | assumption)
                obtain ⟨ad344, e344, hx344_0⟩ := Kd.at_string HR0.out x5_1 p344 q344
                cases e344
                replace p344 := eq_true p344
                replace q344 := eq_true q344
                have p345 : 0 ≤ (x5_1 : Int) := of_decide_eq_true (by first | (with_reducible assumption) | assumption)
                have q345 : x5_1 < (l1.length : Int) := of_decide_eq_true (by first | (with_reducible assumption) | assumption)
                obtain ⟨ad345, e345, hx345_0⟩ := Kd.at_string HR1.out x5_1 p345 q345
                cases e345
                replace p345 := eq_true p345
                replace q345 := eq_true q345
                go_wp2
                repeat (go_quiet (fail); try go_wp2)
                go_roundg k1
                case measure => have := HK1.out; omega
                case rel => exact ⟨(wrap64 (x5_1 + 1)), (by first | rfl | (simp; done) | (simp [*]; done)), H', ⟨by have := HK1.out; omega⟩, by repeat (first | exact Drawn0.refl _ | apply Drawn0.step)⟩
              · rw [if_neg c7] at H
                have c7b0 : ((rdOf ByteArray.empty l0 x5_1).toList == (rdOf ByteArray.empty l1 x5_1).toList) = false := beq_eq_false_iff_ne.mpr c7
                have c7b1 : ((rdOf ByteArray.empty l0 x5_1).toList != (rdOf ByteArray.empty l1 x5_1).toList) = true := bne_iff_ne.mpr c7
                obtain rfl := Option.some.inj H
                have p344 : 0 ≤ (x5_1 : Int) := of_decide_eq_true (by first | (with_reducible assumption) | assumption)
                have q344 : x5_1 < (l0.length : Int) := of_decide_eq_true (by first | (with_reducible assumption) | assumption)
                obtain ⟨ad344, e344, hx344_0⟩ := Kd.at_string HR0.out x5_1 p344 q344
                cases e344
                replace p344 := eq_true p344
                replace q344 := eq_true q344
                have p345 : 0 ≤ (x5_1 : Int) := of_decide_eq_true (by first | (with_reducible assumption) | assumption)
                have q345 : x5_1 < (l1.length : Int) := of_decide_eq_true (by first | (with_reducible assumption) | assumption)
                obtain ⟨ad345, e345, hx345_0⟩ := Kd.at_string HR1.out x5_1 p345 q345
                cases e345
                replace p345 := eq_true p345
                replace q345 := eq_true q345
                go_wp2
                repeat (go_quiet (fail); try go_wp2)
                go_ret
                exact ⟨by first | rfl | (simp; done) | (simp [*]; done), by repeat (first | exact Drawn0.refl _ | apply Drawn0.step)⟩
            · rw [if_neg c6] at H
              exact absurd H (by simp)
          · rw [if_neg c5] at H
            exact absurd H (by simp)
        · rw [if_neg c4] at H
          have c4b0 : decide (x5_1 < (l0.length : Int)) = false := decide_eq_false c4
          clear c4
          obtain rfl := Option.some.inj H
          go_wp2
          repeat (go_quiet (fail); try go_wp2)
          go_ret
          exact ⟨by first | rfl | (simp; done) | (simp [*]; done), by repeat (first | exact Drawn0.refl _ | apply Drawn0.step)⟩
  · rw [if_neg c3] at H
    have c3b0 : ((l0.length : Int) == (l1.length : Int)) = false := beq_eq_false_iff_ne.mpr c3
    have c3b1 : ((l0.length : Int) != (l1.length : Int)) = true := bne_iff_ne.mpr c3
    have c3b2 : (l0.length == l1.length) = false := by first | simpa using c3 | (simp at c3 ⊢; omega)
    obtain rfl := Option.some.inj H
    go_enter Tryd.func17, Tryd.ntmps17
    go_wp2
    repeat (go_quiet (fail); try go_wp2)
    go_ret
    exact ⟨by first | rfl | (simp; done) | (simp [*]; done), by repeat (first | exact Drawn0.refl _ | apply Drawn0.step)⟩

end Go.Proofs.YtfbadcjojkgibaaDoor.N
