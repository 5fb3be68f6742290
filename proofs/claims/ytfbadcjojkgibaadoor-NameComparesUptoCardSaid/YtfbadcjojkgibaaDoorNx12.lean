-- written by wip/pp.py of this session (the kit's print with patches); checked by Lean alone
import Derived.Test.YtfbadcjojkgibaaDoorNx0
import Derived.Test.YtfbadcjojkgibaaDoorNx2
import Derived.Test.YtfbadcjojkgibaaDoorNx3
import Derived.Test.YtfbadcjojkgibaaDoorNx8
namespace Go.Proofs.YtfbadcjojkgibaaDoor.N
open Go.RowKit Go.Proofs.YtfbadcjojkgibaaDoorW.PrintWords Go.Proofs.YtfbadcjojkgibaaDoorW.PrintLast Go.Proofs.YtfbadcjojkgibaaDoorW.PrintMore
attribute [local go_sem] max2_int min2_int max_two min_two max_three min_three max_four min_four   -- for this text's walks alone
set_option linter.unusedVariables false
set_option linter.unusedSimpArgs false

/-! ### endonymlaw20_NameOrder: function 6 -/
def endonymlaw20_NameOrder.j0 : Nat → ByteArray → ByteArray → ByteArray → Int → Bool → Option (Bool)
  | 0, _, _, _, _, _ => none
  | k + 1, x0, x1, x2, x7, x70 => if x70 = true then (some false) else (if x7 = 0 then ((name_Compare.f k x2 x0).bind fun t317 => ((name_Compare.f k x2 x1).bind fun t318 => (if t317 = t318 then ((name_Below.f k x0 x1).bind fun t319 => (if t319 = true then ((name_Below.f k x1 x0).bind fun t320 => (some t320)) else (some false))) else (some false)))) else (some true))
def endonymlaw20_NameOrder.f (k : Nat) (a0 : ByteArray) (a1 : ByteArray) (a2 : ByteArray) : Option (Bool) := (name_Compare.f k a0 a1).bind fun t311 => ((name_Compare.f k a1 a2).bind fun t312 => ((name_Compare.f k a0 a2).bind fun t313 => ((endonymlaw20_told.f k).bind fun t314 => (if t314 = true then ((name_Compare.f k a1 a0).bind fun t315 => (if t315 = (wrap64 (-t311)) then ((name_Compare.f k a0 a0).bind fun t316 => (if t316 = 0 then (if t311 ≤ 0 then (if t312 ≤ 0 then (if t313 > 0 then (endonymlaw20_NameOrder.j0 k a0 a1 a2 t311 true) else (if t311 < 0 then (if t313 ≥ 0 then (endonymlaw20_NameOrder.j0 k a0 a1 a2 t311 true) else (if t312 < 0 then (endonymlaw20_NameOrder.j0 k a0 a1 a2 t311 (decide (t313 ≥ 0))) else (endonymlaw20_NameOrder.j0 k a0 a1 a2 t311 false))) else (if t312 < 0 then (endonymlaw20_NameOrder.j0 k a0 a1 a2 t311 (decide (t313 ≥ 0))) else (endonymlaw20_NameOrder.j0 k a0 a1 a2 t311 false)))) else (if t311 < 0 then (if t312 < 0 then (endonymlaw20_NameOrder.j0 k a0 a1 a2 t311 (decide (t313 ≥ 0))) else (endonymlaw20_NameOrder.j0 k a0 a1 a2 t311 false)) else (if t312 < 0 then (endonymlaw20_NameOrder.j0 k a0 a1 a2 t311 (decide (t313 ≥ 0))) else (endonymlaw20_NameOrder.j0 k a0 a1 a2 t311 false)))) else (if t311 < 0 then (if t312 ≤ 0 then (if t313 ≥ 0 then (endonymlaw20_NameOrder.j0 k a0 a1 a2 t311 true) else (endonymlaw20_NameOrder.j0 k a0 a1 a2 t311 false)) else (endonymlaw20_NameOrder.j0 k a0 a1 a2 t311 false)) else (endonymlaw20_NameOrder.j0 k a0 a1 a2 t311 false))) else (endonymlaw20_NameOrder.j0 k a0 a1 a2 t311 true))) else (endonymlaw20_NameOrder.j0 k a0 a1 a2 t311 true))) else (endonymlaw20_NameOrder.j0 k a0 a1 a2 t311 true)))))
theorem endonymlaw20_NameOrder.mono_l : ∀ k, (∀ y0 y1 y2 y3 y4, LeO (endonymlaw20_NameOrder.j0 k y0 y1 y2 y3 y4) (endonymlaw20_NameOrder.j0 (k + 1) y0 y1 y2 y3 y4))
  | 0 => fun _ _ _ _ _ r h => by simp [endonymlaw20_NameOrder.j0] at h
  | k + 1 => by
    have ih0 := endonymlaw20_NameOrder.mono_l k
    · intro y0 y1 y2 y3 y4
      unfold endonymlaw20_NameOrder.j0
      repeat' first
      | (with_reducible exact ih0 _ _ _ _ _)
      | (with_reducible exact endonymlaw20_told.mono _)
      | (with_reducible exact name_Below.mono _ _ _)
      | (with_reducible exact name_Compare.mono _ _ _)
      | (with_reducible exact LeO.refl _)
      | (with_reducible exact LeO.none _)
      | (with_reducible refine LeO.ite ?_ ?_)
      | (with_reducible refine LeO.bind ?_ (fun _ => ?_))
      | exact ih0 _ _ _ _ _
      | exact endonymlaw20_told.mono _
      | exact name_Below.mono _ _ _
      | exact name_Compare.mono _ _ _
      | exact LeO.none _
      | refine LeO.ite ?_ ?_
      | refine LeO.bind ?_ (fun _ => ?_)
theorem endonymlaw20_NameOrder.mono : ∀ a0 a1 a2 k, LeO (endonymlaw20_NameOrder.f k a0 a1 a2) (endonymlaw20_NameOrder.f (k + 1) a0 a1 a2) := by
  intro a0 a1 a2 k
  have ih0 := endonymlaw20_NameOrder.mono_l k
  unfold endonymlaw20_NameOrder.f
  repeat' first
      | (with_reducible exact ih0 _ _ _ _ _)
      | (with_reducible exact endonymlaw20_told.mono _)
      | (with_reducible exact name_Below.mono _ _ _)
      | (with_reducible exact name_Compare.mono _ _ _)
      | (with_reducible exact LeO.refl _)
      | (with_reducible exact LeO.none _)
      | (with_reducible refine LeO.ite ?_ ?_)
      | (with_reducible refine LeO.bind ?_ (fun _ => ?_))
      | exact ih0 _ _ _ _ _
      | exact endonymlaw20_told.mono _
      | exact name_Below.mono _ _ _
      | exact name_Compare.mono _ _ _
      | exact LeO.none _
      | refine LeO.ite ?_ ?_
      | refine LeO.bind ?_ (fun _ => ?_)
set_option maxHeartbeats 8000000 in
set_option maxRecDepth 100000 in
theorem endonymlaw20_NameOrder.calls (k : Nat) (a0 : ByteArray) (a1 : ByteArray) (a2 : ByteArray) (r : Bool) (w : World) (h : endonymlaw20_NameOrder.f k a0 a1 a2 = some r) :
    Calls Tryd.prog 6 #[.string a0, .string a1, .string a2] w fun e w' => e = .returned (.bool r) ∧ Below w.heap.size w w' := by
  have HB := Aside0.mk (Below.refl w.heap.size w)
  have H : ((name_Compare.f k a0 a1).bind fun t311 => ((name_Compare.f k a1 a2).bind fun t312 => ((name_Compare.f k a0 a2).bind fun t313 => ((endonymlaw20_told.f k).bind fun t314 => (if t314 = true then ((name_Compare.f k a1 a0).bind fun t315 => (if t315 = (wrap64 (-t311)) then ((name_Compare.f k a0 a0).bind fun t316 => (if t316 = 0 then (if t311 ≤ 0 then (if t312 ≤ 0 then (if t313 > 0 then (endonymlaw20_NameOrder.j0 k a0 a1 a2 t311 true) else (if t311 < 0 then (if t313 ≥ 0 then (endonymlaw20_NameOrder.j0 k a0 a1 a2 t311 true) else (if t312 < 0 then (endonymlaw20_NameOrder.j0 k a0 a1 a2 t311 (decide (t313 ≥ 0))) else (endonymlaw20_NameOrder.j0 k a0 a1 a2 t311 false))) else (if t312 < 0 then (endonymlaw20_NameOrder.j0 k a0 a1 a2 t311 (decide (t313 ≥ 0))) else (endonymlaw20_NameOrder.j0 k a0 a1 a2 t311 false)))) else (if t311 < 0 then (if t312 < 0 then (endonymlaw20_NameOrder.j0 k a0 a1 a2 t311 (decide (t313 ≥ 0))) else (endonymlaw20_NameOrder.j0 k a0 a1 a2 t311 false)) else (if t312 < 0 then (endonymlaw20_NameOrder.j0 k a0 a1 a2 t311 (decide (t313 ≥ 0))) else (endonymlaw20_NameOrder.j0 k a0 a1 a2 t311 false)))) else (if t311 < 0 then (if t312 ≤ 0 then (if t313 ≥ 0 then (endonymlaw20_NameOrder.j0 k a0 a1 a2 t311 true) else (endonymlaw20_NameOrder.j0 k a0 a1 a2 t311 false)) else (endonymlaw20_NameOrder.j0 k a0 a1 a2 t311 false)) else (endonymlaw20_NameOrder.j0 k a0 a1 a2 t311 false))) else (endonymlaw20_NameOrder.j0 k a0 a1 a2 t311 true))) else (endonymlaw20_NameOrder.j0 k a0 a1 a2 t311 true))) else (endonymlaw20_NameOrder.j0 k a0 a1 a2 t311 true)))))) = some r := h
  clear h
  replace H := Option.bind_eq_some_iff.mp H
  obtain ⟨t311, A40, H⟩ := H
  replace H : ((name_Compare.f k a1 a2).bind fun t312 => ((name_Compare.f k a0 a2).bind fun t313 => ((endonymlaw20_told.f k).bind fun t314 => (if t314 = true then ((name_Compare.f k a1 a0).bind fun t315 => (if t315 = (wrap64 (-t311)) then ((name_Compare.f k a0 a0).bind fun t316 => (if t316 = 0 then (if t311 ≤ 0 then (if t312 ≤ 0 then (if t313 > 0 then (endonymlaw20_NameOrder.j0 k a0 a1 a2 t311 true) else (if t311 < 0 then (if t313 ≥ 0 then (endonymlaw20_NameOrder.j0 k a0 a1 a2 t311 true) else (if t312 < 0 then (endonymlaw20_NameOrder.j0 k a0 a1 a2 t311 (decide (t313 ≥ 0))) else (endonymlaw20_NameOrder.j0 k a0 a1 a2 t311 false))) else (if t312 < 0 then (endonymlaw20_NameOrder.j0 k a0 a1 a2 t311 (decide (t313 ≥ 0))) else (endonymlaw20_NameOrder.j0 k a0 a1 a2 t311 false)))) else (if t311 < 0 then (if t312 < 0 then (endonymlaw20_NameOrder.j0 k a0 a1 a2 t311 (decide (t313 ≥ 0))) else (endonymlaw20_NameOrder.j0 k a0 a1 a2 t311 false)) else (if t312 < 0 then (endonymlaw20_NameOrder.j0 k a0 a1 a2 t311 (decide (t313 ≥ 0))) else (endonymlaw20_NameOrder.j0 k a0 a1 a2 t311 false)))) else (if t311 < 0 then (if t312 ≤ 0 then (if t313 ≥ 0 then (endonymlaw20_NameOrder.j0 k a0 a1 a2 t311 true) else (endonymlaw20_NameOrder.j0 k a0 a1 a2 t311 false)) else (endonymlaw20_NameOrder.j0 k a0 a1 a2 t311 false)) else (endonymlaw20_NameOrder.j0 k a0 a1 a2 t311 false))) else (endonymlaw20_NameOrder.j0 k a0 a1 a2 t311 true))) else (endonymlaw20_NameOrder.j0 k a0 a1 a2 t311 true))) else (endonymlaw20_NameOrder.j0 k a0 a1 a2 t311 true))))) = some r := H
  have A4 := Aside0.mk A40
  clear A40
  replace H := Option.bind_eq_some_iff.mp H
  obtain ⟨t312, A50, H⟩ := H
  replace H : ((name_Compare.f k a0 a2).bind fun t313 => ((endonymlaw20_told.f k).bind fun t314 => (if t314 = true then ((name_Compare.f k a1 a0).bind fun t315 => (if t315 = (wrap64 (-t311)) then ((name_Compare.f k a0 a0).bind fun t316 => (if t316 = 0 then (if t311 ≤ 0 then (if t312 ≤ 0 then (if t313 > 0 then (endonymlaw20_NameOrder.j0 k a0 a1 a2 t311 true) else (if t311 < 0 then (if t313 ≥ 0 then (endonymlaw20_NameOrder.j0 k a0 a1 a2 t311 true) else (if t312 < 0 then (endonymlaw20_NameOrder.j0 k a0 a1 a2 t311 (decide (t313 ≥ 0))) else (endonymlaw20_NameOrder.j0 k a0 a1 a2 t311 false))) else (if t312 < 0 then (endonymlaw20_NameOrder.j0 k a0 a1 a2 t311 (decide (t313 ≥ 0))) else (endonymlaw20_NameOrder.j0 k a0 a1 a2 t311 false)))) else (if t311 < 0 then (if t312 < 0 then (endonymlaw20_NameOrder.j0 k a0 a1 a2 t311 (decide (t313 ≥ 0))) else (endonymlaw20_NameOrder.j0 k a0 a1 a2 t311 false)) else (if t312 < 0 then (endonymlaw20_NameOrder.j0 k a0 a1 a2 t311 (decide (t313 ≥ 0))) else (endonymlaw20_NameOrder.j0 k a0 a1 a2 t311 false)))) else (if t311 < 0 then (if t312 ≤ 0 then (if t313 ≥ 0 then (endonymlaw20_NameOrder.j0 k a0 a1 a2 t311 true) else (endonymlaw20_NameOrder.j0 k a0 a1 a2 t311 false)) else (endonymlaw20_NameOrder.j0 k a0 a1 a2 t311 false)) else (endonymlaw20_NameOrder.j0 k a0 a1 a2 t311 false))) else (endonymlaw20_NameOrder.j0 k a0 a1 a2 t311 true))) else (endonymlaw20_NameOrder.j0 k a0 a1 a2 t311 true))) else (endonymlaw20_NameOrder.j0 k a0 a1 a2 t311 true)))) = some r := H
  have A5 := Aside0.mk A50
  clear A50
  replace H := Option.bind_eq_some_iff.mp H
  obtain ⟨t313, A60, H⟩ := H
  replace H : ((endonymlaw20_told.f k).bind fun t314 => (if t314 = true then ((name_Compare.f k a1 a0).bind fun t315 => (if t315 = (wrap64 (-t311)) then ((name_Compare.f k a0 a0).bind fun t316 => (if t316 = 0 then (if t311 ≤ 0 then (if t312 ≤ 0 then (if t313 > 0 then (endonymlaw20_NameOrder.j0 k a0 a1 a2 t311 true) else (if t311 < 0 then (if t313 ≥ 0 then (endonymlaw20_NameOrder.j0 k a0 a1 a2 t311 true) else (if t312 < 0 then (endonymlaw20_NameOrder.j0 k a0 a1 a2 t311 (decide (t313 ≥ 0))) else (endonymlaw20_NameOrder.j0 k a0 a1 a2 t311 false))) else (if t312 < 0 then (endonymlaw20_NameOrder.j0 k a0 a1 a2 t311 (decide (t313 ≥ 0))) else (endonymlaw20_NameOrder.j0 k a0 a1 a2 t311 false)))) else (if t311 < 0 then (if t312 < 0 then (endonymlaw20_NameOrder.j0 k a0 a1 a2 t311 (decide (t313 ≥ 0))) else (endonymlaw20_NameOrder.j0 k a0 a1 a2 t311 false)) else (if t312 < 0 then (endonymlaw20_NameOrder.j0 k a0 a1 a2 t311 (decide (t313 ≥ 0))) else (endonymlaw20_NameOrder.j0 k a0 a1 a2 t311 false)))) else (if t311 < 0 then (if t312 ≤ 0 then (if t313 ≥ 0 then (endonymlaw20_NameOrder.j0 k a0 a1 a2 t311 true) else (endonymlaw20_NameOrder.j0 k a0 a1 a2 t311 false)) else (endonymlaw20_NameOrder.j0 k a0 a1 a2 t311 false)) else (endonymlaw20_NameOrder.j0 k a0 a1 a2 t311 false))) else (endonymlaw20_NameOrder.j0 k a0 a1 a2 t311 true))) else (endonymlaw20_NameOrder.j0 k a0 a1 a2 t311 true))) else (endonymlaw20_NameOrder.j0 k a0 a1 a2 t311 true))) = some r := H
  have A6 := Aside0.mk A60
  clear A60
  have HC7 := Aside0.mk H
  clear H
  go_enter Tryd.func6, Tryd.ntmps6
  go_upto_region 2 with (first | ((with_reducible refine gate_callee (f := 12) rfl ?_); refine goesL_ (some 12) rfl rfl Tryd.func12 (by kernel_rfl) rfl #[.string a0, .string a1] rfl (by (try simp only [List.map_toArray, List.map_cons, List.map_nil]); first | done | rfl | (simp only [List.length_drop, List.length_take]; rfl)) ?_; (with_reducible refine (name_Compare.calls k a0 a1 t311 _ A4.out).mono ?_); rintro e w8 ⟨rfl, hb⟩; refine ⟨_, rfl, ?_⟩; have n0_ := Aside0.mk (below_step (by repeat (first | (with_reducible first | exact HB.out | apply below_alloc | apply pw_below_drewN | apply below_drew1) | exact HB.out)) hb); clear HB; have HB := n0_; clear n0_; (try clear hb); (try clear hb2); (try clear hk); (try clear hi)) | ((with_reducible refine gate_callee (f := 12) rfl ?_); refine goesL_ (some 15) rfl rfl Tryd.func12 (by kernel_rfl) rfl #[.string a1, .string a2] rfl (by (try simp only [List.map_toArray, List.map_cons, List.map_nil]); first | done | rfl | (simp only [List.length_drop, List.length_take]; rfl)) ?_; (with_reducible refine (name_Compare.calls k a1 a2 t312 _ A5.out).mono ?_); rintro e w9 ⟨rfl, hb⟩; refine ⟨_, rfl, ?_⟩; have n0_ := Aside0.mk (below_step (by repeat (first | (with_reducible first | exact HB.out | apply below_alloc | apply pw_below_drewN | apply below_drew1) | exact HB.out)) hb); clear HB; have HB := n0_; clear n0_; (try clear hb); (try clear hb2); (try clear hk); (try clear hi)) | ((with_reducible refine gate_callee (f := 12) rfl ?_); refine goesL_ (some 18) rfl rfl Tryd.func12 (by kernel_rfl) rfl #[.string a0, .string a2] rfl (by (try simp only [List.map_toArray, List.map_cons, List.map_nil]); first | done | rfl | (simp only [List.length_drop, List.length_take]; rfl)) ?_; (with_reducible refine (name_Compare.calls k a0 a2 t313 _ A6.out).mono ?_); rintro e w10 ⟨rfl, hb⟩; refine ⟨_, rfl, ?_⟩; have n0_ := Aside0.mk (below_step (by repeat (first | (with_reducible first | exact HB.out | apply below_alloc | apply pw_below_drewN | apply below_drew1) | exact HB.out)) hb); clear HB; have HB := n0_; clear n0_; (try clear hb); (try clear hb2); (try clear hk); (try clear hi)))
  (try simp only [Act.put, List.setIfInBounds_toArray, List.set_cons_zero, List.set_cons_succ])
  go_cut [70] (fun v70 wc => ∃ (kq : Nat) (x70_6 : Bool), v70 = .bool x70_6 ∧ Aside0 (endonymlaw20_NameOrder.j0 kq a0 a1 a2 t311 x70_6 = some r) ∧ Aside0 (kq ≤ k) ∧ Aside0 (Below w.heap.size w wc))
  case first =>
    have H := HC7.out
    clear HC7
    replace H := Option.bind_eq_some_iff.mp H
    obtain ⟨t314, A110, H⟩ := H
    replace H : (if t314 = true then ((name_Compare.f k a1 a0).bind fun t315 => (if t315 = (wrap64 (-t311)) then ((name_Compare.f k a0 a0).bind fun t316 => (if t316 = 0 then (if t311 ≤ 0 then (if t312 ≤ 0 then (if t313 > 0 then (endonymlaw20_NameOrder.j0 k a0 a1 a2 t311 true) else (if t311 < 0 then (if t313 ≥ 0 then (endonymlaw20_NameOrder.j0 k a0 a1 a2 t311 true) else (if t312 < 0 then (endonymlaw20_NameOrder.j0 k a0 a1 a2 t311 (decide (t313 ≥ 0))) else (endonymlaw20_NameOrder.j0 k a0 a1 a2 t311 false))) else (if t312 < 0 then (endonymlaw20_NameOrder.j0 k a0 a1 a2 t311 (decide (t313 ≥ 0))) else (endonymlaw20_NameOrder.j0 k a0 a1 a2 t311 false)))) else (if t311 < 0 then (if t312 < 0 then (endonymlaw20_NameOrder.j0 k a0 a1 a2 t311 (decide (t313 ≥ 0))) else (endonymlaw20_NameOrder.j0 k a0 a1 a2 t311 false)) else (if t312 < 0 then (endonymlaw20_NameOrder.j0 k a0 a1 a2 t311 (decide (t313 ≥ 0))) else (endonymlaw20_NameOrder.j0 k a0 a1 a2 t311 false)))) else (if t311 < 0 then (if t312 ≤ 0 then (if t313 ≥ 0 then (endonymlaw20_NameOrder.j0 k a0 a1 a2 t311 true) else (endonymlaw20_NameOrder.j0 k a0 a1 a2 t311 false)) else (endonymlaw20_NameOrder.j0 k a0 a1 a2 t311 false)) else (endonymlaw20_NameOrder.j0 k a0 a1 a2 t311 false))) else (endonymlaw20_NameOrder.j0 k a0 a1 a2 t311 true))) else (endonymlaw20_NameOrder.j0 k a0 a1 a2 t311 true))) else (endonymlaw20_NameOrder.j0 k a0 a1 a2 t311 true)) = some r := H
    have A11 := Aside0.mk A110
    clear A110
    by_cases c12 : t314 = true
    · subst c12
      have H1 : ((name_Compare.f k a1 a0).bind fun t315 => (if t315 = (wrap64 (-t311)) then ((name_Compare.f k a0 a0).bind fun t316 => (if t316 = 0 then (if t311 ≤ 0 then (if t312 ≤ 0 then (if t313 > 0 then (endonymlaw20_NameOrder.j0 k a0 a1 a2 t311 true) else (if t311 < 0 then (if t313 ≥ 0 then (endonymlaw20_NameOrder.j0 k a0 a1 a2 t311 true) else (if t312 < 0 then (endonymlaw20_NameOrder.j0 k a0 a1 a2 t311 (decide (t313 ≥ 0))) else (endonymlaw20_NameOrder.j0 k a0 a1 a2 t311 false))) else (if t312 < 0 then (endonymlaw20_NameOrder.j0 k a0 a1 a2 t311 (decide (t313 ≥ 0))) else (endonymlaw20_NameOrder.j0 k a0 a1 a2 t311 false)))) else (if t311 < 0 then (if t312 < 0 then (endonymlaw20_NameOrder.j0 k a0 a1 a2 t311 (decide (t313 ≥ 0))) else (endonymlaw20_NameOrder.j0 k a0 a1 a2 t311 false)) else (if t312 < 0 then (endonymlaw20_NameOrder.j0 k a0 a1 a2 t311 (decide (t313 ≥ 0))) else (endonymlaw20_NameOrder.j0 k a0 a1 a2 t311 false)))) else (if t311 < 0 then (if t312 ≤ 0 then (if t313 ≥ 0 then (endonymlaw20_NameOrder.j0 k a0 a1 a2 t311 true) else (endonymlaw20_NameOrder.j0 k a0 a1 a2 t311 false)) else (endonymlaw20_NameOrder.j0 k a0 a1 a2 t311 false)) else (endonymlaw20_NameOrder.j0 k a0 a1 a2 t311 false))) else (endonymlaw20_NameOrder.j0 k a0 a1 a2 t311 true))) else (endonymlaw20_NameOrder.j0 k a0 a1 a2 t311 true))) = some r := by rw [if_pos rfl] at H; exact H
      clear H
      have H := H1
      clear H1
      replace H := Option.bind_eq_some_iff.mp H
      obtain ⟨t315, A130, H⟩ := H
      replace H : (if t315 = (wrap64 (-t311)) then ((name_Compare.f k a0 a0).bind fun t316 => (if t316 = 0 then (if t311 ≤ 0 then (if t312 ≤ 0 then (if t313 > 0 then (endonymlaw20_NameOrder.j0 k a0 a1 a2 t311 true) else (if t311 < 0 then (if t313 ≥ 0 then (endonymlaw20_NameOrder.j0 k a0 a1 a2 t311 true) else (if t312 < 0 then (endonymlaw20_NameOrder.j0 k a0 a1 a2 t311 (decide (t313 ≥ 0))) else (endonymlaw20_NameOrder.j0 k a0 a1 a2 t311 false))) else (if t312 < 0 then (endonymlaw20_NameOrder.j0 k a0 a1 a2 t311 (decide (t313 ≥ 0))) else (endonymlaw20_NameOrder.j0 k a0 a1 a2 t311 false)))) else (if t311 < 0 then (if t312 < 0 then (endonymlaw20_NameOrder.j0 k a0 a1 a2 t311 (decide (t313 ≥ 0))) else (endonymlaw20_NameOrder.j0 k a0 a1 a2 t311 false)) else (if t312 < 0 then (endonymlaw20_NameOrder.j0 k a0 a1 a2 t311 (decide (t313 ≥ 0))) else (endonymlaw20_NameOrder.j0 k a0 a1 a2 t311 false)))) else (if t311 < 0 then (if t312 ≤ 0 then (if t313 ≥ 0 then (endonymlaw20_NameOrder.j0 k a0 a1 a2 t311 true) else (endonymlaw20_NameOrder.j0 k a0 a1 a2 t311 false)) else (endonymlaw20_NameOrder.j0 k a0 a1 a2 t311 false)) else (endonymlaw20_NameOrder.j0 k a0 a1 a2 t311 false))) else (endonymlaw20_NameOrder.j0 k a0 a1 a2 t311 true))) else (endonymlaw20_NameOrder.j0 k a0 a1 a2 t311 true)) = some r := H
      have A13 := Aside0.mk A130
      clear A130
      by_cases c14 : t315 = (wrap64 (-t311))
      · rw [if_pos c14] at H
        have c14b0 : (t315 == (wrap64 (-t311))) = true := beq_iff_eq.mpr c14
        have c14b1 : (t315 != (wrap64 (-t311))) = false := bne_eq_false_iff_eq.mpr c14
        clear c14
        (first | rw [c14b0] | (simp only [i64_w, i32_w]; rw [c14b0]) | skip)
        replace H := Option.bind_eq_some_iff.mp H
        obtain ⟨t316, A150, H⟩ := H
        replace H : (if t316 = 0 then (if t311 ≤ 0 then (if t312 ≤ 0 then (if t313 > 0 then (endonymlaw20_NameOrder.j0 k a0 a1 a2 t311 true) else (if t311 < 0 then (if t313 ≥ 0 then (endonymlaw20_NameOrder.j0 k a0 a1 a2 t311 true) else (if t312 < 0 then (endonymlaw20_NameOrder.j0 k a0 a1 a2 t311 (decide (t313 ≥ 0))) else (endonymlaw20_NameOrder.j0 k a0 a1 a2 t311 false))) else (if t312 < 0 then (endonymlaw20_NameOrder.j0 k a0 a1 a2 t311 (decide (t313 ≥ 0))) else (endonymlaw20_NameOrder.j0 k a0 a1 a2 t311 false)))) else (if t311 < 0 then (if t312 < 0 then (endonymlaw20_NameOrder.j0 k a0 a1 a2 t311 (decide (t313 ≥ 0))) else (endonymlaw20_NameOrder.j0 k a0 a1 a2 t311 false)) else (if t312 < 0 then (endonymlaw20_NameOrder.j0 k a0 a1 a2 t311 (decide (t313 ≥ 0))) else (endonymlaw20_NameOrder.j0 k a0 a1 a2 t311 false)))) else (if t311 < 0 then (if t312 ≤ 0 then (if t313 ≥ 0 then (endonymlaw20_NameOrder.j0 k a0 a1 a2 t311 true) else (endonymlaw20_NameOrder.j0 k a0 a1 a2 t311 false)) else (endonymlaw20_NameOrder.j0 k a0 a1 a2 t311 false)) else (endonymlaw20_NameOrder.j0 k a0 a1 a2 t311 false))) else (endonymlaw20_NameOrder.j0 k a0 a1 a2 t311 true)) = some r := H
        have A15 := Aside0.mk A150
        clear A150
        by_cases c16 : t316 = 0
        · rw [if_pos c16] at H
          have c16b0 : (t316 == 0) = true := beq_iff_eq.mpr c16
          have c16b1 : (t316 != 0) = false := bne_eq_false_iff_eq.mpr c16
          clear c16
          by_cases c17 : t311 ≤ 0
          · rw [if_pos c17] at H
            have c17b0 : decide (t311 ≤ 0) = true := decide_eq_true c17
            clear c17
            by_cases c18 : t312 ≤ 0
            · rw [if_pos c18] at H
              have c18b0 : decide (t312 ≤ 0) = true := decide_eq_true c18
              clear c18
              by_cases c19 : t313 > 0
              · rw [if_pos c19] at H
                have c19b0 : decide (0 < t313) = true := decide_eq_true c19
                clear c19
                have H' := Aside0.mk H
                clear H
                go_wp2_with (first | ((with_reducible refine gate_callee (f := 11) rfl ?_); refine goesL_ (some 19) rfl rfl Tryd.func11 (by kernel_rfl) rfl #[] rfl (by (try simp only [List.map_toArray, List.map_cons, List.map_nil]); first | done | rfl | (simp only [List.length_drop, List.length_take]; rfl)) ?_; (with_reducible refine (endonymlaw20_told.calls k  true _ A11.out).mono ?_); rintro e w20 ⟨rfl, hb⟩; refine ⟨_, rfl, ?_⟩; have n0_ := Aside0.mk (below_step (by repeat (first | (with_reducible first | exact HB.out | apply below_alloc | apply pw_below_drewN | apply below_drew1) | exact HB.out)) hb); clear HB; have HB := n0_; clear n0_; (try clear hb); (try clear hb2); (try clear hk); (try clear hi)) | (go_at_call 12; (with_reducible refine (name_Compare.calls k a1 a0 t315 _ A13.out).mono ?_); rintro e w21 ⟨rfl, hb⟩; have n0_ := Aside0.mk (below_step (by repeat (first | (with_reducible first | exact HB.out | apply below_alloc | apply pw_below_drewN | apply below_drew1) | exact HB.out)) hb); clear HB; have HB := n0_; clear n0_; (try clear hb); (try clear hb2); (try clear hk); (try clear hi)) | (go_at_call 12; (with_reducible refine (name_Compare.calls k a0 a0 t316 _ A15.out).mono ?_); rintro e w22 ⟨rfl, hb⟩; have n0_ := Aside0.mk (below_step (by repeat (first | (with_reducible first | exact HB.out | apply below_alloc | apply pw_below_drewN | apply below_drew1) | exact HB.out)) hb); clear HB; have HB := n0_; clear n0_; (try clear hb); (try clear hb2); (try clear hk); (try clear hi)))
                go_meet
                case rel => exact ⟨_, (true), (by first | rfl | (simp; done) | (simp [*]; done)), H', ⟨by first | omega | exact Nat.le_refl _⟩, ⟨by repeat (first | (with_reducible first | exact HB.out | apply below_alloc | apply pw_below_drewN | apply below_drew1) | exact HB.out)⟩⟩
              · rw [if_neg c19] at H
                have c19b0 : decide (0 < t313) = false := decide_eq_false c19
                clear c19
                by_cases c23 : t311 < 0
                · rw [if_pos c23] at H
                  have c23b0 : decide (t311 < 0) = true := decide_eq_true c23
                  clear c23
                  by_cases c24 : t313 ≥ 0
                  · rw [if_pos c24] at H
                    have c24b0 : decide (0 ≤ t313) = true := decide_eq_true c24
                    clear c24
                    have H' := Aside0.mk H
                    clear H
                    go_wp2_with (first | ((with_reducible refine gate_callee (f := 11) rfl ?_); refine goesL_ (some 19) rfl rfl Tryd.func11 (by kernel_rfl) rfl #[] rfl (by (try simp only [List.map_toArray, List.map_cons, List.map_nil]); first | done | rfl | (simp only [List.length_drop, List.length_take]; rfl)) ?_; (with_reducible refine (endonymlaw20_told.calls k  true _ A11.out).mono ?_); rintro e w25 ⟨rfl, hb⟩; refine ⟨_, rfl, ?_⟩; have n0_ := Aside0.mk (below_step (by repeat (first | (with_reducible first | exact HB.out | apply below_alloc | apply pw_below_drewN | apply below_drew1) | exact HB.out)) hb); clear HB; have HB := n0_; clear n0_; (try clear hb); (try clear hb2); (try clear hk); (try clear hi)) | (go_at_call 12; (with_reducible refine (name_Compare.calls k a1 a0 t315 _ A13.out).mono ?_); rintro e w26 ⟨rfl, hb⟩; have n0_ := Aside0.mk (below_step (by repeat (first | (with_reducible first | exact HB.out | apply below_alloc | apply pw_below_drewN | apply below_drew1) | exact HB.out)) hb); clear HB; have HB := n0_; clear n0_; (try clear hb); (try clear hb2); (try clear hk); (try clear hi)) | (go_at_call 12; (with_reducible refine (name_Compare.calls k a0 a0 t316 _ A15.out).mono ?_); rintro e w27 ⟨rfl, hb⟩; have n0_ := Aside0.mk (below_step (by repeat (first | (with_reducible first | exact HB.out | apply below_alloc | apply pw_below_drewN | apply below_drew1) | exact HB.out)) hb); clear HB; have HB := n0_; clear n0_; (try clear hb); (try clear hb2); (try clear hk); (try clear hi)))
                    go_meet
                    case rel => exact ⟨_, (true), (by first | rfl | (simp; done) | (simp [*]; done)), H', ⟨by first | omega | exact Nat.le_refl _⟩, ⟨by repeat (first | (with_reducible first | exact HB.out | apply below_alloc | apply pw_below_drewN | apply below_drew1) | exact HB.out)⟩⟩
                  · rw [if_neg c24] at H
                    have c24b0 : decide (0 ≤ t313) = false := decide_eq_false c24
                    clear c24
                    by_cases c28 : t312 < 0
                    · rw [if_pos c28] at H
                      have c28b0 : decide (t312 < 0) = true := decide_eq_true c28
                      clear c28
                      have H' := Aside0.mk H
                      clear H
                      go_wp2_with (first | ((with_reducible refine gate_callee (f := 11) rfl ?_); refine goesL_ (some 19) rfl rfl Tryd.func11 (by kernel_rfl) rfl #[] rfl (by (try simp only [List.map_toArray, List.map_cons, List.map_nil]); first | done | rfl | (simp only [List.length_drop, List.length_take]; rfl)) ?_; (with_reducible refine (endonymlaw20_told.calls k  true _ A11.out).mono ?_); rintro e w29 ⟨rfl, hb⟩; refine ⟨_, rfl, ?_⟩; have n0_ := Aside0.mk (below_step (by repeat (first | (with_reducible first | exact HB.out | apply below_alloc | apply pw_below_drewN | apply below_drew1) | exact HB.out)) hb); clear HB; have HB := n0_; clear n0_; (try clear hb); (try clear hb2); (try clear hk); (try clear hi)) | (go_at_call 12; (with_reducible refine (name_Compare.calls k a1 a0 t315 _ A13.out).mono ?_); rintro e w30 ⟨rfl, hb⟩; have n0_ := Aside0.mk (below_step (by repeat (first | (with_reducible first | exact HB.out | apply below_alloc | apply pw_below_drewN | apply below_drew1) | exact HB.out)) hb); clear HB; have HB := n0_; clear n0_; (try clear hb); (try clear hb2); (try clear hk); (try clear hi)) | (go_at_call 12; (with_reducible refine (name_Compare.calls k a0 a0 t316 _ A15.out).mono ?_); rintro e w31 ⟨rfl, hb⟩; have n0_ := Aside0.mk (below_step (by repeat (first | (with_reducible first | exact HB.out | apply below_alloc | apply pw_below_drewN | apply below_drew1) | exact HB.out)) hb); clear HB; have HB := n0_; clear n0_; (try clear hb); (try clear hb2); (try clear hk); (try clear hi)))
                      go_meet
                      case rel => exact ⟨_, (decide (t313 ≥ 0)), (by first | rfl | (simp; done) | (simp [*]; done)), H', ⟨by first | omega | exact Nat.le_refl _⟩, ⟨by repeat (first | (with_reducible first | exact HB.out | apply below_alloc | apply pw_below_drewN | apply below_drew1) | exact HB.out)⟩⟩
                    · rw [if_neg c28] at H
                      have c28b0 : decide (t312 < 0) = false := decide_eq_false c28
                      clear c28
                      have H' := Aside0.mk H
                      clear H
                      go_wp2_with (first | ((with_reducible refine gate_callee (f := 11) rfl ?_); refine goesL_ (some 19) rfl rfl Tryd.func11 (by kernel_rfl) rfl #[] rfl (by (try simp only [List.map_toArray, List.map_cons, List.map_nil]); first | done | rfl | (simp only [List.length_drop, List.length_take]; rfl)) ?_; (with_reducible refine (endonymlaw20_told.calls k  true _ A11.out).mono ?_); rintro e w32 ⟨rfl, hb⟩; refine ⟨_, rfl, ?_⟩; have n0_ := Aside0.mk (below_step (by repeat (first | (with_reducible first | exact HB.out | apply below_alloc | apply pw_below_drewN | apply below_drew1) | exact HB.out)) hb); clear HB; have HB := n0_; clear n0_; (try clear hb); (try clear hb2); (try clear hk); (try clear hi)) | (go_at_call 12; (with_reducible refine (name_Compare.calls k a1 a0 t315 _ A13.out).mono ?_); rintro e w33 ⟨rfl, hb⟩; have n0_ := Aside0.mk (below_step (by repeat (first | (with_reducible first | exact HB.out | apply below_alloc | apply pw_below_drewN | apply below_drew1) | exact HB.out)) hb); clear HB; have HB := n0_; clear n0_; (try clear hb); (try clear hb2); (try clear hk); (try clear hi)) | (go_at_call 12; (with_reducible refine (name_Compare.calls k a0 a0 t316 _ A15.out).mono ?_); rintro e w34 ⟨rfl, hb⟩; have n0_ := Aside0.mk (below_step (by repeat (first | (with_reducible first | exact HB.out | apply below_alloc | apply pw_below_drewN | apply below_drew1) | exact HB.out)) hb); clear HB; have HB := n0_; clear n0_; (try clear hb); (try clear hb2); (try clear hk); (try clear hi)))
                      go_meet
                      case rel => exact ⟨_, (false), (by first | rfl | (simp; done) | (simp [*]; done)), H', ⟨by first | omega | exact Nat.le_refl _⟩, ⟨by repeat (first | (with_reducible first | exact HB.out | apply below_alloc | apply pw_below_drewN | apply below_drew1) | exact HB.out)⟩⟩
                · rw [if_neg c23] at H
                  have c23b0 : decide (t311 < 0) = false := decide_eq_false c23
                  clear c23
                  by_cases c35 : t312 < 0
                  · rw [if_pos c35] at H
                    have c35b0 : decide (t312 < 0) = true := decide_eq_true c35
                    clear c35
                    have H' := Aside0.mk H
                    clear H
                    go_wp2_with (first | ((with_reducible refine gate_callee (f := 11) rfl ?_); refine goesL_ (some 19) rfl rfl Tryd.func11 (by kernel_rfl) rfl #[] rfl (by (try simp only [List.map_toArray, List.map_cons, List.map_nil]); first | done | rfl | (simp only [List.length_drop, List.length_take]; rfl)) ?_; (with_reducible refine (endonymlaw20_told.calls k  true _ A11.out).mono ?_); rintro e w36 ⟨rfl, hb⟩; refine ⟨_, rfl, ?_⟩; have n0_ := Aside0.mk (below_step (by repeat (first | (with_reducible first | exact HB.out | apply below_alloc | apply pw_below_drewN | apply below_drew1) | exact HB.out)) hb); clear HB; have HB := n0_; clear n0_; (try clear hb); (try clear hb2); (try clear hk); (try clear hi)) | (go_at_call 12; (with_reducible refine (name_Compare.calls k a1 a0 t315 _ A13.out).mono ?_); rintro e w37 ⟨rfl, hb⟩; have n0_ := Aside0.mk (below_step (by repeat (first | (with_reducible first | exact HB.out | apply below_alloc | apply pw_below_drewN | apply below_drew1) | exact HB.out)) hb); clear HB; have HB := n0_; clear n0_; (try clear hb); (try clear hb2); (try clear hk); (try clear hi)) | (go_at_call 12; (with_reducible refine (name_Compare.calls k a0 a0 t316 _ A15.out).mono ?_); rintro e w38 ⟨rfl, hb⟩; have n0_ := Aside0.mk (below_step (by repeat (first | (with_reducible first | exact HB.out | apply below_alloc | apply pw_below_drewN | apply below_drew1) | exact HB.out)) hb); clear HB; have HB := n0_; clear n0_; (try clear hb); (try clear hb2); (try clear hk); (try clear hi)))
                    go_meet
                    case rel => exact ⟨_, (decide (t313 ≥ 0)), (by first | rfl | (simp; done) | (simp [*]; done)), H', ⟨by first | omega | exact Nat.le_refl _⟩, ⟨by repeat (first | (with_reducible first | exact HB.out | apply below_alloc | apply pw_below_drewN | apply below_drew1) | exact HB.out)⟩⟩
                  · rw [if_neg c35] at H
                    have c35b0 : decide (t312 < 0) = false := decide_eq_false c35
                    clear c35
                    have H' := Aside0.mk H
                    clear H
                    go_wp2_with (first | ((with_reducible refine gate_callee (f := 11) rfl ?_); refine goesL_ (some 19) rfl rfl Tryd.func11 (by kernel_rfl) rfl #[] rfl (by (try simp only [List.map_toArray, List.map_cons, List.map_nil]); first | done | rfl | (simp only [List.length_drop, List.length_take]; rfl)) ?_; (with_reducible refine (endonymlaw20_told.calls k  true _ A11.out).mono ?_); rintro e w39 ⟨rfl, hb⟩; refine ⟨_, rfl, ?_⟩; have n0_ := Aside0.mk (below_step (by repeat (first | (with_reducible first | exact HB.out | apply below_alloc | apply pw_below_drewN | apply below_drew1) | exact HB.out)) hb); clear HB; have HB := n0_; clear n0_; (try clear hb); (try clear hb2); (try clear hk); (try clear hi)) | (go_at_call 12; (with_reducible refine (name_Compare.calls k a1 a0 t315 _ A13.out).mono ?_); rintro e w40 ⟨rfl, hb⟩; have n0_ := Aside0.mk (below_step (by repeat (first | (with_reducible first | exact HB.out | apply below_alloc | apply pw_below_drewN | apply below_drew1) | exact HB.out)) hb); clear HB; have HB := n0_; clear n0_; (try clear hb); (try clear hb2); (try clear hk); (try clear hi)) | (go_at_call 12; (with_reducible refine (name_Compare.calls k a0 a0 t316 _ A15.out).mono ?_); rintro e w41 ⟨rfl, hb⟩; have n0_ := Aside0.mk (below_step (by repeat (first | (with_reducible first | exact HB.out | apply below_alloc | apply pw_below_drewN | apply below_drew1) | exact HB.out)) hb); clear HB; have HB := n0_; clear n0_; (try clear hb); (try clear hb2); (try clear hk); (try clear hi)))
                    go_meet
                    case rel => exact ⟨_, (false), (by first | rfl | (simp; done) | (simp [*]; done)), H', ⟨by first | omega | exact Nat.le_refl _⟩, ⟨by repeat (first | (with_reducible first | exact HB.out | apply below_alloc | apply pw_below_drewN | apply below_drew1) | exact HB.out)⟩⟩
            · rw [if_neg c18] at H
              have c18b0 : decide (t312 ≤ 0) = false := decide_eq_false c18
              clear c18
              by_cases c42 : t311 < 0
              · rw [if_pos c42] at H
                have c42b0 : decide (t311 < 0) = true := decide_eq_true c42
                clear c42
                by_cases c43 : t312 < 0
                · rw [if_pos c43] at H
                  have c43b0 : decide (t312 < 0) = true := decide_eq_true c43
                  clear c43
                  have H' := Aside0.mk H
                  clear H
                  go_wp2_with (first | ((with_reducible refine gate_callee (f := 11) rfl ?_); refine goesL_ (some 19) rfl rfl Tryd.func11 (by kernel_rfl) rfl #[] rfl (by (try simp only [List.map_toArray, List.map_cons, List.map_nil]); first | done | rfl | (simp only [List.length_drop, List.length_take]; rfl)) ?_; (with_reducible refine (endonymlaw20_told.calls k  true _ A11.out).mono ?_); rintro e w44 ⟨rfl, hb⟩; refine ⟨_, rfl, ?_⟩; have n0_ := Aside0.mk (below_step (by repeat (first | (with_reducible first | exact HB.out | apply below_alloc | apply pw_below_drewN | apply below_drew1) | exact HB.out)) hb); clear HB; have HB := n0_; clear n0_; (try clear hb); (try clear hb2); (try clear hk); (try clear hi)) | (go_at_call 12; (with_reducible refine (name_Compare.calls k a1 a0 t315 _ A13.out).mono ?_); rintro e w45 ⟨rfl, hb⟩; have n0_ := Aside0.mk (below_step (by repeat (first | (with_reducible first | exact HB.out | apply below_alloc | apply pw_below_drewN | apply below_drew1) | exact HB.out)) hb); clear HB; have HB := n0_; clear n0_; (try clear hb); (try clear hb2); (try clear hk); (try clear hi)) | (go_at_call 12; (with_reducible refine (name_Compare.calls k a0 a0 t316 _ A15.out).mono ?_); rintro e w46 ⟨rfl, hb⟩; have n0_ := Aside0.mk (below_step (by repeat (first | (with_reducible first | exact HB.out | apply below_alloc | apply pw_below_drewN | apply below_drew1) | exact HB.out)) hb); clear HB; have HB := n0_; clear n0_; (try clear hb); (try clear hb2); (try clear hk); (try clear hi)))
                  go_meet
                  case rel => exact ⟨_, (decide (t313 ≥ 0)), (by first | rfl | (simp; done) | (simp [*]; done)), H', ⟨by first | omega | exact Nat.le_refl _⟩, ⟨by repeat (first | (with_reducible first | exact HB.out | apply below_alloc | apply pw_below_drewN | apply below_drew1) | exact HB.out)⟩⟩
                · rw [if_neg c43] at H
                  have c43b0 : decide (t312 < 0) = false := decide_eq_false c43
                  clear c43
                  have H' := Aside0.mk H
                  clear H
                  go_wp2_with (first | ((with_reducible refine gate_callee (f := 11) rfl ?_); refine goesL_ (some 19) rfl rfl Tryd.func11 (by kernel_rfl) rfl #[] rfl (by (try simp only [List.map_toArray, List.map_cons, List.map_nil]); first | done | rfl | (simp only [List.length_drop, List.length_take]; rfl)) ?_; (with_reducible refine (endonymlaw20_told.calls k  true _ A11.out).mono ?_); rintro e w47 ⟨rfl, hb⟩; refine ⟨_, rfl, ?_⟩; have n0_ := Aside0.mk (below_step (by repeat (first | (with_reducible first | exact HB.out | apply below_alloc | apply pw_below_drewN | apply below_drew1) | exact HB.out)) hb); clear HB; have HB := n0_; clear n0_; (try clear hb); (try clear hb2); (try clear hk); (try clear hi)) | (go_at_call 12; (with_reducible refine (name_Compare.calls k a1 a0 t315 _ A13.out).mono ?_); rintro e w48 ⟨rfl, hb⟩; have n0_ := Aside0.mk (below_step (by repeat (first | (with_reducible first | exact HB.out | apply below_alloc | apply pw_below_drewN | apply below_drew1) | exact HB.out)) hb); clear HB; have HB := n0_; clear n0_; (try clear hb); (try clear hb2); (try clear hk); (try clear hi)) | (go_at_call 12; (with_reducible refine (name_Compare.calls k a0 a0 t316 _ A15.out).mono ?_); rintro e w49 ⟨rfl, hb⟩; have n0_ := Aside0.mk (below_step (by repeat (first | (with_reducible first | exact HB.out | apply below_alloc | apply pw_below_drewN | apply below_drew1) | exact HB.out)) hb); clear HB; have HB := n0_; clear n0_; (try clear hb); (try clear hb2); (try clear hk); (try clear hi)))
                  go_meet
                  case rel => exact ⟨_, (false), (by first | rfl | (simp; done) | (simp [*]; done)), H', ⟨by first | omega | exact Nat.le_refl _⟩, ⟨by repeat (first | (with_reducible first | exact HB.out | apply below_alloc | apply pw_below_drewN | apply below_drew1) | exact HB.out)⟩⟩
              · rw [if_neg c42] at H
                have c42b0 : decide (t311 < 0) = false := decide_eq_false c42
                clear c42
                by_cases c50 : t312 < 0
                · rw [if_pos c50] at H
                  have c50b0 : decide (t312 < 0) = true := decide_eq_true c50
                  clear c50
                  have H' := Aside0.mk H
                  clear H
                  go_wp2_with (first | ((with_reducible refine gate_callee (f := 11) rfl ?_); refine goesL_ (some 19) rfl rfl Tryd.func11 (by kernel_rfl) rfl #[] rfl (by (try simp only [List.map_toArray, List.map_cons, List.map_nil]); first | done | rfl | (simp only [List.length_drop, List.length_take]; rfl)) ?_; (with_reducible refine (endonymlaw20_told.calls k  true _ A11.out).mono ?_); rintro e w51 ⟨rfl, hb⟩; refine ⟨_, rfl, ?_⟩; have n0_ := Aside0.mk (below_step (by repeat (first | (with_reducible first | exact HB.out | apply below_alloc | apply pw_below_drewN | apply below_drew1) | exact HB.out)) hb); clear HB; have HB := n0_; clear n0_; (try clear hb); (try clear hb2); (try clear hk); (try clear hi)) | (go_at_call 12; (with_reducible refine (name_Compare.calls k a1 a0 t315 _ A13.out).mono ?_); rintro e w52 ⟨rfl, hb⟩; have n0_ := Aside0.mk (below_step (by repeat (first | (with_reducible first | exact HB.out | apply below_alloc | apply pw_below_drewN | apply below_drew1) | exact HB.out)) hb); clear HB; have HB := n0_; clear n0_; (try clear hb); (try clear hb2); (try clear hk); (try clear hi)) | (go_at_call 12; (with_reducible refine (name_Compare.calls k a0 a0 t316 _ A15.out).mono ?_); rintro e w53 ⟨rfl, hb⟩; have n0_ := Aside0.mk (below_step (by repeat (first | (with_reducible first | exact HB.out | apply below_alloc | apply pw_below_drewN | apply below_drew1) | exact HB.out)) hb); clear HB; have HB := n0_; clear n0_; (try clear hb); (try clear hb2); (try clear hk); (try clear hi)))
                  go_meet
                  case rel => exact ⟨_, (decide (t313 ≥ 0)), (by first | rfl | (simp; done) | (simp [*]; done)), H', ⟨by first | omega | exact Nat.le_refl _⟩, ⟨by repeat (first | (with_reducible first | exact HB.out | apply below_alloc | apply pw_below_drewN | apply below_drew1) | exact HB.out)⟩⟩
                · rw [if_neg c50] at H
                  have c50b0 : decide (t312 < 0) = false := decide_eq_false c50
                  clear c50
                  have H' := Aside0.mk H
                  clear H
                  go_wp2_with (first | ((with_reducible refine gate_callee (f := 11) rfl ?_); refine goesL_ (some 19) rfl rfl Tryd.func11 (by kernel_rfl) rfl #[] rfl (by (try simp only [List.map_toArray, List.map_cons, List.map_nil]); first | done | rfl | (simp only [List.length_drop, List.length_take]; rfl)) ?_; (with_reducible refine (endonymlaw20_told.calls k  true _ A11.out).mono ?_); rintro e w54 ⟨rfl, hb⟩; refine ⟨_, rfl, ?_⟩; have n0_ := Aside0.mk (below_step (by repeat (first | (with_reducible first | exact HB.out | apply below_alloc | apply pw_below_drewN | apply below_drew1) | exact HB.out)) hb); clear HB; have HB := n0_; clear n0_; (try clear hb); (try clear hb2); (try clear hk); (try clear hi)) | (go_at_call 12; (with_reducible refine (name_Compare.calls k a1 a0 t315 _ A13.out).mono ?_); rintro e w55 ⟨rfl, hb⟩; have n0_ := Aside0.mk (below_step (by repeat (first | (with_reducible first | exact HB.out | apply below_alloc | apply pw_below_drewN | apply below_drew1) | exact HB.out)) hb); clear HB; have HB := n0_; clear n0_; (try clear hb); (try clear hb2); (try clear hk); (try clear hi)) | (go_at_call 12; (with_reducible refine (name_Compare.calls k a0 a0 t316 _ A15.out).mono ?_); rintro e w56 ⟨rfl, hb⟩; have n0_ := Aside0.mk (below_step (by repeat (first | (with_reducible first | exact HB.out | apply below_alloc | apply pw_below_drewN | apply below_drew1) | exact HB.out)) hb); clear HB; have HB := n0_; clear n0_; (try clear hb); (try clear hb2); (try clear hk); (try clear hi)))
                  go_meet
                  case rel => exact ⟨_, (false), (by first | rfl | (simp; done) | (simp [*]; done)), H', ⟨by first | omega | exact Nat.le_refl _⟩, ⟨by repeat (first | (with_reducible first | exact HB.out | apply below_alloc | apply pw_below_drewN | apply below_drew1) | exact HB.out)⟩⟩
          · rw [if_neg c17] at H
            have c17b0 : decide (t311 ≤ 0) = false := decide_eq_false c17
            clear c17
            by_cases c57 : t311 < 0
            · rw [if_pos c57] at H
              have c57b0 : decide (t311 < 0) = true := decide_eq_true c57
              clear c57
              by_cases c58 : t312 ≤ 0
              · rw [if_pos c58] at H
                have c58b0 : decide (t312 ≤ 0) = true := decide_eq_true c58
                clear c58
                by_cases c59 : t313 ≥ 0
                · rw [if_pos c59] at H
                  have c59b0 : decide (0 ≤ t313) = true := decide_eq_true c59
                  clear c59
                  have H' := Aside0.mk H
                  clear H
                  go_wp2_with (first | ((with_reducible refine gate_callee (f := 11) rfl ?_); refine goesL_ (some 19) rfl rfl Tryd.func11 (by kernel_rfl) rfl #[] rfl (by (try simp only [List.map_toArray, List.map_cons, List.map_nil]); first | done | rfl | (simp only [List.length_drop, List.length_take]; rfl)) ?_; (with_reducible refine (endonymlaw20_told.calls k  true _ A11.out).mono ?_); rintro e w60 ⟨rfl, hb⟩; refine ⟨_, rfl, ?_⟩; have n0_ := Aside0.mk (below_step (by repeat (first | (with_reducible first | exact HB.out | apply below_alloc | apply pw_below_drewN | apply below_drew1) | exact HB.out)) hb); clear HB; have HB := n0_; clear n0_; (try clear hb); (try clear hb2); (try clear hk); (try clear hi)) | (go_at_call 12; (with_reducible refine (name_Compare.calls k a1 a0 t315 _ A13.out).mono ?_); rintro e w61 ⟨rfl, hb⟩; have n0_ := Aside0.mk (below_step (by repeat (first | (with_reducible first | exact HB.out | apply below_alloc | apply pw_below_drewN | apply below_drew1) | exact HB.out)) hb); clear HB; have HB := n0_; clear n0_; (try clear hb); (try clear hb2); (try clear hk); (try clear hi)) | (go_at_call 12; (with_reducible refine (name_Compare.calls k a0 a0 t316 _ A15.out).mono ?_); rintro e w62 ⟨rfl, hb⟩; have n0_ := Aside0.mk (below_step (by repeat (first | (with_reducible first | exact HB.out | apply below_alloc | apply pw_below_drewN | apply below_drew1) | exact HB.out)) hb); clear HB; have HB := n0_; clear n0_; (try clear hb); (try clear hb2); (try clear hk); (try clear hi)))
                  go_meet
                  case rel => exact ⟨_, (true), (by first | rfl | (simp; done) | (simp [*]; done)), H', ⟨by first | omega | exact Nat.le_refl _⟩, ⟨by repeat (first | (with_reducible first | exact HB.out | apply below_alloc | apply pw_below_drewN | apply below_drew1) | exact HB.out)⟩⟩
                · rw [if_neg c59] at H
                  have c59b0 : decide (0 ≤ t313) = false := decide_eq_false c59
                  clear c59
                  have H' := Aside0.mk H
                  clear H
                  go_wp2_with (first | ((with_reducible refine gate_callee (f := 11) rfl ?_); refine goesL_ (some 19) rfl rfl Tryd.func11 (by kernel_rfl) rfl #[] rfl (by (try simp only [List.map_toArray, List.map_cons, List.map_nil]); first | done | rfl | (simp only [List.length_drop, List.length_take]; rfl)) ?_; (with_reducible refine (endonymlaw20_told.calls k  true _ A11.out).mono ?_); rintro e w63 ⟨rfl, hb⟩; refine ⟨_, rfl, ?_⟩; have n0_ := Aside0.mk (below_step (by repeat (first | (with_reducible first | exact HB.out | apply below_alloc | apply pw_below_drewN | apply below_drew1) | exact HB.out)) hb); clear HB; have HB := n0_; clear n0_; (try clear hb); (try clear hb2); (try clear hk); (try clear hi)) | (go_at_call 12; (with_reducible refine (name_Compare.calls k a1 a0 t315 _ A13.out).mono ?_); rintro e w64 ⟨rfl, hb⟩; have n0_ := Aside0.mk (below_step (by repeat (first | (with_reducible first | exact HB.out | apply below_alloc | apply pw_below_drewN | apply below_drew1) | exact HB.out)) hb); clear HB; have HB := n0_; clear n0_; (try clear hb); (try clear hb2); (try clear hk); (try clear hi)) | (go_at_call 12; (with_reducible refine (name_Compare.calls k a0 a0 t316 _ A15.out).mono ?_); rintro e w65 ⟨rfl, hb⟩; have n0_ := Aside0.mk (below_step (by repeat (first | (with_reducible first | exact HB.out | apply below_alloc | apply pw_below_drewN | apply below_drew1) | exact HB.out)) hb); clear HB; have HB := n0_; clear n0_; (try clear hb); (try clear hb2); (try clear hk); (try clear hi)))
                  go_meet
                  case rel => exact ⟨_, (false), (by first | rfl | (simp; done) | (simp [*]; done)), H', ⟨by first | omega | exact Nat.le_refl _⟩, ⟨by repeat (first | (with_reducible first | exact HB.out | apply below_alloc | apply pw_below_drewN | apply below_drew1) | exact HB.out)⟩⟩
              · rw [if_neg c58] at H
                have c58b0 : decide (t312 ≤ 0) = false := decide_eq_false c58
                clear c58
                have H' := Aside0.mk H
                clear H
                go_wp2_with (first | ((with_reducible refine gate_callee (f := 11) rfl ?_); refine goesL_ (some 19) rfl rfl Tryd.func11 (by kernel_rfl) rfl #[] rfl (by (try simp only [List.map_toArray, List.map_cons, List.map_nil]); first | done | rfl | (simp only [List.length_drop, List.length_take]; rfl)) ?_; (with_reducible refine (endonymlaw20_told.calls k  true _ A11.out).mono ?_); rintro e w66 ⟨rfl, hb⟩; refine ⟨_, rfl, ?_⟩; have n0_ := Aside0.mk (below_step (by repeat (first | (with_reducible first | exact HB.out | apply below_alloc | apply pw_below_drewN | apply below_drew1) | exact HB.out)) hb); clear HB; have HB := n0_; clear n0_; (try clear hb); (try clear hb2); (try clear hk); (try clear hi)) | (go_at_call 12; (with_reducible refine (name_Compare.calls k a1 a0 t315 _ A13.out).mono ?_); rintro e w67 ⟨rfl, hb⟩; have n0_ := Aside0.mk (below_step (by repeat (first | (with_reducible first | exact HB.out | apply below_alloc | apply pw_below_drewN | apply below_drew1) | exact HB.out)) hb); clear HB; have HB := n0_; clear n0_; (try clear hb); (try clear hb2); (try clear hk); (try clear hi)) | (go_at_call 12; (with_reducible refine (name_Compare.calls k a0 a0 t316 _ A15.out).mono ?_); rintro e w68 ⟨rfl, hb⟩; have n0_ := Aside0.mk (below_step (by repeat (first | (with_reducible first | exact HB.out | apply below_alloc | apply pw_below_drewN | apply below_drew1) | exact HB.out)) hb); clear HB; have HB := n0_; clear n0_; (try clear hb); (try clear hb2); (try clear hk); (try clear hi)))
                go_meet
                case rel => exact ⟨_, (false), (by first | rfl | (simp; done) | (simp [*]; done)), H', ⟨by first | omega | exact Nat.le_refl _⟩, ⟨by repeat (first | (with_reducible first | exact HB.out | apply below_alloc | apply pw_below_drewN | apply below_drew1) | exact HB.out)⟩⟩
            · rw [if_neg c57] at H
              have c57b0 : decide (t311 < 0) = false := decide_eq_false c57
              clear c57
              have H' := Aside0.mk H
              clear H
              go_wp2_with (first | ((with_reducible refine gate_callee (f := 11) rfl ?_); refine goesL_ (some 19) rfl rfl Tryd.func11 (by kernel_rfl) rfl #[] rfl (by (try simp only [List.map_toArray, List.map_cons, List.map_nil]); first | done | rfl | (simp only [List.length_drop, List.length_take]; rfl)) ?_; (with_reducible refine (endonymlaw20_told.calls k  true _ A11.out).mono ?_); rintro e w69 ⟨rfl, hb⟩; refine ⟨_, rfl, ?_⟩; have n0_ := Aside0.mk (below_step (by repeat (first | (with_reducible first | exact HB.out | apply below_alloc | apply pw_below_drewN | apply below_drew1) | exact HB.out)) hb); clear HB; have HB := n0_; clear n0_; (try clear hb); (try clear hb2); (try clear hk); (try clear hi)) | (go_at_call 12; (with_reducible refine (name_Compare.calls k a1 a0 t315 _ A13.out).mono ?_); rintro e w70 ⟨rfl, hb⟩; have n0_ := Aside0.mk (below_step (by repeat (first | (with_reducible first | exact HB.out | apply below_alloc | apply pw_below_drewN | apply below_drew1) | exact HB.out)) hb); clear HB; have HB := n0_; clear n0_; (try clear hb); (try clear hb2); (try clear hk); (try clear hi)) | (go_at_call 12; (with_reducible refine (name_Compare.calls k a0 a0 t316 _ A15.out).mono ?_); rintro e w71 ⟨rfl, hb⟩; have n0_ := Aside0.mk (below_step (by repeat (first | (with_reducible first | exact HB.out | apply below_alloc | apply pw_below_drewN | apply below_drew1) | exact HB.out)) hb); clear HB; have HB := n0_; clear n0_; (try clear hb); (try clear hb2); (try clear hk); (try clear hi)))
              go_meet
              case rel => exact ⟨_, (false), (by first | rfl | (simp; done) | (simp [*]; done)), H', ⟨by first | omega | exact Nat.le_refl _⟩, ⟨by repeat (first | (with_reducible first | exact HB.out | apply below_alloc | apply pw_below_drewN | apply below_drew1) | exact HB.out)⟩⟩
        · rw [if_neg c16] at H
          have c16b0 : (t316 == 0) = false := beq_eq_false_iff_ne.mpr c16
          have c16b1 : (t316 != 0) = true := bne_iff_ne.mpr c16
          have H' := Aside0.mk H
          clear H
          go_wp2_with (first | ((with_reducible refine gate_callee (f := 11) rfl ?_); refine goesL_ (some 19) rfl rfl Tryd.func11 (by kernel_rfl) rfl #[] rfl (by (try simp only [List.map_toArray, List.map_cons, List.map_nil]); first | done | rfl | (simp only [List.length_drop, List.length_take]; rfl)) ?_; (with_reducible refine (endonymlaw20_told.calls k  true _ A11.out).mono ?_); rintro e w72 ⟨rfl, hb⟩; refine ⟨_, rfl, ?_⟩; have n0_ := Aside0.mk (below_step (by repeat (first | (with_reducible first | exact HB.out | apply below_alloc | apply pw_below_drewN | apply below_drew1) | exact HB.out)) hb); clear HB; have HB := n0_; clear n0_; (try clear hb); (try clear hb2); (try clear hk); (try clear hi)) | (go_at_call 12; (with_reducible refine (name_Compare.calls k a1 a0 t315 _ A13.out).mono ?_); rintro e w73 ⟨rfl, hb⟩; have n0_ := Aside0.mk (below_step (by repeat (first | (with_reducible first | exact HB.out | apply below_alloc | apply pw_below_drewN | apply below_drew1) | exact HB.out)) hb); clear HB; have HB := n0_; clear n0_; (try clear hb); (try clear hb2); (try clear hk); (try clear hi)) | (go_at_call 12; (with_reducible refine (name_Compare.calls k a0 a0 t316 _ A15.out).mono ?_); rintro e w74 ⟨rfl, hb⟩; have n0_ := Aside0.mk (below_step (by repeat (first | (with_reducible first | exact HB.out | apply below_alloc | apply pw_below_drewN | apply below_drew1) | exact HB.out)) hb); clear HB; have HB := n0_; clear n0_; (try clear hb); (try clear hb2); (try clear hk); (try clear hi)))
          go_meet
          case rel => exact ⟨_, (true), (by first | rfl | (simp; done) | (simp [*]; done)), H', ⟨by first | omega | exact Nat.le_refl _⟩, ⟨by repeat (first | (with_reducible first | exact HB.out | apply below_alloc | apply pw_below_drewN | apply below_drew1) | exact HB.out)⟩⟩
      · rw [if_neg c14] at H
        have c14b0 : (t315 == (wrap64 (-t311))) = false := beq_eq_false_iff_ne.mpr c14
        have c14b1 : (t315 != (wrap64 (-t311))) = true := bne_iff_ne.mpr c14
        (first | rw [c14b0] | (simp only [i64_w, i32_w]; rw [c14b0]) | skip)
        have H' := Aside0.mk H
        clear H
        go_wp2_with (first | ((with_reducible refine gate_callee (f := 11) rfl ?_); refine goesL_ (some 19) rfl rfl Tryd.func11 (by kernel_rfl) rfl #[] rfl (by (try simp only [List.map_toArray, List.map_cons, List.map_nil]); first | done | rfl | (simp only [List.length_drop, List.length_take]; rfl)) ?_; (with_reducible refine (endonymlaw20_told.calls k  true _ A11.out).mono ?_); rintro e w75 ⟨rfl, hb⟩; refine ⟨_, rfl, ?_⟩; have n0_ := Aside0.mk (below_step (by repeat (first | (with_reducible first | exact HB.out | apply below_alloc | apply pw_below_drewN | apply below_drew1) | exact HB.out)) hb); clear HB; have HB := n0_; clear n0_; (try clear hb); (try clear hb2); (try clear hk); (try clear hi)) | (go_at_call 12; (with_reducible refine (name_Compare.calls k a1 a0 t315 _ A13.out).mono ?_); rintro e w76 ⟨rfl, hb⟩; have n0_ := Aside0.mk (below_step (by repeat (first | (with_reducible first | exact HB.out | apply below_alloc | apply pw_below_drewN | apply below_drew1) | exact HB.out)) hb); clear HB; have HB := n0_; clear n0_; (try clear hb); (try clear hb2); (try clear hk); (try clear hi)))
        go_meet
        case rel => exact ⟨_, (true), (by first | rfl | (simp; done) | (simp [*]; done)), H', ⟨by first | omega | exact Nat.le_refl _⟩, ⟨by repeat (first | (with_reducible first | exact HB.out | apply below_alloc | apply pw_below_drewN | apply below_drew1) | exact HB.out)⟩⟩
    · replace c12 := Bool.eq_false_iff.mpr c12
      subst c12
      have H1 : (endonymlaw20_NameOrder.j0 k a0 a1 a2 t311 true) = some r := by rw [if_neg (show ¬ (false = true) by decide)] at H; exact H
      clear H
      have H := H1
      clear H1
      have H' := Aside0.mk H
      clear H
      go_wp2_with (first | ((with_reducible refine gate_callee (f := 11) rfl ?_); refine goesL_ (some 19) rfl rfl Tryd.func11 (by kernel_rfl) rfl #[] rfl (by (try simp only [List.map_toArray, List.map_cons, List.map_nil]); first | done | rfl | (simp only [List.length_drop, List.length_take]; rfl)) ?_; (with_reducible refine (endonymlaw20_told.calls k  false _ A11.out).mono ?_); rintro e w77 ⟨rfl, hb⟩; refine ⟨_, rfl, ?_⟩; have n0_ := Aside0.mk (below_step (by repeat (first | (with_reducible first | exact HB.out | apply below_alloc | apply pw_below_drewN | apply below_drew1) | exact HB.out)) hb); clear HB; have HB := n0_; clear n0_; (try clear hb); (try clear hb2); (try clear hk); (try clear hi)))
      go_meet
      case rel => exact ⟨_, (true), (by first | rfl | (simp; done) | (simp [*]; done)), H', ⟨by first | omega | exact Nat.le_refl _⟩, ⟨by repeat (first | (with_reducible first | exact HB.out | apply below_alloc | apply pw_below_drewN | apply below_drew1) | exact HB.out)⟩⟩
  case rest =>
    clear HC7
    try clear c1
    try clear c2
    try clear p2
    try clear c3
    try clear c4
    try clear c5
    try clear c6
    try clear p6
    try clear c11
    try clear c12
    try clear c14
    try clear c14b0
    try clear c14b1
    try clear c16
    try clear c16b0
    try clear c16b1
    try clear c17
    try clear c17b0
    try clear c18
    try clear c18b0
    try clear c19
    try clear c19b0
    try clear c23
    try clear c23b0
    try clear c24
    try clear c24b0
    try clear c28
    try clear c28b0
    try clear c35
    try clear c35b0
    try clear c42
    try clear c42b0
    try clear c43
    try clear c43b0
    try clear c50
    try clear c50b0
    try clear c57
    try clear c57b0
    try clear c58
    try clear c58b0
    try clear c59
    try clear c59b0
    try clear p64
    obtain ⟨kq, x70_6, rfl, HA, HJ6, HB⟩ := hcut
    cases kq with
    | zero => exact absurd HA.out (by simp [endonymlaw20_NameOrder.j0])
    | succ kj6 =>
      have H := HA.out
      clear HA
      simp only [endonymlaw20_NameOrder.j0] at H
      by_cases c78 : x70_6 = true
      · subst c78
        have H1 : (some false) = some r := by rw [if_pos rfl] at H; exact H
        clear H
        have H := H1
        clear H1
        obtain rfl := Option.some.inj H
        go_wp2
        go_ret
        exact ⟨by first | rfl | (simp [errW_none, errW_some] <;> rfl) | (simp [*, errW_none, errW_some] <;> rfl), by repeat (first | (with_reducible first | exact HB.out | apply below_alloc | apply pw_below_drewN | apply below_drew1) | exact HB.out)⟩
      · replace c78 := Bool.eq_false_iff.mpr c78
        subst c78
        have H1 : (if t311 = 0 then ((name_Compare.f kj6 a2 a0).bind fun t317 => ((name_Compare.f kj6 a2 a1).bind fun t318 => (if t317 = t318 then ((name_Below.f kj6 a0 a1).bind fun t319 => (if t319 = true then ((name_Below.f kj6 a1 a0).bind fun t320 => (some t320)) else (some false))) else (some false)))) else (some true)) = some r := by rw [if_neg (show ¬ (false = true) by decide)] at H; exact H
        clear H
        have H := H1
        clear H1
        by_cases c79 : t311 = 0
        · rw [if_pos c79] at H
          have c79b0 : (t311 == 0) = true := beq_iff_eq.mpr c79
          have c79b1 : (t311 != 0) = false := bne_eq_false_iff_eq.mpr c79
          clear c79
          replace H := Option.bind_eq_some_iff.mp H
          obtain ⟨t317, A800, H⟩ := H
          replace H : ((name_Compare.f kj6 a2 a1).bind fun t318 => (if t317 = t318 then ((name_Below.f kj6 a0 a1).bind fun t319 => (if t319 = true then ((name_Below.f kj6 a1 a0).bind fun t320 => (some t320)) else (some false))) else (some false))) = some r := H
          have A80 := Aside0.mk A800
          clear A800
          replace H := Option.bind_eq_some_iff.mp H
          obtain ⟨t318, A810, H⟩ := H
          replace H : (if t317 = t318 then ((name_Below.f kj6 a0 a1).bind fun t319 => (if t319 = true then ((name_Below.f kj6 a1 a0).bind fun t320 => (some t320)) else (some false))) else (some false)) = some r := H
          have A81 := Aside0.mk A810
          clear A810
          by_cases c82 : t317 = t318
          · rw [if_pos c82] at H
            have c82b0 : (t317 == t318) = true := beq_iff_eq.mpr c82
            have c82b1 : (t317 != t318) = false := bne_eq_false_iff_eq.mpr c82
            clear c82
            replace H := Option.bind_eq_some_iff.mp H
            obtain ⟨t319, A830, H⟩ := H
            replace H : (if t319 = true then ((name_Below.f kj6 a1 a0).bind fun t320 => (some t320)) else (some false)) = some r := H
            have A83 := Aside0.mk A830
            clear A830
            by_cases c84 : t319 = true
            · subst c84
              have H1 : ((name_Below.f kj6 a1 a0).bind fun t320 => (some t320)) = some r := by rw [if_pos rfl] at H; exact H
              clear H
              have H := H1
              clear H1
              replace H := Option.bind_eq_some_iff.mp H
              obtain ⟨t320, A850, H⟩ := H
              replace H : (some t320) = some r := H
              have A85 := Aside0.mk A850
              clear A850
              obtain rfl := Option.some.inj H
              go_wp2_with (first | (go_at_call 12; (with_reducible refine (name_Compare.calls kj6 a2 a0 t317 _ A80.out).mono ?_); rintro e w86 ⟨rfl, hb⟩; have n0_ := Aside0.mk (below_step (by repeat (first | (with_reducible first | exact HB.out | apply below_alloc | apply pw_below_drewN | apply below_drew1) | exact HB.out)) hb); clear HB; have HB := n0_; clear n0_; (try clear hb); (try clear hb2); (try clear hk); (try clear hi)) | (go_at_call 12; (with_reducible refine (name_Compare.calls kj6 a2 a1 t318 _ A81.out).mono ?_); rintro e w87 ⟨rfl, hb⟩; have n0_ := Aside0.mk (below_step (by repeat (first | (with_reducible first | exact HB.out | apply below_alloc | apply pw_below_drewN | apply below_drew1) | exact HB.out)) hb); clear HB; have HB := n0_; clear n0_; (try clear hb); (try clear hb2); (try clear hk); (try clear hi)) | (go_at_call 14; (with_reducible refine (name_Below.calls kj6 a0 a1 true _ A83.out).mono ?_); rintro e w88 ⟨rfl, hb⟩; have n0_ := Aside0.mk (below_step (by repeat (first | (with_reducible first | exact HB.out | apply below_alloc | apply pw_below_drewN | apply below_drew1) | exact HB.out)) hb); clear HB; have HB := n0_; clear n0_; (try clear hb); (try clear hb2); (try clear hk); (try clear hi)) | (go_at_call 14; (with_reducible refine (name_Below.calls kj6 a1 a0 t320 _ A85.out).mono ?_); rintro e w89 ⟨rfl, hb⟩; have n0_ := Aside0.mk (below_step (by repeat (first | (with_reducible first | exact HB.out | apply below_alloc | apply pw_below_drewN | apply below_drew1) | exact HB.out)) hb); clear HB; have HB := n0_; clear n0_; (try clear hb); (try clear hb2); (try clear hk); (try clear hi)))
              go_ret
              exact ⟨by first | rfl | (simp [errW_none, errW_some] <;> rfl) | (simp [*, errW_none, errW_some] <;> rfl), by repeat (first | (with_reducible first | exact HB.out | apply below_alloc | apply pw_below_drewN | apply below_drew1) | exact HB.out)⟩
            · replace c84 := Bool.eq_false_iff.mpr c84
              subst c84
              have H1 : (some false) = some r := by rw [if_neg (show ¬ (false = true) by decide)] at H; exact H
              clear H
              have H := H1
              clear H1
              obtain rfl := Option.some.inj H
              go_wp2_with (first | (go_at_call 12; (with_reducible refine (name_Compare.calls kj6 a2 a0 t317 _ A80.out).mono ?_); rintro e w90 ⟨rfl, hb⟩; have n0_ := Aside0.mk (below_step (by repeat (first | (with_reducible first | exact HB.out | apply below_alloc | apply pw_below_drewN | apply below_drew1) | exact HB.out)) hb); clear HB; have HB := n0_; clear n0_; (try clear hb); (try clear hb2); (try clear hk); (try clear hi)) | (go_at_call 12; (with_reducible refine (name_Compare.calls kj6 a2 a1 t318 _ A81.out).mono ?_); rintro e w91 ⟨rfl, hb⟩; have n0_ := Aside0.mk (below_step (by repeat (first | (with_reducible first | exact HB.out | apply below_alloc | apply pw_below_drewN | apply below_drew1) | exact HB.out)) hb); clear HB; have HB := n0_; clear n0_; (try clear hb); (try clear hb2); (try clear hk); (try clear hi)) | (go_at_call 14; (with_reducible refine (name_Below.calls kj6 a0 a1 false _ A83.out).mono ?_); rintro e w92 ⟨rfl, hb⟩; have n0_ := Aside0.mk (below_step (by repeat (first | (with_reducible first | exact HB.out | apply below_alloc | apply pw_below_drewN | apply below_drew1) | exact HB.out)) hb); clear HB; have HB := n0_; clear n0_; (try clear hb); (try clear hb2); (try clear hk); (try clear hi)))
              go_ret
              exact ⟨by first | rfl | (simp [errW_none, errW_some] <;> rfl) | (simp [*, errW_none, errW_some] <;> rfl), by repeat (first | (with_reducible first | exact HB.out | apply below_alloc | apply pw_below_drewN | apply below_drew1) | exact HB.out)⟩
          · rw [if_neg c82] at H
            have c82b0 : (t317 == t318) = false := beq_eq_false_iff_ne.mpr c82
            have c82b1 : (t317 != t318) = true := bne_iff_ne.mpr c82
            obtain rfl := Option.some.inj H
            go_wp2_with (first | (go_at_call 12; (with_reducible refine (name_Compare.calls kj6 a2 a0 t317 _ A80.out).mono ?_); rintro e w93 ⟨rfl, hb⟩; have n0_ := Aside0.mk (below_step (by repeat (first | (with_reducible first | exact HB.out | apply below_alloc | apply pw_below_drewN | apply below_drew1) | exact HB.out)) hb); clear HB; have HB := n0_; clear n0_; (try clear hb); (try clear hb2); (try clear hk); (try clear hi)) | (go_at_call 12; (with_reducible refine (name_Compare.calls kj6 a2 a1 t318 _ A81.out).mono ?_); rintro e w94 ⟨rfl, hb⟩; have n0_ := Aside0.mk (below_step (by repeat (first | (with_reducible first | exact HB.out | apply below_alloc | apply pw_below_drewN | apply below_drew1) | exact HB.out)) hb); clear HB; have HB := n0_; clear n0_; (try clear hb); (try clear hb2); (try clear hk); (try clear hi)))
            go_ret
            exact ⟨by first | rfl | (simp [errW_none, errW_some] <;> rfl) | (simp [*, errW_none, errW_some] <;> rfl), by repeat (first | (with_reducible first | exact HB.out | apply below_alloc | apply pw_below_drewN | apply below_drew1) | exact HB.out)⟩
        · rw [if_neg c79] at H
          have c79b0 : (t311 == 0) = false := beq_eq_false_iff_ne.mpr c79
          have c79b1 : (t311 != 0) = true := bne_iff_ne.mpr c79
          obtain rfl := Option.some.inj H
          go_wp2
          go_ret
          exact ⟨by first | rfl | (simp [errW_none, errW_some] <;> rfl) | (simp [*, errW_none, errW_some] <;> rfl), by repeat (first | (with_reducible first | exact HB.out | apply below_alloc | apply pw_below_drewN | apply below_drew1) | exact HB.out)⟩

end Go.Proofs.YtfbadcjojkgibaaDoor.N
