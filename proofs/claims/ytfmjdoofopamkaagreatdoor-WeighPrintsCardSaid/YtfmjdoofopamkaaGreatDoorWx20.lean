import Derived.Test.YtfmjdoofopamkaaGreatDoorWx0
import Derived.Test.YtfmjdoofopamkaaGreatDoorWx3
import Derived.Test.YtfmjdoofopamkaaGreatDoorWx4
import Derived.Test.YtfmjdoofopamkaaGreatDoorWx5
import Derived.Test.YtfmjdoofopamkaaGreatDoorWx17
namespace Go.Proofs.YtfmjdoofopamkaaGreatDoor.W
open Go.RowKit Go.Proofs.YtfmjdoofopamkaaGreatDoorW.PrintWords Go.Proofs.YtfmjdoofopamkaaGreatDoorW.PrintLast Go.Proofs.YtfmjdoofopamkaaGreatDoorW.PrintMore
set_option maxHeartbeats 8000000
set_option maxRecDepth 100000
attribute [local go_sem] max2_int min2_int max_two min_two max_three min_three max_four min_four
set_option linter.unusedVariables false
set_option linter.unusedSimpArgs false
mutual
def w2_add.l0 : Nat → List Int → Int → Int → Int → Int → Option (List Int)
 | 0, _, _, _, _, _ => none
 | k + 1, x0, x6, x9, x10, x11 => if x11 < (x0.length : Int) then (if x10 > 0 then (w2_add.j1 k x0 x6 x9 x10 x11 true) else (w2_add.j1 k x0 x6 x9 x10 x11 (decide (x9 > 0)))) else (w2_add.j1 k x0 x6 x9 x10 x11 false)
def w2_add.j1 : Nat → List Int → Int → Int → Int → Int → Bool → Option (List Int)
 | 0, _, _, _, _, _, _ => none
 | k + 1, x0, x6, x9, x10, x11, x38 => if x38 = true then (if x11 > x6 then (if 0 ≤ x11 then (if x11 < (x0.length : Int) then (w2_add.l0 k (x0.set (x11 : Int).toNat ((IntKind.u64.wrap ((IntKind.u64.wrap (x10 + (Go.bits .and .u64 x9 4294967295))) + (IntKind.u64.wrap (rd x0 x11)))) % 4294967296)) x6 (x9 / 4294967296) ((IntKind.u64.wrap ((IntKind.u64.wrap (x10 + (Go.bits .and .u64 x9 4294967295))) + (IntKind.u64.wrap (rd x0 x11)))) / 4294967296) (wrap64 (x11 + 1))) else (none)) else (none)) else (if 0 ≤ x11 then (if x11 < (x0.length : Int) then (w2_add.l0 k (x0.set (x11 : Int).toNat ((IntKind.u64.wrap (x10 + (IntKind.u64.wrap (rd x0 x11)))) % 4294967296)) x6 x9 ((IntKind.u64.wrap (x10 + (IntKind.u64.wrap (rd x0 x11)))) / 4294967296) (wrap64 (x11 + 1))) else (none)) else (none))) else (some x0)
end
def w2_add.f (k : Nat) (l0 : List Int) (a1 : Int) (a2 : Int) : Option (List Int) := if 0 ≤ (Int.tmod a2 32) then (if 0 ≤ (wrap64 (32 - (Int.tmod a2 32))) then (w2_add.l0 k l0 (wrap64 (Int.tdiv a2 32)) (shr .u64 a1 (wrap64 (32 - (Int.tmod a2 32)))) (IntKind.u64.wrap (shl .u32 ((a1) % 4294967296) (Int.tmod a2 32))) (wrap64 (Int.tdiv a2 32))) else (none)) else (none)
theorem w2_add.mono_l : ∀ k, (∀ y0 y1 y2 y3 y4, LeO (w2_add.l0 k y0 y1 y2 y3 y4) (w2_add.l0 (k + 1) y0 y1 y2 y3 y4)) ∧ (∀ y0 y1 y2 y3 y4 y5, LeO (w2_add.j1 k y0 y1 y2 y3 y4 y5) (w2_add.j1 (k + 1) y0 y1 y2 y3 y4 y5))
 | 0 => ⟨fun _ _ _ _ _ r h => by simp [w2_add.l0] at h, fun _ _ _ _ _ _ r h => by simp [w2_add.j1] at h⟩
 | k + 1 => by
  obtain ⟨ih0, ih1⟩ := w2_add.mono_l k
  refine ⟨?_, ?_⟩
  ·intro y0 y1 y2 y3 y4
   unfold w2_add.l0
   repeat' first | (with_reducible first | apply ih0 | apply ih1 | apply LeO.refl | apply LeO.none | refine LeO.ite ?_ ?_ | refine LeO.bind ?_ (fun _ => ?_)) | apply LeO.none | refine LeO.ite ?_ ?_ | refine LeO.bind ?_ (fun _ => ?_)
  intro y0 y1 y2 y3 y4 y5
  unfold w2_add.j1
  repeat' first | (with_reducible first | apply ih0 | apply ih1 | apply LeO.refl | apply LeO.none | refine LeO.ite ?_ ?_ | refine LeO.bind ?_ (fun _ => ?_)) | apply LeO.none | refine LeO.ite ?_ ?_ | refine LeO.bind ?_ (fun _ => ?_)
theorem w2_add.mono : ∀ a0 a1 a2 k, LeO (w2_add.f k a0 a1 a2) (w2_add.f (k + 1) a0 a1 a2) := by
 intro a0 a1 a2 k
 obtain ⟨ih0, ih1⟩ := w2_add.mono_l k
 unfold w2_add.f
 repeat' first | (with_reducible first | apply ih0 | apply ih1 | apply LeO.refl | apply LeO.none | refine LeO.ite ?_ ?_ | refine LeO.bind ?_ (fun _ => ?_)) | apply LeO.none | refine LeO.ite ?_ ?_ | refine LeO.bind ?_ (fun _ => ?_)
theorem w2_add.calls (k : Nat) (P0_ : Nat → Prop) (u9000_ : Value) (l0 : List Int) (a1 : Int) (a2 : Int) (r : List Int) (w0 w : World) (hB : Below w0.heap.size w0 w) (ho0 : Kd.R (Kd.int .u32) 83 w w0.heap.size P0_ u9000_ l0) (h : w2_add.f k l0 a1 a2 = some r) :
  Calls Tryz.prog 102 #[u9000_, .int .u64 a1, .int .i64 a2] w fun e w' => e = .returned (.tuple #[]) ∧ Kd.R (Kd.int .u32) 83 w' w0.heap.size (fun k_ => (P0_ k_ ∨ w.heap.size ≤ k_)) u9000_ r ∧ Below w0.heap.size w0 w' ∧ Kept w w' (fun k_ => P0_ k_) := by
 have HO0 := Sd.mk (show Kd.R (Kd.int .u32) 83 w w0.heap.size (fun k_ => (P0_ k_ ∨ w.heap.size ≤ k_)) u9000_ l0 from Kd.R_mono ho0 (fun k_ hk => (.inl hk)))
 have HK := Sd.mk (Kept.refl w (fun k_ => P0_ k_))
 have HW0 := Sd.mk hB.size
 have HB := Sd.mk hB
 clear hB
 have H : (if 0 ≤ (Int.tmod a2 32) then (if 0 ≤ (wrap64 (32 - (Int.tmod a2 32))) then (w2_add.l0 k l0 (wrap64 (Int.tdiv a2 32)) (shr .u64 a1 (wrap64 (32 - (Int.tmod a2 32)))) (IntKind.u64.wrap (shl .u32 ((a1) % 4294967296) (Int.tmod a2 32))) (wrap64 (Int.tdiv a2 32))) else (none)) else (none)) = some r := h
 clear h
 obtain ⟨ji4, hji4⟩ : ∃ j_ : Int, (Int.tmod a2 32) = j_ := ⟨_, rfl⟩
 replace H : (if 0 ≤ (ji4) then (if 0 ≤ (wrap64 (32 - (ji4))) then (w2_add.l0 k l0 (wrap64 (Int.tdiv a2 32)) (shr .u64 a1 (wrap64 (32 - (ji4)))) (IntKind.u64.wrap (shl .u32 ((a1) % 4294967296) (ji4))) (wrap64 (Int.tdiv a2 32))) else (none)) else (none)) = some r := by first | (rw [hji4] at H; exact H) | (simp only [hji4] at H ⊢; exact H)
 by_cases c5 : 0 ≤ (ji4)
 case neg => rw [if_neg c5] at H; exact absurd H (by simp)
 rw [if_pos c5] at H
 have c5b0 := eq_true c5
 have c5b1 := decide_eq_true c5
 clear c5
 obtain ⟨ji6, hji6⟩ : ∃ j_ : Int, (shl .u32 ((a1) % 4294967296) (ji4)) = j_ := ⟨_, rfl⟩
 replace H : (if 0 ≤ (wrap64 (32 - (ji4))) then (w2_add.l0 k l0 (wrap64 (Int.tdiv a2 32)) (shr .u64 a1 (wrap64 (32 - (ji4)))) (IntKind.u64.wrap (ji6)) (wrap64 (Int.tdiv a2 32))) else (none)) = some r := by first | (rw [hji6] at H; exact H) | (simp only [hji6] at H ⊢; exact H)
 have hji6_ : (IntKind.u32.wrap (((a1) % 4294967296) * 2 ^ min (ji4).toNat 32)) = ji6 := hji6
 have hji6z : (ji4) ≤ 32 → (IntKind.u32.wrap (((a1) % 4294967296) * 2 ^ (ji4).toNat)) = ji6 := shl_small hji6
 obtain ⟨ji7, hji7⟩ : ∃ j_ : Int, (wrap64 (32 - (ji4))) = j_ := ⟨_, rfl⟩
 replace H : (if 0 ≤ (ji7) then (w2_add.l0 k l0 (wrap64 (Int.tdiv a2 32)) (shr .u64 a1 (ji7)) (IntKind.u64.wrap (ji6)) (wrap64 (Int.tdiv a2 32))) else (none)) = some r := by first | (rw [hji7] at H; exact H) | (simp only [hji7] at H ⊢; exact H)
 have hji7w : (IntKind.i64.wrap (32 - (ji4))) = ji7 := (i64_w _).trans hji7
 by_cases c8 : 0 ≤ (ji7)
 case neg => rw [if_neg c8] at H; exact absurd H (by simp)
 rw [if_pos c8] at H
 have c8b0 := eq_true c8
 have c8b1 := decide_eq_true c8
 clear c8
 obtain ⟨ji9, hji9⟩ : ∃ j_ : Int, (shr .u64 a1 (ji7)) = j_ := ⟨_, rfl⟩
 replace H : (w2_add.l0 k l0 (wrap64 (Int.tdiv a2 32)) ji9 (IntKind.u64.wrap (ji6)) (wrap64 (Int.tdiv a2 32))) = some r := by first | (rw [hji9] at H; exact H) | (simp only [hji9] at H ⊢; exact H)
 have hji9_ : (a1 / 2 ^ min (ji7).toNat 64) = ji9 := hji9
 have hji9z : (ji7) ≤ 64 → (a1 / 2 ^ (ji7).toNat) = ji9 := shr_small hji9
 have H' := Sd.mk H
 clear H
 go_enter Tryz.func102, Tryz.ntmps102
 go_wp2
 go_loopg [9, 10, 11] k (fun kq v9 v10 v11 w' => ∃ (x0_1 : List Int) (x9_1 : Int) (x10_1 : Int) (x11_1 : Int), v9 = .int .u64 x9_1 ∧ v10 = .int .u64 x10_1 ∧ v11 = .int .i64 x11_1 ∧ Sd (w2_add.l0 kq x0_1 (wrap64 (Int.tdiv a2 32)) x9_1 x10_1 x11_1 = some r) ∧ Sd (kq ≤ k) ∧ Sd (Kd.R (Kd.int .u32) 83 w' w0.heap.size (fun k_ => (P0_ k_ ∨ w.heap.size ≤ k_)) u9000_ x0_1) ∧ Sd (Kept w w' (fun k_ => P0_ k_)) ∧ Sd (Below w0.heap.size w0 w'))
 case atStart => exact ⟨(l0), (ji9), (IntKind.u64.wrap (ji6)), (wrap64 (Int.tdiv a2 32)), (by first | rfl | (simp; done) | (simp only [← hji9] <;> (first | rfl | simp)) | (simp [*]; done)), (by first | rfl | (simp; done) | (simp only [← hji6] <;> (first | rfl | simp)) | (simp [*]; done)), sqE, H', ⟨Nat.le_refl _⟩, ⟨sqR HO0.out⟩, ⟨by repeat (first | (with_reducible first | exact HK.out | apply Kept.alloc | apply Kept.drewN | apply Kept.drew) | exact HK.out)⟩, ⟨sqB⟩⟩
 case round =>
  clear H'
  try clear c1
  try clear p2
  try clear c5
  try clear c5b0
  try clear c5b1
  try clear p6
  try clear c8
  try clear c8b0
  try clear c8b1
  obtain ⟨x0_1, x9_1, x10_1, x11_1, rfl, rfl, rfl, HA, HK1, HO_0, HK, HB⟩ := hrel
  cases gk with
  | zero => exact absurd HA.out (by simp [w2_add.l0])
  | succ k1 =>
   have H := HA.out
   clear HA
   simp only [w2_add.l0] at H
   have HC10 := Sd.mk H
   clear H
   go_upto_region 5 with (fail)
   go_cut [38] (fun v38 wc => ∃ (kq : Nat) (x38_9 : Bool), v38 = .bool x38_9 ∧ Sd (w2_add.j1 kq x0_1 (wrap64 (Int.tdiv a2 32)) x9_1 x10_1 x11_1 x38_9 = some r) ∧ Sd (kq ≤ k1) ∧ Sd (Kd.R (Kd.int .u32) 83 wc w0.heap.size (fun k_ => (P0_ k_ ∨ w.heap.size ≤ k_)) u9000_ x0_1) ∧ Sd (Kept w wc (fun k_ => P0_ k_)) ∧ Sd (Below w0.heap.size w0 wc))
   case first =>
    have H := HC10.out
    clear HC10
    by_cases c11 : x11_1 < (x0_1.length : Int)
    case neg =>
     rw [if_neg c11] at H
     have c11b0 := decide_eq_false c11
     clear c11
     (first | rw [c11b0] | (simp only [i64_w, i32_w]; rw [c11b0]) | skip)
     have H' := Sd.mk H
     clear H
     obtain ⟨Ao15, co15, eo15⟩ := Kd.R_slice HO_0.out
     subst eo15
     go_wp2
     go_meet
     case rel => exact ⟨_, (false), sqE, H', ⟨by have := HK1.out; first | omega | exact Nat.le_refl _⟩, ⟨sqR HO_0.out⟩, ⟨by repeat (first | (with_reducible first | exact HK.out | apply Kept.alloc | apply Kept.drewN | apply Kept.drew) | exact HK.out)⟩, ⟨sqB⟩⟩
    rw [if_pos c11] at H
    have c11b0 := decide_eq_true c11
    clear c11
    (first | rw [c11b0] | (simp only [i64_w, i32_w]; rw [c11b0]) | skip)
    by_cases c12 : x10_1 > 0
    ·rw [if_pos c12] at H
     have c12b0 := decide_eq_true c12
     clear c12
     have H' := Sd.mk H
     clear H
     obtain ⟨Ao13, co13, eo13⟩ := Kd.R_slice HO_0.out
     subst eo13
     go_wp2
     go_meet
     case rel => exact ⟨_, (true), sqE, H', ⟨by have := HK1.out; first | omega | exact Nat.le_refl _⟩, ⟨sqR HO_0.out⟩, ⟨by repeat (first | (with_reducible first | exact HK.out | apply Kept.alloc | apply Kept.drewN | apply Kept.drew) | exact HK.out)⟩, ⟨sqB⟩⟩
    rw [if_neg c12] at H
    have c12b0 := decide_eq_false c12
    clear c12
    have H' := Sd.mk H
    clear H
    obtain ⟨Ao14, co14, eo14⟩ := Kd.R_slice HO_0.out
    subst eo14
    go_wp2
    go_meet
    case rel => exact ⟨_, (decide (x9_1 > 0)), sqE, H', ⟨by have := HK1.out; first | omega | exact Nat.le_refl _⟩, ⟨sqR HO_0.out⟩, ⟨by repeat (first | (with_reducible first | exact HK.out | apply Kept.alloc | apply Kept.drewN | apply Kept.drew) | exact HK.out)⟩, ⟨sqB⟩⟩
   case rest =>
    clear HC10
    try clear c1
    try clear p2
    try clear c5
    try clear c5b0
    try clear c5b1
    try clear p6
    try clear c8
    try clear c8b0
    try clear c8b1
    try clear c10
    try clear c11
    try clear c11b0
    try clear c12
    try clear c12b0
    try clear p2
    try clear p6
    obtain ⟨kq, x38_9, rfl, HA, HJ9, HO_0, HK, HB⟩ := hcut
    cases kq with
    | zero => exact absurd HA.out (by simp [w2_add.j1])
    | succ kj9 =>
     have H := HA.out
     clear HA
     simp only [w2_add.j1] at H
     by_cases c16 : x38_9 = true
     case neg =>
      replace c16 := Bool.eq_false_iff.mpr c16
      subst c16
      have H1 : (some x0_1) = some r := by rw [if_neg (show ¬ (false = true) by decide)] at H; exact H
      clear H
      have H := H1
      clear H1
      obtain rfl := Option.some.inj H
      go_wp2
      first | go_end0 | ((try simp only [Exit.inBlock, Exit.then]); refine bodyPost_ret (results_none rfl _ _ _) rfl ?_)
      exact ⟨by first | rfl | (simp [errW_none, errW_some] <;> rfl) | (simp only [← hji4, ← hji6, ← hji7, ← hji9]; first | rfl | (simp [errW_none, errW_some] <;> rfl)) | (simp [*, errW_none, errW_some] <;> rfl), sqR HO_0.out, sqB, by repeat (first | (with_reducible first | exact HK.out | apply Kept.alloc | apply Kept.drewN | apply Kept.drew) | exact HK.out)⟩
     subst c16
     have H1 : (if x11_1 > (wrap64 (Int.tdiv a2 32)) then (if 0 ≤ x11_1 then (if x11_1 < (x0_1.length : Int) then (w2_add.l0 kj9 (x0_1.set (x11_1 : Int).toNat ((IntKind.u64.wrap ((IntKind.u64.wrap (x10_1 + (Go.bits .and .u64 x9_1 4294967295))) + (IntKind.u64.wrap (rd x0_1 x11_1)))) % 4294967296)) (wrap64 (Int.tdiv a2 32)) (x9_1 / 4294967296) ((IntKind.u64.wrap ((IntKind.u64.wrap (x10_1 + (Go.bits .and .u64 x9_1 4294967295))) + (IntKind.u64.wrap (rd x0_1 x11_1)))) / 4294967296) (wrap64 (x11_1 + 1))) else (none)) else (none)) else (if 0 ≤ x11_1 then (if x11_1 < (x0_1.length : Int) then (w2_add.l0 kj9 (x0_1.set (x11_1 : Int).toNat ((IntKind.u64.wrap (x10_1 + (IntKind.u64.wrap (rd x0_1 x11_1)))) % 4294967296)) (wrap64 (Int.tdiv a2 32)) x9_1 ((IntKind.u64.wrap (x10_1 + (IntKind.u64.wrap (rd x0_1 x11_1)))) / 4294967296) (wrap64 (x11_1 + 1))) else (none)) else (none))) = some r := by rw [if_pos rfl] at H; exact H
     clear H
     have H := H1
     clear H1
     by_cases c17 : x11_1 > (wrap64 (Int.tdiv a2 32))
     ·rw [if_pos c17] at H
      have c17b0 := decide_eq_true c17
      clear c17
      by_cases c18 : 0 ≤ x11_1
      case neg => rw [if_neg c18] at H; exact absurd H (by simp)
      rw [if_pos c18] at H
      have c18b0 := decide_eq_true c18
      clear c18
      by_cases c19 : x11_1 < (x0_1.length : Int)
      case neg => rw [if_neg c19] at H; exact absurd H (by simp)
      rw [if_pos c19] at H
      have c19b0 := decide_eq_true c19
      clear c19
      obtain ⟨y596, hy596⟩ : ∃ y_ : List Int, y_ = (x0_1.set (x11_1 : Int).toNat ((IntKind.u64.wrap ((IntKind.u64.wrap (x10_1 + (Go.bits .and .u64 x9_1 4294967295))) + (IntKind.u64.wrap (rd x0_1 x11_1)))) % 4294967296)) := ⟨_, rfl⟩
      replace H : (w2_add.l0 kj9 y596 (wrap64 (Int.tdiv a2 32)) (x9_1 / 4294967296) ((IntKind.u64.wrap ((IntKind.u64.wrap (x10_1 + (Go.bits .and .u64 x9_1 4294967295))) + (IntKind.u64.wrap (rd x0_1 x11_1)))) / 4294967296) (wrap64 (x11_1 + 1))) = some r := by first | (rw [hy596]; with_reducible exact H) | (have H2_ := (Option.bind_some _ _).symm.trans H; rw [hy596]; with_reducible exact H2_) | (have H2_ := (Option.bind_some _ _).symm.trans H; with_reducible exact H2_) | with_reducible exact H | (rw [hy596]; exact H) | exact H
      have Ny596 := Sd.mk hy596
      clear hy596
      have H' := Sd.mk H
      clear H
      obtain ⟨Ao21, co21, eo21⟩ := Kd.R_slice HO_0.out
      subst eo21
      have p595 : 0 ≤ (x11_1 : Int) := sqD
      have q595 : x11_1 < (x0_1.length : Int) := sqD
      obtain ⟨ad595, e595, hx595_0⟩ := Kd.at_int (Kd.R_reads' HO_0.out).2.2 x11_1 p595 q595
      cases e595
      replace p595 := eq_true p595
      replace q595 := eq_true q595
      have p20 : 0 ≤ (x11_1 : Int) := sqD
      have q20 : (x11_1 : Int) < ((x0_1.length : Int) : Int) := sqD
      obtain ⟨go20, co20, eo20, gb20, gl20, cl20, HG20⟩ := Kd.R_form HO_0.out (by omega)
      (first | cases eo20 | (injection eo20 with ea_ en_ ec_; (first | subst ea_ | (injection ea_ with ea_; subst ea_)); subst ec_; clear en_))
      have GB20 := Sd.mk gb20
      have GG20 := Sd.mk HG20
      clear gb20 gl20 HG20
      have HMgo20 := Sd.mk (show (P0_ go20 ∨ w.heap.size ≤ go20) from (HO_0.out.1 _ rfl))
      (first | simp only [add_plain] at hx595_0 | skip)
      obtain ⟨hx20_0, hf20_0⟩ := Kd.R_celln 0 HO_0.out (x11_1 : Int) p20 q20
      replace p20 := eq_true p20
      replace q20 := eq_true q20
      have HP22 := Kd.R_putg HO_0.out (x11_1 : Int) ((IntKind.u64.wrap ((IntKind.u64.wrap (x10_1 + (Go.bits .and .u64 x9_1 4294967295))) + (IntKind.u64.wrap (rd x0_1 x11_1)))) % 4294967296)
      go_wp2_with (first | ((with_reducible refine gst (t := 83) (p := 61) rfl ?_); refine store_event (t := 83) (p := 61) (v := ?vo_w23) (w1 := (wc.setCell ⟨go20, (x11_1 : Int).toNat, none⟩ (.int .u32 ((IntKind.u64.wrap ((IntKind.u64.wrap (x10_1 + (Go.bits .and .u64 x9_1 4294967295))) + (IntKind.u64.wrap (rd x0_1 x11_1)))) % 4294967296)))) ?hg ?ho ?hn ?hr ?_; (case ho => rfl); (case hg => rfl); (case hn => rfl); (case hr => first | (go_simp; done) | (go_simp; rfl)); intro w23 hw; have hg : wc.grownBy w23 (some go20) := (by rw [hw]; exact HP22.2); have hp_ : Kd.R (Kd.int .u32) 83 w23 w0.heap.size (fun k_ => (P0_ k_ ∨ w.heap.size ≤ k_)) (.slice (some ⟨go20, 0, none⟩) x0_1.length co21) y596 := (by rw [hw, Ny596.out]; exact HP22.1); clear HP22; have n0_ := Sd.mk (hp_); have n1_ := Sd.mk ((by rw [hw]; exact below_set (HB.out) GB20.out : Below w0.heap.size w0 w23)); have n2_ := Sd.mk (Kept.of_grown (S := (fun k_ => P0_ k_)) hg (by repeat (first | (with_reducible first | exact HK.out | apply Kept.alloc | apply Kept.drewN | apply Kept.drew) | exact HK.out)) (fun k_ e_ => (HO_0.out.1 k_ e_))); clear HO_0; clear HB; clear HK; have HO_0 := n0_; have HB := n1_; have HK := n2_; clear n0_ n1_ n2_; clear hg hw hp_))
      go_roundg kj9
      case measure => have := HK1.out; have := HJ9.out; omega
      case rel => exact ⟨(y596), (x9_1 / 4294967296), ((IntKind.u64.wrap ((IntKind.u64.wrap (x10_1 + (Go.bits .and .u64 x9_1 4294967295))) + (IntKind.u64.wrap (rd x0_1 x11_1)))) / 4294967296), (wrap64 (x11_1 + 1)), sqE, sqE, sqE, H', ⟨by have := HK1.out; have := HJ9.out; omega⟩, ⟨sqR HO_0.out⟩, ⟨by repeat (first | (with_reducible first | exact HK.out | apply Kept.alloc | apply Kept.drewN | apply Kept.drew) | exact HK.out)⟩, ⟨sqB⟩⟩
     rw [if_neg c17] at H
     have c17b0 := decide_eq_false c17
     clear c17
     by_cases c24 : 0 ≤ x11_1
     case neg => rw [if_neg c24] at H; exact absurd H (by simp)
     rw [if_pos c24] at H
     have c24b0 := decide_eq_true c24
     clear c24
     by_cases c25 : x11_1 < (x0_1.length : Int)
     case neg => rw [if_neg c25] at H; exact absurd H (by simp)
     rw [if_pos c25] at H
     have c25b0 := decide_eq_true c25
     clear c25
     obtain ⟨y598, hy598⟩ : ∃ y_ : List Int, y_ = (x0_1.set (x11_1 : Int).toNat ((IntKind.u64.wrap (x10_1 + (IntKind.u64.wrap (rd x0_1 x11_1)))) % 4294967296)) := ⟨_, rfl⟩
     replace H : (w2_add.l0 kj9 y598 (wrap64 (Int.tdiv a2 32)) x9_1 ((IntKind.u64.wrap (x10_1 + (IntKind.u64.wrap (rd x0_1 x11_1)))) / 4294967296) (wrap64 (x11_1 + 1))) = some r := by first | (rw [hy598]; with_reducible exact H) | (have H2_ := (Option.bind_some _ _).symm.trans H; rw [hy598]; with_reducible exact H2_) | (have H2_ := (Option.bind_some _ _).symm.trans H; with_reducible exact H2_) | with_reducible exact H | (rw [hy598]; exact H) | exact H
     have Ny598 := Sd.mk hy598
     clear hy598
     have H' := Sd.mk H
     clear H
     obtain ⟨Ao27, co27, eo27⟩ := Kd.R_slice HO_0.out
     subst eo27
     have p597 : 0 ≤ (x11_1 : Int) := sqD
     have q597 : x11_1 < (x0_1.length : Int) := sqD
     obtain ⟨ad597, e597, hx597_0⟩ := Kd.at_int (Kd.R_reads' HO_0.out).2.2 x11_1 p597 q597
     cases e597
     replace p597 := eq_true p597
     replace q597 := eq_true q597
     have p26 : 0 ≤ (x11_1 : Int) := sqD
     have q26 : (x11_1 : Int) < ((x0_1.length : Int) : Int) := sqD
     obtain ⟨go26, co26, eo26, gb26, gl26, cl26, HG26⟩ := Kd.R_form HO_0.out (by omega)
     (first | cases eo26 | (injection eo26 with ea_ en_ ec_; (first | subst ea_ | (injection ea_ with ea_; subst ea_)); subst ec_; clear en_))
     have GB26 := Sd.mk gb26
     have GG26 := Sd.mk HG26
     clear gb26 gl26 HG26
     have HMgo26 := Sd.mk (show (P0_ go26 ∨ w.heap.size ≤ go26) from (HO_0.out.1 _ rfl))
     (first | simp only [add_plain] at hx597_0 | skip)
     obtain ⟨hx26_0, hf26_0⟩ := Kd.R_celln 0 HO_0.out (x11_1 : Int) p26 q26
     replace p26 := eq_true p26
     replace q26 := eq_true q26
     have HP28 := Kd.R_putg HO_0.out (x11_1 : Int) ((IntKind.u64.wrap (x10_1 + (IntKind.u64.wrap (rd x0_1 x11_1)))) % 4294967296)
     go_wp2_with (first | ((with_reducible refine gst (t := 83) (p := 61) rfl ?_); refine store_event (t := 83) (p := 61) (v := ?vo_w29) (w1 := (wc.setCell ⟨go26, (x11_1 : Int).toNat, none⟩ (.int .u32 ((IntKind.u64.wrap (x10_1 + (IntKind.u64.wrap (rd x0_1 x11_1)))) % 4294967296)))) ?hg ?ho ?hn ?hr ?_; (case ho => rfl); (case hg => rfl); (case hn => rfl); (case hr => first | (go_simp; done) | (go_simp; rfl)); intro w29 hw; have hg : wc.grownBy w29 (some go26) := (by rw [hw]; exact HP28.2); have hp_ : Kd.R (Kd.int .u32) 83 w29 w0.heap.size (fun k_ => (P0_ k_ ∨ w.heap.size ≤ k_)) (.slice (some ⟨go26, 0, none⟩) x0_1.length co27) y598 := (by rw [hw, Ny598.out]; exact HP28.1); clear HP28; have n0_ := Sd.mk (hp_); have n1_ := Sd.mk ((by rw [hw]; exact below_set (HB.out) GB26.out : Below w0.heap.size w0 w29)); have n2_ := Sd.mk (Kept.of_grown (S := (fun k_ => P0_ k_)) hg (by repeat (first | (with_reducible first | exact HK.out | apply Kept.alloc | apply Kept.drewN | apply Kept.drew) | exact HK.out)) (fun k_ e_ => (HO_0.out.1 k_ e_))); clear HO_0; clear HB; clear HK; have HO_0 := n0_; have HB := n1_; have HK := n2_; clear n0_ n1_ n2_; clear hg hw hp_))
     go_roundg kj9
     case measure => have := HK1.out; have := HJ9.out; omega
     case rel => exact ⟨(y598), (x9_1), ((IntKind.u64.wrap (x10_1 + (IntKind.u64.wrap (rd x0_1 x11_1)))) / 4294967296), (wrap64 (x11_1 + 1)), sqE, sqE, sqE, H', ⟨by have := HK1.out; have := HJ9.out; omega⟩, ⟨sqR HO_0.out⟩, ⟨by repeat (first | (with_reducible first | exact HK.out | apply Kept.alloc | apply Kept.drewN | apply Kept.drew) | exact HK.out)⟩, ⟨sqB⟩⟩
mutual
def w2_whole.l0 : Nat → List Int → List Int → List Nat → Int → Int → Option (List Int × List Int)
 | 0, _, _, _, _, _ => none
 | k + 1, x2, x3, x11, x12, x13 => if x13 < x12 then (if 0 ≤ x13 then (if x13 < (x11.length : Int) then ((w2_parts.f k (rdOf 0 x11 x13)).bind fun bt612 => (if (wrap64 (bt612.2 + 1074)) < 0 then (if 0 ≤ (wrap64 (-(wrap64 (bt612.2 + 1074)))) then (w2_whole.j1 k x2 x3 (rdOf 0 x11 x13) (shr .u64 bt612.1 (wrap64 (-(wrap64 (bt612.2 + 1074))))) 0 x11 x12 x13) else (none)) else (w2_whole.j1 k x2 x3 (rdOf 0 x11 x13) bt612.1 (wrap64 (bt612.2 + 1074)) x11 x12 x13))) else (none)) else (none)) else ((w2_trim.f k x2).bind fun t605 => ((w2_trim.f k x3).bind fun t608 => (some (t605, t608))))
def w2_whole.j1 : Nat → List Int → List Int → Nat → Int → Int → List Nat → Int → Int → Option (List Int × List Int)
 | 0, _, _, _, _, _, _, _, _ => none
 | k + 1, x2, x3, x5, x6, x8, x11, x12, x13 => (math_Signbit.f x5).bind fun t614 => (if t614 = true then ((w2_add.f k x3 x6 x8).bind fun t615 => (w2_whole.l0 k x2 t615 x11 x12 (wrap64 (x13 + 1)))) else ((w2_add.f k x2 x6 x8).bind fun t616 => (w2_whole.l0 k t616 x3 x11 x12 (wrap64 (x13 + 1)))))
end
def w2_whole.f (k : Nat) (l0 : List Nat) : Option (List Int × List Int) := if 68 ≤ 70368744177664 then (w2_whole.l0 k (List.replicate 68 0) (List.replicate 68 0) l0 (l0.length : Int) 0) else (none)
theorem w2_whole.mono_l : ∀ k, (∀ y0 y1 y2 y3 y4, LeO (w2_whole.l0 k y0 y1 y2 y3 y4) (w2_whole.l0 (k + 1) y0 y1 y2 y3 y4)) ∧ (∀ y0 y1 y2 y3 y4 y5 y6 y7, LeO (w2_whole.j1 k y0 y1 y2 y3 y4 y5 y6 y7) (w2_whole.j1 (k + 1) y0 y1 y2 y3 y4 y5 y6 y7))
 | 0 => ⟨fun _ _ _ _ _ r h => by simp [w2_whole.l0] at h, fun _ _ _ _ _ _ _ _ r h => by simp [w2_whole.j1] at h⟩
 | k + 1 => by
  obtain ⟨ih0, ih1⟩ := w2_whole.mono_l k
  refine ⟨?_, ?_⟩
  ·intro y0 y1 y2 y3 y4
   unfold w2_whole.l0
   repeat' first | (with_reducible first | apply ih0 | apply ih1 | apply w2_add.mono | apply w2_parts.mono | apply w2_trim.mono | apply LeO.refl | apply LeO.none | refine LeO.ite ?_ ?_ | refine LeO.bind ?_ (fun _ => ?_)) | apply LeO.none | refine LeO.ite ?_ ?_ | refine LeO.bind ?_ (fun _ => ?_)
  intro y0 y1 y2 y3 y4 y5 y6 y7
  unfold w2_whole.j1
  repeat' first | (with_reducible first | apply ih0 | apply ih1 | apply w2_add.mono | apply w2_parts.mono | apply w2_trim.mono | apply LeO.refl | apply LeO.none | refine LeO.ite ?_ ?_ | refine LeO.bind ?_ (fun _ => ?_)) | apply LeO.none | refine LeO.ite ?_ ?_ | refine LeO.bind ?_ (fun _ => ?_)
theorem w2_whole.mono : ∀ a0 k, LeO (w2_whole.f k a0) (w2_whole.f (k + 1) a0) := by
 intro a0 k
 obtain ⟨ih0, ih1⟩ := w2_whole.mono_l k
 unfold w2_whole.f
 repeat' first | (with_reducible first | apply ih0 | apply ih1 | apply w2_add.mono | apply w2_parts.mono | apply w2_trim.mono | apply LeO.refl | apply LeO.none | refine LeO.ite ?_ ?_ | refine LeO.bind ?_ (fun _ => ?_)) | apply LeO.none | refine LeO.ite ?_ ?_ | refine LeO.bind ?_ (fun _ => ?_)
theorem w2_whole.calls (k : Nat) (A0 : Option Addr) (c0 : Nat) (l0 : List Nat) (r1 : List Int) (r2 : List Int) (w : World) (hr0 : Kd.C Kd.flt w A0 l0.length l0) (hc0 : l0.length ≤ c0) (h : w2_whole.f k l0 = some (r1, r2)) :
  Calls Tryz.prog 82 #[.slice A0 l0.length c0] w fun e w' => ∃ v0_ v1_ : Value, e = .returned (.tuple #[v0_, v1_]) ∧ Kd.V (Kd.int .u32) 83 w' w.heap.size (fun k_ => (w.heap.size ≤ k_)) v0_ r1 ∧ Kd.V (Kd.int .u32) 83 w' w.heap.size (fun k_ => (w.heap.size ≤ k_)) v1_ r2 ∧ Below w.heap.size w w' := by
 have HR0 := Sd.mk hr0
 have HC0 := Sd.mk hc0
 clear hr0 hc0
 have HB := Sd.mk (Below.refl w.heap.size w)
 have H : (if 68 ≤ 70368744177664 then (w2_whole.l0 k (List.replicate 68 0) (List.replicate 68 0) l0 (l0.length : Int) 0) else (none)) = some (r1, r2) := h
 clear h
 by_cases c2 : 68 ≤ 70368744177664
 case neg => rw [if_neg c2] at H; exact absurd H (by simp)
 rw [if_pos c2] at H
 have c2b0 := eq_true c2
 have c2b1 := decide_eq_true c2
 clear c2
 obtain ⟨y599, hy599⟩ : ∃ y_ : List Int, y_ = (List.replicate 68 0) := ⟨_, rfl⟩
 replace H : (w2_whole.l0 k y599 (List.replicate 68 0) l0 (l0.length : Int) 0) = some (r1, r2) := by first | (rw [hy599]; with_reducible exact H) | (have H2_ := (Option.bind_some _ _).symm.trans H; rw [hy599]; with_reducible exact H2_) | (have H2_ := (Option.bind_some _ _).symm.trans H; with_reducible exact H2_) | with_reducible exact H | (rw [hy599]; exact H) | exact H
 have Ny599 := Sd.mk hy599
 clear hy599
 obtain ⟨y602, hy602⟩ : ∃ y_ : List Int, y_ = (List.replicate 68 0) := ⟨_, rfl⟩
 replace H : (w2_whole.l0 k y599 y602 l0 (l0.length : Int) 0) = some (r1, r2) := by first | (rw [hy602]; with_reducible exact H) | (have H2_ := (Option.bind_some _ _).symm.trans H; rw [hy602]; with_reducible exact H2_) | (have H2_ := (Option.bind_some _ _).symm.trans H; with_reducible exact H2_) | with_reducible exact H | (rw [hy602]; exact H) | exact H
 have Ny602 := Sd.mk hy602
 clear hy602
 have H' := Sd.mk H
 clear H
 go_enter Tryz.func82, Tryz.ntmps82
 try go_wp2
 have n0_ := Sd.mk (below_drew1 HB.out)
 clear HB
 have HB := n0_
 clear n0_
 refine start_ (n := 4) (S := fun w' => True) (ds := []) #[false, false, false, false] (by kernel_rfl) rfl rfl trivial (fun hHeld => ?_)
 generalize w.drew = w3 at HB hHeld ⊢
 refine join_ (σ := Value × Value) 1 #[true, true, true, false] (fun s_ => [(9, s_.1), (10, s_.2), (2, s_.1)]) (fun s_ w' => (Kd.R (Kd.int .u32) 83 w' w.heap.size (fun k_ => (w.heap.size ≤ k_) ∧ some k_ ≠ (s_.2 : Value).ownBlock) s_.1 y599) ∧ (Kd.R (Kd.int .u32) 83 w' w.heap.size (fun k_ => (w.heap.size ≤ k_) ∧ some k_ ≠ (s_.1 : Value).ownBlock) s_.2 y602) ∧ (Below w.heap.size w w')) ?_ ?_
 rotate_left
 ·intro hCont
  refine two_ (i := 0) (j := 1) (Ni := some 9) (Nj := some 10) #[true, false, false, false] #[false, true, false, false] rfl rfl rfl rfl (by kernel_rfl) (by decide) (by decide) (fun K hK => ?_) (fun K hK => ?_)
  ·skip
   refine Kd.R_make_step (Kd.int .u32) _ 83 (by rfl) (N := 9) rfl 53 _ _ rfl 68 rfl rfl Tryz.underlying53 (.int .u32 0) 4 info83 rfl (by decide) (by omega) 0 (ok := fun _ => True) (okp := fun _ => True) rfl (fun _ hk => hk) trivial (by omega) (by omega) (Below.refl _ _) (Nat.le_refl _) ?_
   intro v600 w4 ho5 hb hg_ hnew_
   clear hg_ hnew_
   (first | rw [← Ny599.out] at ho5 | (simp only [Int.reduceToNat] at ho5; rw [← Ny599.out] at ho5))
   have n0_ := Sd.mk (Kd.R_lower (Kd.R_newM (M := fun k_ => (w.heap.size ≤ k_)) ho5 (bsz sqB) (fun k_ h_ => h_)) (bsz sqB))
   have n1_ := Sd.mk (bst sqB hb)
   clear HB
   have HO601 := n0_
   have HB := n1_
   clear n0_ n1_
   clear hb ho5
   refine hK.out _ _ trivial (fun hHeld => ?_)
   clear hK K
   refine norm_ (a' := ?_) ?_ ?_
   rotate_left
   ·show Act.put _ (some 9) _ = _
    simp only [Act.put, List.setIfInBounds_toArray, List.set_cons_zero, List.set_cons_succ, i64_w, i32_w]
    rfl
   refine pure_ (i := 2) (N := some 2) (v := ?_) (a' := ?_) #[true, false, true, false] rfl rfl (by kernel_rfl) (fun _ _ _ h => h) (Or.inl ⟨by rfl, ?_⟩) ?_ ?_
   rotate_left
   ·intro w'
    go_simp
    with_reducible rfl
   rotate_left
   ·simp only [Act.put, List.setIfInBounds_toArray, List.set_cons_zero, List.set_cons_succ, i64_w, i32_w]
    rfl
   refine one_ (i := 1) (N := some 10) #[true, true, true, false] rfl rfl (by kernel_rfl) (by decide) (fun K hK => ?_)
   refine Kd.R_make_step (Kd.int .u32) _ 83 (by rfl) (N := 10) rfl 53 _ _ rfl 68 rfl rfl Tryz.underlying53 (.int .u32 0) 4 info83 rfl (by decide) (by omega) 0 (ok := fun _ => True) (okp := fun _ => True) rfl (fun _ hk => hk) trivial (by omega) (by omega) (Below.refl _ _) (Nat.le_refl _) ?_
   intro v603 w6 ho7 hb hg_ hnew_
   clear hg_ hnew_
   (first | rw [← Ny602.out] at ho7 | (simp only [Int.reduceToNat] at ho7; rw [← Ny602.out] at ho7))
   have n0_ := Sd.mk (Kd.R_elder' (sqR HO601.out) (Kd.R_base ho7) hb)
   have n1_ := Sd.mk (Kd.R_lower (Kd.R_new' (Kd.R_newM (M := fun k_ => (w.heap.size ≤ k_)) ho7 (bsz sqB) (fun k_ h_ => h_)) (Kd.R_lt (sqR HO601.out))) (bsz sqB))
   have n2_ := Sd.mk (bst sqB hb)
   clear HO601
   clear HB
   have HO601 := n0_
   have HO604 := n1_
   have HB := n2_
   clear n0_ n1_ n2_
   clear hb ho7
   refine hK.out _ _ trivial (fun hHeld => ?_)
   clear hK K
   refine norm_ (a' := ?_) ?_ ?_
   rotate_left
   ·show Act.put _ (some 10) _ = _
    simp only [Act.put, List.setIfInBounds_toArray, List.set_cons_zero, List.set_cons_succ, i64_w, i32_w]
    rfl
   exact norm_ (by simp only [putAll, Act.put, List.setIfInBounds_toArray, List.set_cons_zero, List.set_cons_succ]) (hCont (v600, v603) _ ⟨(by (with_reducible repeat (first | apply Kd.R_alloc | apply Kd.R_drewN | apply Kd.R_drew)); exact Kd.R_mono HO601.out (fun _ hk => ⟨hk.1.1, hk.2⟩)), (by (with_reducible repeat (first | apply Kd.R_alloc | apply Kd.R_drewN | apply Kd.R_drew)); exact Kd.R_mono HO604.out (fun _ hk => ⟨hk.1.1, hk.2⟩)), sqB⟩)
  skip
  refine Kd.R_make_step (Kd.int .u32) _ 83 (by rfl) (N := 10) rfl 53 _ _ rfl 68 rfl rfl Tryz.underlying53 (.int .u32 0) 4 info83 rfl (by decide) (by omega) 0 (ok := fun _ => True) (okp := fun _ => True) rfl (fun _ hk => hk) trivial (by omega) (by omega) (Below.refl _ _) (Nat.le_refl _) ?_
  intro v603 w4 ho5 hb hg_ hnew_
  clear hg_ hnew_
  (first | rw [← Ny602.out] at ho5 | (simp only [Int.reduceToNat] at ho5; rw [← Ny602.out] at ho5))
  have n0_ := Sd.mk (Kd.R_lower (Kd.R_newM (M := fun k_ => (w.heap.size ≤ k_)) ho5 (bsz sqB) (fun k_ h_ => h_)) (bsz sqB))
  have n1_ := Sd.mk (bst sqB hb)
  clear HB
  have HO604 := n0_
  have HB := n1_
  clear n0_ n1_
  clear hb ho5
  refine hK.out _ _ trivial (fun hHeld => ?_)
  clear hK K
  refine norm_ (a' := ?_) ?_ ?_
  rotate_left
  ·show Act.put _ (some 10) _ = _
   simp only [Act.put, List.setIfInBounds_toArray, List.set_cons_zero, List.set_cons_succ, i64_w, i32_w]
   rfl
  refine one_ (i := 0) (N := some 9) #[true, true, false, false] rfl rfl (by kernel_rfl) (by decide) (fun K hK => ?_)
  refine Kd.R_make_step (Kd.int .u32) _ 83 (by rfl) (N := 9) rfl 53 _ _ rfl 68 rfl rfl Tryz.underlying53 (.int .u32 0) 4 info83 rfl (by decide) (by omega) 0 (ok := fun _ => True) (okp := fun _ => True) rfl (fun _ hk => hk) trivial (by omega) (by omega) (Below.refl _ _) (Nat.le_refl _) ?_
  intro v600 w6 ho7 hb hg_ hnew_
  clear hg_ hnew_
  (first | rw [← Ny599.out] at ho7 | (simp only [Int.reduceToNat] at ho7; rw [← Ny599.out] at ho7))
  have n0_ := Sd.mk (Kd.R_elder' (sqR HO604.out) (Kd.R_base ho7) hb)
  have n1_ := Sd.mk (Kd.R_lower (Kd.R_new' (Kd.R_newM (M := fun k_ => (w.heap.size ≤ k_)) ho7 (bsz sqB) (fun k_ h_ => h_)) (Kd.R_lt (sqR HO604.out))) (bsz sqB))
  have n2_ := Sd.mk (bst sqB hb)
  clear HO604
  clear HB
  have HO604 := n0_
  have HO601 := n1_
  have HB := n2_
  clear n0_ n1_ n2_
  clear hb ho7
  refine hK.out _ _ trivial (fun hHeld => ?_)
  clear hK K
  refine norm_ (a' := ?_) ?_ ?_
  rotate_left
  ·show Act.put _ (some 9) _ = _
   simp only [Act.put, List.setIfInBounds_toArray, List.set_cons_zero, List.set_cons_succ, i64_w, i32_w]
   rfl
  refine pure_ (i := 2) (N := some 2) (v := ?_) (a' := ?_) #[true, true, true, false] rfl rfl (by kernel_rfl) (fun _ _ _ h => h) (Or.inl ⟨by rfl, ?_⟩) ?_ ?_
  rotate_left
  ·intro w'
   go_simp
   with_reducible rfl
  rotate_left
  ·simp only [Act.put, List.setIfInBounds_toArray, List.set_cons_zero, List.set_cons_succ, i64_w, i32_w]
   rfl
  exact norm_ (by simp only [putAll, Act.put, List.setIfInBounds_toArray, List.set_cons_zero, List.set_cons_succ]) (hCont (v600, v603) _ ⟨(by (with_reducible repeat (first | apply Kd.R_alloc | apply Kd.R_drewN | apply Kd.R_drew)); exact Kd.R_mono HO601.out (fun _ hk => ⟨hk.1.1, hk.2⟩)), (by (with_reducible repeat (first | apply Kd.R_alloc | apply Kd.R_drewN | apply Kd.R_drew)); exact Kd.R_mono HO604.out (fun _ hk => ⟨hk.1.1, hk.2⟩)), sqB⟩)
 rintro ⟨v600, v603⟩ w8 ⟨h0_, h1_, h2_⟩
 have n0_ : Sd (Kd.R (Kd.int .u32) 83 w8 w.heap.size (fun k_ => (w.heap.size ≤ k_) ∧ some k_ ≠ (v603 : Value).ownBlock) v600 y599) := ⟨h0_⟩
 have n1_ : Sd (Kd.R (Kd.int .u32) 83 w8 w.heap.size (fun k_ => (w.heap.size ≤ k_) ∧ some k_ ≠ (v600 : Value).ownBlock) v603 y602) := ⟨h1_⟩
 have n2_ : Sd (Below w.heap.size w w8) := ⟨h2_⟩
 clear HB
 clear h0_ h1_ h2_
 have HO601 := n0_
 have HO604 := n1_
 have HB := n2_
 clear n0_ n1_ n2_
 have hHeld := trivial
 refine norm_ (a' := ?_) ?_ ?_
 rotate_left
 ·simp only [putAll, Act.put, List.setIfInBounds_toArray, List.set_cons_zero, List.set_cons_succ]
  rfl
 refine pure_ (i := 3) (N := some 3) (v := ?_) (a' := ?_) #[true, true, true, true] rfl rfl (by kernel_rfl) (fun _ _ _ h => h) (Or.inl ⟨by rfl, ?_⟩) ?_ ?_
 rotate_left
 ·intro w'
  go_simp
  with_reducible rfl
 rotate_left
 ·simp only [Act.put, List.setIfInBounds_toArray, List.set_cons_zero, List.set_cons_succ, i64_w, i32_w]
  rfl
 refine done_ (by kernel_rfl) ?_
 try go_wp2
 go_loopg [13] k (fun kq v13 w' => ∃ (x2_1 : List Int) (x3_1 : List Int) (x13_1 : Int), v13 = .int .i64 x13_1 ∧ Sd (w2_whole.l0 kq x2_1 x3_1 l0 (l0.length : Int) x13_1 = some (r1, r2)) ∧ Sd (kq ≤ k) ∧ Sd (Kd.R (Kd.int .u32) 83 w' w.heap.size (fun k_ => (w.heap.size ≤ k_) ∧ some k_ ≠ (v603 : Value).ownBlock) v600 x2_1) ∧ Sd (Kd.R (Kd.int .u32) 83 w' w.heap.size (fun k_ => (w.heap.size ≤ k_) ∧ some k_ ≠ (v600 : Value).ownBlock) v603 x3_1) ∧ Sd (Below w.heap.size w w'))
 case atStart => exact ⟨(y599), (y602), (0), sqE, H', ⟨Nat.le_refl _⟩, ⟨sqR HO601.out⟩, ⟨sqR HO604.out⟩, ⟨sqB⟩⟩
 case round =>
  clear H'
  try clear c2
  try clear c2b0
  try clear c2b1
  try clear p2
  try clear c8
  obtain ⟨x2_1, x3_1, x13_1, rfl, HA, HK1, HO_2, HO_3, HB⟩ := hrel
  cases gk with
  | zero => exact absurd HA.out (by simp [w2_whole.l0])
  | succ k1 =>
   have H := HA.out
   clear HA
   simp only [w2_whole.l0] at H
   by_cases c9 : x13_1 < (l0.length : Int)
   case neg =>
    rw [if_neg c9] at H
    have c9b0 := decide_eq_false c9
    clear c9
    obtain ⟨t605, A26, H⟩ := sqO H
    try dsimp only at H
    obtain ⟨t608, A27, H⟩ := sqO H
    try dsimp only at H
    simp only [Option.some.injEq, Prod.mk.injEq] at H
    obtain ⟨rfl, rfl⟩ := H
    obtain ⟨Ao28, co28, eo28⟩ := Kd.R_slice HO_2.out
    subst eo28
    go_wp2_with (first | ((with_reducible refine gcl (f := 57) rfl ?_); refine gL (some 42) rfl rfl Tryz.func57 (by kernel_rfl) rfl #[.slice Ao28 x2_1.length co28] rfl sqA ?_; (with_reducible refine (w2_trim.calls k1 (fun k_ => some k_ = (.slice Ao28 x2_1.length co28 : Value).ownBlock) _ _ x2_1 t605 _ ?side1 A26.out).mono ?_); (case side1 => exact Kd.R_V (Kd.R_tight rfl (HO_2.out))); rintro e w29 ⟨v606, rfl, ho0, hb⟩; refine ⟨_, rfl, ?_⟩; have n0_ := Sd.mk (Kd.R_below (sqR HO_2.out) hb); have n1_ := Sd.mk (Kd.R_below (sqR HO_3.out) hb); have n2_ := Sd.mk (Kd.V_lower (Kd.V_mono (ok' := fun k_ => (w.heap.size ≤ k_) ∧ some k_ ≠ (v603 : Value).ownBlock) ho0 (fun k_ hk_ => ⟨Or.elim hk_ (fun hs_ => ((HO_2.out).1 k_ hs_.symm).1) (fun hn_ => (Nat.le_trans (bsz sqB) hn_)), Or.elim hk_ (fun hs_ => ((HO_2.out).1 k_ hs_.symm).2) (fun hn_ => (Kd.fresh' (Kd.R_lt (sqR HO_3.out)) k_ hn_))⟩)) (bsz sqB)); have n3_ := Sd.mk (bst sqB hb); clear HO_2; clear HO_3; clear HB; have HO_2 := n0_; have HO_3 := n1_; have HO607 := n2_; have HB := n3_; clear n0_ n1_ n2_ n3_; (try clear hb); (try clear hb2); (try clear hk); (try clear hi); (try clear ho0); obtain ⟨Ao30, co30, eo30⟩ := Kd.R_slice HO_3.out; subst eo30) | ((with_reducible refine gcl (f := 57) rfl ?_); refine gL (some 44) rfl rfl Tryz.func57 (by kernel_rfl) rfl #[.slice Ao30 x3_1.length co30] rfl sqA ?_; (with_reducible refine (w2_trim.calls k1 (fun k_ => some k_ = (.slice Ao30 x3_1.length co30 : Value).ownBlock) _ _ x3_1 t608 _ ?side1 A27.out).mono ?_); (case side1 => exact Kd.R_V (Kd.R_tight rfl (HO_3.out))); rintro e w31 ⟨v609, rfl, ho0, hb⟩; refine ⟨_, rfl, ?_⟩; have n0_ := Sd.mk (Kd.R_below (sqR HO_2.out) hb); have n1_ := Sd.mk (Kd.R_below (sqR HO_3.out) hb); have n2_ := Sd.mk (Kd.V_below (sqV HO607.out) hb); have n3_ := Sd.mk (Kd.V_lower (Kd.V_mono (ok' := fun k_ => (w.heap.size ≤ k_) ∧ some k_ ≠ (.slice Ao28 x2_1.length co28 : Value).ownBlock) ho0 (fun k_ hk_ => ⟨Or.elim hk_ (fun hs_ => ((HO_3.out).1 k_ hs_.symm).1) (fun hn_ => (Nat.le_trans (bsz sqB) hn_)), Or.elim hk_ (fun hs_ => ((HO_3.out).1 k_ hs_.symm).2) (fun hn_ => (Kd.fresh' (Kd.R_lt (sqR HO_2.out)) k_ hn_))⟩)) (bsz sqB)); have n4_ := Sd.mk (bst sqB hb); clear HO_2; clear HO_3; clear HO607; clear HB; have HO_2 := n0_; have HO_3 := n1_; have HO607 := n2_; have HO610 := n3_; have HB := n4_; clear n0_ n1_ n2_ n3_ n4_; (try clear hb); (try clear hb2); (try clear hk); (try clear hi); (try clear ho0)))
    go_ret2
    exact ⟨_, _, sqE', by (with_reducible repeat (first | apply Kd.V_alloc | apply Kd.V_drewN | apply Kd.V_drew)); exact Kd.V_mono HO607.out (fun _ hk => hk.1), by (with_reducible repeat (first | apply Kd.V_alloc | apply Kd.V_drewN | apply Kd.V_drew)); exact Kd.V_mono HO610.out (fun _ hk => hk.1), sqB⟩
   rw [if_pos c9] at H
   have c9b0 := decide_eq_true c9
   clear c9
   by_cases c10 : 0 ≤ x13_1
   case neg => rw [if_neg c10] at H; exact absurd H (by simp)
   rw [if_pos c10] at H
   have c10b0 := decide_eq_true c10
   clear c10
   by_cases c11 : x13_1 < (l0.length : Int)
   case neg => rw [if_neg c11] at H; exact absurd H (by simp)
   rw [if_pos c11] at H
   have c11b0 := decide_eq_true c11
   clear c11
   obtain ⟨⟨t612, t613⟩, A12, H⟩ := sqO H
   try dsimp only at H
   have HC13 := Sd.mk H
   clear H
   have p611 : 0 ≤ (x13_1 : Int) := sqD
   have q611 : x13_1 < (l0.length : Int) := sqD
   obtain ⟨ad611, e611, hx611_0⟩ := Kd.at_flt HR0.out x13_1 p611 q611
   cases e611
   replace hx611_0 := (HB.out.cell (World.block_lt_of_cell? w _ hx611_0)).trans hx611_0
   replace p611 := eq_true p611
   replace q611 := eq_true q611
   go_upto_if 25 with (first | ((with_reducible refine gcl (f := 101) rfl ?_); refine gL (some 19) rfl rfl Tryz.func101 (by kernel_rfl) rfl #[.float .f64 (rdOf 0 l0 x13_1)] rfl sqA ?_; (with_reducible refine (w2_parts.calls k1 (rdOf 0 l0 x13_1) t612 t613 _ A12.out).mono ?_); rintro e w' ⟨rfl, ⟨nd, rfl⟩⟩; refine ⟨_, rfl, ?_⟩))
   (try simp only [Act.put, List.setIfInBounds_toArray, List.set_cons_zero, List.set_cons_succ])
   go_cut [6, 8] (fun v6 v8 wc => ∃ (kq : Nat) (x6_12 : Int) (x8_12 : Int), v6 = .int .u64 x6_12 ∧ v8 = .int .i64 x8_12 ∧ Sd (w2_whole.j1 kq x2_1 x3_1 (rdOf 0 l0 x13_1) x6_12 x8_12 l0 (l0.length : Int) x13_1 = some (r1, r2)) ∧ Sd (kq ≤ k1) ∧ Sd (Kd.R (Kd.int .u32) 83 wc w.heap.size (fun k_ => (w.heap.size ≤ k_) ∧ some k_ ≠ (v603 : Value).ownBlock) v600 x2_1) ∧ Sd (Kd.R (Kd.int .u32) 83 wc w.heap.size (fun k_ => (w.heap.size ≤ k_) ∧ some k_ ≠ (v600 : Value).ownBlock) v603 x3_1) ∧ Sd (Below w.heap.size w wc))
   case first =>
    have H := HC13.out
    clear HC13
    by_cases c14 : (wrap64 (t613 + 1074)) < 0
    case neg =>
     rw [if_neg c14] at H
     have c14b0 := decide_eq_false c14
     clear c14
     (first | rw [c14b0] | (simp only [i64_w, i32_w]; rw [c14b0]) | skip)
     have H' := Sd.mk H
     clear H
     go_wp2
     go_meet
     case rel => exact ⟨_, (t612), (wrap64 (t613 + 1074)), sqE, sqE, H', ⟨by have := HK1.out; first | omega | exact Nat.le_refl _⟩, ⟨sqR HO_2.out⟩, ⟨sqR HO_3.out⟩, ⟨sqB⟩⟩
    rw [if_pos c14] at H
    have c14b0 := decide_eq_true c14
    clear c14
    (first | rw [c14b0] | (simp only [i64_w, i32_w]; rw [c14b0]) | skip)
    obtain ⟨ji15, hji15⟩ : ∃ j_ : Int, (wrap64 (-(wrap64 (t613 + 1074)))) = j_ := ⟨_, rfl⟩
    replace H : (if 0 ≤ (ji15) then (w2_whole.j1 k1 x2_1 x3_1 (rdOf 0 l0 x13_1) (shr .u64 t612 (ji15)) 0 l0 (l0.length : Int) x13_1) else (none)) = some (r1, r2) := by first | (rw [hji15] at H; exact H) | (simp only [hji15] at H ⊢; exact H)
    have hji15w : (IntKind.i64.wrap (-(wrap64 (t613 + 1074)))) = ji15 := (i64_w _).trans hji15
    by_cases c16 : 0 ≤ (ji15)
    case neg => rw [if_neg c16] at H; exact absurd H (by simp)
    rw [if_pos c16] at H
    have c16b0 := eq_true c16
    have c16b1 := decide_eq_true c16
    clear c16
    obtain ⟨ji17, hji17⟩ : ∃ j_ : Int, (shr .u64 t612 (ji15)) = j_ := ⟨_, rfl⟩
    replace H : (w2_whole.j1 k1 x2_1 x3_1 (rdOf 0 l0 x13_1) ji17 0 l0 (l0.length : Int) x13_1) = some (r1, r2) := by first | (rw [hji17] at H; exact H) | (simp only [hji17] at H ⊢; exact H)
    have hji17_ : (t612 / 2 ^ min (ji15).toNat 64) = ji17 := hji17
    have hji17z : (ji15) ≤ 64 → (t612 / 2 ^ (ji15).toNat) = ji17 := shr_small hji17
    have H' := Sd.mk H
    clear H
    go_wp2
    go_meet
    case rel => exact ⟨_, (ji17), (0), (by first | rfl | (simp; done) | (simp only [← hji17] <;> (first | rfl | simp)) | (simp [*]; done)), sqE, H', ⟨by have := HK1.out; first | omega | exact Nat.le_refl _⟩, ⟨sqR HO_2.out⟩, ⟨sqR HO_3.out⟩, ⟨sqB⟩⟩
   case rest =>
    clear HC13
    try clear c1
    try clear c2
    try clear c2b0
    try clear c2b1
    try clear p2
    try clear p6
    try clear q6
    try clear hx6
    try clear c8
    try clear c9
    try clear c9b0
    try clear c10
    try clear c10b0
    try clear c11
    try clear c11b0
    try clear c14
    try clear c14b0
    try clear c16
    try clear c16b0
    try clear c16b1
    try clear hx611_0
    try clear p2
    try clear p611
    try clear q611
    obtain ⟨kq, x6_12, x8_12, rfl, rfl, HA, HJ12, HO_2, HO_3, HB⟩ := hcut
    cases kq with
    | zero => exact absurd HA.out (by simp [w2_whole.j1])
    | succ kj12 =>
     have H := HA.out
     clear HA
     simp only [w2_whole.j1] at H
     obtain ⟨t614, A18, H⟩ := sqO H
     try dsimp only at H
     by_cases c19 : t614 = true
     ·subst c19
      have H1 : ((w2_add.f kj12 x3_1 x6_12 x8_12).bind fun t615 => (w2_whole.l0 kj12 x2_1 t615 l0 (l0.length : Int) (wrap64 (x13_1 + 1)))) = some (r1, r2) := by rw [if_pos rfl] at H; exact H
      clear H
      have H := H1
      clear H1
      obtain ⟨t615, A20, H⟩ := sqO H
      try dsimp only at H
      have H' := Sd.mk H
      clear H
      go_wp2_with (first | ((with_reducible refine gcl (f := 37) rfl ?_); refine gL (some 31) rfl rfl Tryz.func37 (by kernel_rfl) rfl #[.float .f64 (rdOf 0 l0 x13_1)] rfl sqA ?_; (with_reducible refine (math_Signbit.calls (rdOf 0 l0 x13_1) true _ A18.out).mono ?_); rintro e w' ⟨rfl, ⟨nd, rfl⟩⟩; refine ⟨_, rfl, ?_⟩; obtain ⟨Ao21, co21, eo21⟩ := Kd.R_slice HO_3.out; subst eo21) | ((with_reducible refine gcl (f := 102) rfl ?_); refine gL (some 35) rfl rfl Tryz.func102 (by kernel_rfl) rfl #[.slice Ao21 x3_1.length co21, .int .u64 x6_12, .int .i64 x8_12] rfl sqA ?_; (with_reducible refine (w2_add.calls kj12 (fun k_ => some k_ = (.slice Ao21 x3_1.length co21 : Value).ownBlock) (.slice Ao21 x3_1.length co21) x3_1 x6_12 x8_12 t615 w _ ?side1 ?side2 A20.out).mono ?_); (case side1 => repeat (first | (with_reducible first | exact HB.out | apply below_alloc | apply pw_below_drewN | apply below_drew1) | exact HB.out)); (case side2 => exact Kd.R_tight rfl HO_3.out); rintro e w22 ⟨rfl, hy0, hb, hkp⟩; refine ⟨_, rfl, ?_⟩; have n0_ := Sd.mk (Kd.R_mono (ok' := fun k_ => (w.heap.size ≤ k_) ∧ some k_ ≠ (.slice Ao21 x3_1.length co21 : Value).ownBlock) (Kd.R_keptB (HO_2.out) hkp (fun k_ hk_ hs_ => (hk_.2) hs_)) (fun k_ hk_ => ⟨hk_.1.1, hk_.1.2⟩)); have n1_ := Sd.mk (Kd.R_reok rfl hy0 (fun k_ e_ => HO_3.out.1 k_ e_)); have n2_ := Sd.mk (hb); clear HO_2; clear HO_3; clear HB; have HO_2 := n0_; have HO_3 := n1_; have HB := n2_; clear n0_ n1_ n2_; (try clear hb); (try clear hkp); (try clear hy0)))
      go_roundg kj12
      case measure => have := HK1.out; have := HJ12.out; omega
      case rel => exact ⟨(x2_1), (t615), (wrap64 (x13_1 + 1)), sqE, H', ⟨by have := HK1.out; have := HJ12.out; omega⟩, ⟨sqR HO_2.out⟩, ⟨sqR HO_3.out⟩, ⟨sqB⟩⟩
     replace c19 := Bool.eq_false_iff.mpr c19
     subst c19
     have H1 : ((w2_add.f kj12 x2_1 x6_12 x8_12).bind fun t616 => (w2_whole.l0 kj12 t616 x3_1 l0 (l0.length : Int) (wrap64 (x13_1 + 1)))) = some (r1, r2) := by rw [if_neg (show ¬ (false = true) by decide)] at H; exact H
     clear H
     have H := H1
     clear H1
     obtain ⟨t616, A23, H⟩ := sqO H
     try dsimp only at H
     have H' := Sd.mk H
     clear H
     go_wp2_with (first | ((with_reducible refine gcl (f := 37) rfl ?_); refine gL (some 31) rfl rfl Tryz.func37 (by kernel_rfl) rfl #[.float .f64 (rdOf 0 l0 x13_1)] rfl sqA ?_; (with_reducible refine (math_Signbit.calls (rdOf 0 l0 x13_1) false _ A18.out).mono ?_); rintro e w' ⟨rfl, ⟨nd, rfl⟩⟩; refine ⟨_, rfl, ?_⟩; obtain ⟨Ao24, co24, eo24⟩ := Kd.R_slice HO_2.out; subst eo24) | ((with_reducible refine gcl (f := 102) rfl ?_); refine gL (some 39) rfl rfl Tryz.func102 (by kernel_rfl) rfl #[.slice Ao24 x2_1.length co24, .int .u64 x6_12, .int .i64 x8_12] rfl sqA ?_; (with_reducible refine (w2_add.calls kj12 (fun k_ => some k_ = (.slice Ao24 x2_1.length co24 : Value).ownBlock) (.slice Ao24 x2_1.length co24) x2_1 x6_12 x8_12 t616 w _ ?side1 ?side2 A23.out).mono ?_); (case side1 => repeat (first | (with_reducible first | exact HB.out | apply below_alloc | apply pw_below_drewN | apply below_drew1) | exact HB.out)); (case side2 => exact Kd.R_tight rfl HO_2.out); rintro e w25 ⟨rfl, hy0, hb, hkp⟩; refine ⟨_, rfl, ?_⟩; have n0_ := Sd.mk (Kd.R_reok rfl hy0 (fun k_ e_ => HO_2.out.1 k_ e_)); have n1_ := Sd.mk (Kd.R_mono (ok' := fun k_ => (w.heap.size ≤ k_) ∧ some k_ ≠ (.slice Ao24 x2_1.length co24 : Value).ownBlock) (Kd.R_keptB (HO_3.out) hkp (fun k_ hk_ hs_ => (hk_.2) hs_)) (fun k_ hk_ => ⟨hk_.1.1, hk_.1.2⟩)); have n2_ := Sd.mk (hb); clear HO_2; clear HO_3; clear HB; have HO_2 := n0_; have HO_3 := n1_; have HB := n2_; clear n0_ n1_ n2_; (try clear hb); (try clear hkp); (try clear hy0)))
     go_roundg kj12
     case measure => have := HK1.out; have := HJ12.out; omega
     case rel => exact ⟨(t616), (x3_1), (wrap64 (x13_1 + 1)), sqE, H', ⟨by have := HK1.out; have := HJ12.out; omega⟩, ⟨sqR HO_2.out⟩, ⟨sqR HO_3.out⟩, ⟨sqB⟩⟩
def w2_shared.f (k : Nat) (l0 : List Nat) (a1 : Int) : Option (Nat) := (w2_whole.f k l0).bind fun bt617 => ((wn_compare.f k bt617.1 bt617.2).bind fun t623 => (if t623 > 0 then ((wn_less.f k bt617.1 bt617.2).bind fun t624 => ((w2_natOf.f k (IntKind.u64.wrap (a1))).bind fun t627 => ((w2_rounded.f k t624 t627 (-1074)).bind fun t630 => (some t630)))) else (if t623 < 0 then ((wn_less.f k bt617.2 bt617.1).bind fun t631 => ((w2_natOf.f k (IntKind.u64.wrap (a1))).bind fun t634 => ((w2_rounded.f k t631 t634 (-1074)).bind fun t637 => (some (Op.negFloat .f64 t637))))) else (some (0 : Nat)))))
theorem w2_shared.mono : ∀ a0 a1 k, LeO (w2_shared.f k a0 a1) (w2_shared.f (k + 1) a0 a1) := by
 intro a0 a1 k
 unfold w2_shared.f
 repeat' first | (with_reducible first | apply w2_natOf.mono | apply wn_compare.mono | apply wn_less.mono | apply w2_rounded.mono | apply w2_whole.mono | apply LeO.refl | apply LeO.none | refine LeO.ite ?_ ?_ | refine LeO.bind ?_ (fun _ => ?_)) | apply LeO.none | refine LeO.ite ?_ ?_ | refine LeO.bind ?_ (fun _ => ?_)
theorem w2_shared.calls (k : Nat) (A0 : Option Addr) (c0 : Nat) (l0 : List Nat) (a1 : Int) (r : Nat) (w : World) (hr0 : Kd.C Kd.flt w A0 l0.length l0) (hc0 : l0.length ≤ c0) (h : w2_shared.f k l0 a1 = some r) :
  Calls Tryz.prog 45 #[.slice A0 l0.length c0, .int .i64 a1] w fun e w' => e = .returned (.float .f64 r) ∧ Below w.heap.size w w' := by
 have HR0 := Sd.mk hr0
 have HC0 := Sd.mk hc0
 clear hr0 hc0
 have HB := Sd.mk (Below.refl w.heap.size w)
 have H : ((w2_whole.f k l0).bind fun bt617 => ((wn_compare.f k bt617.1 bt617.2).bind fun t623 => (if t623 > 0 then ((wn_less.f k bt617.1 bt617.2).bind fun t624 => ((w2_natOf.f k (IntKind.u64.wrap (a1))).bind fun t627 => ((w2_rounded.f k t624 t627 (-1074)).bind fun t630 => (some t630)))) else (if t623 < 0 then ((wn_less.f k bt617.2 bt617.1).bind fun t631 => ((w2_natOf.f k (IntKind.u64.wrap (a1))).bind fun t634 => ((w2_rounded.f k t631 t634 (-1074)).bind fun t637 => (some (Op.negFloat .f64 t637))))) else (some (0 : Nat)))))) = some r := h
 clear h
 obtain ⟨⟨t617, t620⟩, A3, H⟩ := sqO H
 try dsimp only at H
 obtain ⟨t623, A4, H⟩ := sqO H
 try dsimp only at H
 by_cases c5 : t623 > 0
 ·rw [if_pos c5] at H
  have c5b0 := decide_eq_true c5
  clear c5
  obtain ⟨t624, A6, H⟩ := sqO H
  try dsimp only at H
  obtain ⟨t627, A7, H⟩ := sqO H
  try dsimp only at H
  obtain ⟨t630, A8, H⟩ := sqO H
  try dsimp only at H
  obtain rfl := Option.some.inj H
  go_enter Tryz.func45, Tryz.ntmps45
  go_wp2_with (first | ((with_reducible refine gcl (f := 82) rfl ?_); refine gL (some 10) rfl rfl Tryz.func82 (by kernel_rfl) rfl #[.slice A0 l0.length c0] rfl sqA ?_; (with_reducible refine (w2_whole.calls k _ _ l0 t617 t620 _ ?side1 ?side2 A3.out).mono ?_); (case side1 => repeat (first | exact HR0.out | (with_reducible refine Kd.C_alloc ?_ _) | (with_reducible refine Kd.C_drewN ?_ _) | (with_reducible refine Kd.C_drew ?_))); (case side2 => exact HC0.out); rintro e w9 ⟨v618, v621, rfl, ho0, ho1, hb⟩; refine ⟨_, rfl, ?_⟩; have n0_ := Sd.mk (Kd.V_lower (Kd.V_mono (ok' := fun k_ => True) ho0 (fun k_ hk_ => trivial)) (bsz sqB)); have n1_ := Sd.mk (Kd.V_lower (Kd.V_mono (ok' := fun k_ => True) ho1 (fun k_ hk_ => trivial)) (bsz sqB)); have n2_ := Sd.mk (bst sqB hb); clear HB; have HO619 := n0_; have HO622 := n1_; have HB := n2_; clear n0_ n1_ n2_; (try clear hb); (try clear hb2); (try clear hk); (try clear hi); (try clear ho0); (try clear ho1); obtain ⟨Ao10, co10, eo10⟩ := Kd.V_slice HO619.out; subst eo10; obtain ⟨Ao11, co11, eo11⟩ := Kd.V_slice HO622.out; subst eo11) | ((with_reducible refine gcl (f := 53) rfl ?_); refine gL (some 15) rfl rfl Tryz.func53 (by kernel_rfl) rfl #[.slice Ao10 t617.length co10, .slice Ao11 t620.length co11] rfl sqA ?_; (with_reducible refine (wn_compare.calls k _ _ t617 _ _ t620 t623 _ ?side1 ?side2 ?side3 ?side4 A4.out).mono ?_); (case side1 => repeat (first | exact (Kd.V_reads' HO619.out).2.2 | (with_reducible refine Kd.C_alloc ?_ _) | (with_reducible refine Kd.C_drewN ?_ _) | (with_reducible refine Kd.C_drew ?_))); (case side2 => exact (Kd.V_reads' HO619.out).2.1); (case side3 => repeat (first | exact (Kd.V_reads' HO622.out).2.2 | (with_reducible refine Kd.C_alloc ?_ _) | (with_reducible refine Kd.C_drewN ?_ _) | (with_reducible refine Kd.C_drew ?_))); (case side4 => exact (Kd.V_reads' HO622.out).2.1); rintro e w' ⟨rfl, ⟨nd, rfl⟩⟩; refine ⟨_, rfl, ?_⟩) | ((with_reducible refine gcl (f := 83) rfl ?_); refine gL (some 21) rfl rfl Tryz.func83 (by kernel_rfl) rfl #[.slice Ao10 t617.length co10, .slice Ao11 t620.length co11] rfl sqA ?_; (with_reducible refine (wn_less.calls k _ _ t617 _ _ t620 t624 _ ?side1 ?side2 ?side3 ?side4 A6.out).mono ?_); (case side1 => repeat (first | exact (Kd.V_reads' HO619.out).2.2 | (with_reducible refine Kd.C_alloc ?_ _) | (with_reducible refine Kd.C_drewN ?_ _) | (with_reducible refine Kd.C_drew ?_))); (case side2 => exact (Kd.V_reads' HO619.out).2.1); (case side3 => repeat (first | exact (Kd.V_reads' HO622.out).2.2 | (with_reducible refine Kd.C_alloc ?_ _) | (with_reducible refine Kd.C_drewN ?_ _) | (with_reducible refine Kd.C_drew ?_))); (case side4 => exact (Kd.V_reads' HO622.out).2.1); rintro e w12 ⟨v625, rfl, ho0, hb⟩; refine ⟨_, rfl, ?_⟩; have n0_ := Sd.mk (Kd.V_below (sqV HO619.out) hb); have n1_ := Sd.mk (Kd.V_below (sqV HO622.out) hb); have n2_ := Sd.mk (Kd.V_lower (Kd.V_mono (ok' := fun k_ => True) ho0 (fun k_ hk_ => trivial)) (bsz sqB)); have n3_ := Sd.mk (bst sqB hb); clear HO619; clear HO622; clear HB; have HO619 := n0_; have HO622 := n1_; have HO626 := n2_; have HB := n3_; clear n0_ n1_ n2_ n3_; (try clear hb); (try clear hb2); (try clear hk); (try clear hi); (try clear ho0)) | ((with_reducible refine gcl (f := 28) rfl ?_); refine gL (some 24) rfl rfl Tryz.func28 (by kernel_rfl) rfl #[.int .u64 (IntKind.u64.wrap (a1))] rfl sqA ?_; (with_reducible refine (w2_natOf.calls k (IntKind.u64.wrap (a1)) t627 _ A7.out).mono ?_); rintro e w13 ⟨v628, rfl, ho0, hb⟩; refine ⟨_, rfl, ?_⟩; have n0_ := Sd.mk (Kd.V_below (sqV HO619.out) hb); have n1_ := Sd.mk (Kd.V_below (sqV HO622.out) hb); have n2_ := Sd.mk (Kd.V_below (sqV HO626.out) hb); have n3_ := Sd.mk (Kd.V_lower (Kd.V_mono (ok' := fun k_ => True) ho0 (fun k_ hk_ => trivial)) (bsz sqB)); have n4_ := Sd.mk (bst sqB hb); clear HO619; clear HO622; clear HO626; clear HB; have HO619 := n0_; have HO622 := n1_; have HO626 := n2_; have HO629 := n3_; have HB := n4_; clear n0_ n1_ n2_ n3_ n4_; (try clear hb); (try clear hb2); (try clear hk); (try clear hi); (try clear ho0); obtain ⟨Ao14, co14, eo14⟩ := Kd.V_slice HO626.out; subst eo14; obtain ⟨Ao15, co15, eo15⟩ := Kd.V_slice HO629.out; subst eo15) | ((with_reducible refine gcl (f := 27) rfl ?_); refine gL (some 25) rfl rfl Tryz.func27 (by kernel_rfl) rfl #[.slice Ao14 t624.length co14, .slice Ao15 t627.length co15, .int .i64 (-1074)] rfl sqA ?_; (with_reducible refine (w2_rounded.calls k _ _ t624 _ _ t627 (-1074) t630 _ ?side1 ?side2 ?side3 ?side4 A8.out).mono ?_); (case side1 => repeat (first | exact (Kd.V_reads' HO626.out).2.2 | (with_reducible refine Kd.C_alloc ?_ _) | (with_reducible refine Kd.C_drewN ?_ _) | (with_reducible refine Kd.C_drew ?_))); (case side2 => exact (Kd.V_reads' HO626.out).2.1); (case side3 => repeat (first | exact (Kd.V_reads' HO629.out).2.2 | (with_reducible refine Kd.C_alloc ?_ _) | (with_reducible refine Kd.C_drewN ?_ _) | (with_reducible refine Kd.C_drew ?_))); (case side4 => exact (Kd.V_reads' HO629.out).2.1); rintro e w16 ⟨rfl, hb⟩; refine ⟨_, rfl, ?_⟩; have n0_ := Sd.mk (Kd.V_below (sqV HO619.out) hb); have n1_ := Sd.mk (Kd.V_below (sqV HO622.out) hb); have n2_ := Sd.mk (Kd.V_below (sqV HO626.out) hb); have n3_ := Sd.mk (Kd.V_below (sqV HO629.out) hb); have n4_ := Sd.mk (bst sqB hb); clear HO619; clear HO622; clear HO626; clear HO629; clear HB; have HO619 := n0_; have HO622 := n1_; have HO626 := n2_; have HO629 := n3_; have HB := n4_; clear n0_ n1_ n2_ n3_ n4_; (try clear hb); (try clear hb2); (try clear hk); (try clear hi)))
  go_ret
  exact ⟨sqE', sqB⟩
 rw [if_neg c5] at H
 have c5b0 := decide_eq_false c5
 clear c5
 by_cases c17 : t623 < 0
 case neg =>
  rw [if_neg c17] at H
  have c17b0 := decide_eq_false c17
  clear c17
  obtain rfl := Option.some.inj H
  go_enter Tryz.func45, Tryz.ntmps45
  go_wp2_with (first | ((with_reducible refine gcl (f := 82) rfl ?_); refine gL (some 10) rfl rfl Tryz.func82 (by kernel_rfl) rfl #[.slice A0 l0.length c0] rfl sqA ?_; (with_reducible refine (w2_whole.calls k _ _ l0 t617 t620 _ ?side1 ?side2 A3.out).mono ?_); (case side1 => repeat (first | exact HR0.out | (with_reducible refine Kd.C_alloc ?_ _) | (with_reducible refine Kd.C_drewN ?_ _) | (with_reducible refine Kd.C_drew ?_))); (case side2 => exact HC0.out); rintro e w29 ⟨v618, v621, rfl, ho0, ho1, hb⟩; refine ⟨_, rfl, ?_⟩; have n0_ := Sd.mk (Kd.V_lower (Kd.V_mono (ok' := fun k_ => True) ho0 (fun k_ hk_ => trivial)) (bsz sqB)); have n1_ := Sd.mk (Kd.V_lower (Kd.V_mono (ok' := fun k_ => True) ho1 (fun k_ hk_ => trivial)) (bsz sqB)); have n2_ := Sd.mk (bst sqB hb); clear HB; have HO619 := n0_; have HO622 := n1_; have HB := n2_; clear n0_ n1_ n2_; (try clear hb); (try clear hb2); (try clear hk); (try clear hi); (try clear ho0); (try clear ho1); obtain ⟨Ao30, co30, eo30⟩ := Kd.V_slice HO619.out; subst eo30; obtain ⟨Ao31, co31, eo31⟩ := Kd.V_slice HO622.out; subst eo31) | ((with_reducible refine gcl (f := 53) rfl ?_); refine gL (some 15) rfl rfl Tryz.func53 (by kernel_rfl) rfl #[.slice Ao30 t617.length co30, .slice Ao31 t620.length co31] rfl sqA ?_; (with_reducible refine (wn_compare.calls k _ _ t617 _ _ t620 t623 _ ?side1 ?side2 ?side3 ?side4 A4.out).mono ?_); (case side1 => repeat (first | exact (Kd.V_reads' HO619.out).2.2 | (with_reducible refine Kd.C_alloc ?_ _) | (with_reducible refine Kd.C_drewN ?_ _) | (with_reducible refine Kd.C_drew ?_))); (case side2 => exact (Kd.V_reads' HO619.out).2.1); (case side3 => repeat (first | exact (Kd.V_reads' HO622.out).2.2 | (with_reducible refine Kd.C_alloc ?_ _) | (with_reducible refine Kd.C_drewN ?_ _) | (with_reducible refine Kd.C_drew ?_))); (case side4 => exact (Kd.V_reads' HO622.out).2.1); rintro e w' ⟨rfl, ⟨nd, rfl⟩⟩; refine ⟨_, rfl, ?_⟩))
  go_ret
  exact ⟨sqE', sqB⟩
 rw [if_pos c17] at H
 have c17b0 := decide_eq_true c17
 clear c17
 obtain ⟨t631, A18, H⟩ := sqO H
 try dsimp only at H
 obtain ⟨t634, A19, H⟩ := sqO H
 try dsimp only at H
 obtain ⟨t637, A20, H⟩ := sqO H
 try dsimp only at H
 obtain rfl := Option.some.inj H
 go_enter Tryz.func45, Tryz.ntmps45
 go_wp2_with (first | ((with_reducible refine gcl (f := 82) rfl ?_); refine gL (some 10) rfl rfl Tryz.func82 (by kernel_rfl) rfl #[.slice A0 l0.length c0] rfl sqA ?_; (with_reducible refine (w2_whole.calls k _ _ l0 t617 t620 _ ?side1 ?side2 A3.out).mono ?_); (case side1 => repeat (first | exact HR0.out | (with_reducible refine Kd.C_alloc ?_ _) | (with_reducible refine Kd.C_drewN ?_ _) | (with_reducible refine Kd.C_drew ?_))); (case side2 => exact HC0.out); rintro e w21 ⟨v618, v621, rfl, ho0, ho1, hb⟩; refine ⟨_, rfl, ?_⟩; have n0_ := Sd.mk (Kd.V_lower (Kd.V_mono (ok' := fun k_ => True) ho0 (fun k_ hk_ => trivial)) (bsz sqB)); have n1_ := Sd.mk (Kd.V_lower (Kd.V_mono (ok' := fun k_ => True) ho1 (fun k_ hk_ => trivial)) (bsz sqB)); have n2_ := Sd.mk (bst sqB hb); clear HB; have HO619 := n0_; have HO622 := n1_; have HB := n2_; clear n0_ n1_ n2_; (try clear hb); (try clear hb2); (try clear hk); (try clear hi); (try clear ho0); (try clear ho1); obtain ⟨Ao22, co22, eo22⟩ := Kd.V_slice HO619.out; subst eo22; obtain ⟨Ao23, co23, eo23⟩ := Kd.V_slice HO622.out; subst eo23) | ((with_reducible refine gcl (f := 53) rfl ?_); refine gL (some 15) rfl rfl Tryz.func53 (by kernel_rfl) rfl #[.slice Ao22 t617.length co22, .slice Ao23 t620.length co23] rfl sqA ?_; (with_reducible refine (wn_compare.calls k _ _ t617 _ _ t620 t623 _ ?side1 ?side2 ?side3 ?side4 A4.out).mono ?_); (case side1 => repeat (first | exact (Kd.V_reads' HO619.out).2.2 | (with_reducible refine Kd.C_alloc ?_ _) | (with_reducible refine Kd.C_drewN ?_ _) | (with_reducible refine Kd.C_drew ?_))); (case side2 => exact (Kd.V_reads' HO619.out).2.1); (case side3 => repeat (first | exact (Kd.V_reads' HO622.out).2.2 | (with_reducible refine Kd.C_alloc ?_ _) | (with_reducible refine Kd.C_drewN ?_ _) | (with_reducible refine Kd.C_drew ?_))); (case side4 => exact (Kd.V_reads' HO622.out).2.1); rintro e w' ⟨rfl, ⟨nd, rfl⟩⟩; refine ⟨_, rfl, ?_⟩) | ((with_reducible refine gcl (f := 83) rfl ?_); refine gL (some 31) rfl rfl Tryz.func83 (by kernel_rfl) rfl #[.slice Ao23 t620.length co23, .slice Ao22 t617.length co22] rfl sqA ?_; (with_reducible refine (wn_less.calls k _ _ t620 _ _ t617 t631 _ ?side1 ?side2 ?side3 ?side4 A18.out).mono ?_); (case side1 => repeat (first | exact (Kd.V_reads' HO622.out).2.2 | (with_reducible refine Kd.C_alloc ?_ _) | (with_reducible refine Kd.C_drewN ?_ _) | (with_reducible refine Kd.C_drew ?_))); (case side2 => exact (Kd.V_reads' HO622.out).2.1); (case side3 => repeat (first | exact (Kd.V_reads' HO619.out).2.2 | (with_reducible refine Kd.C_alloc ?_ _) | (with_reducible refine Kd.C_drewN ?_ _) | (with_reducible refine Kd.C_drew ?_))); (case side4 => exact (Kd.V_reads' HO619.out).2.1); rintro e w24 ⟨v632, rfl, ho0, hb⟩; refine ⟨_, rfl, ?_⟩; have n0_ := Sd.mk (Kd.V_below (sqV HO619.out) hb); have n1_ := Sd.mk (Kd.V_below (sqV HO622.out) hb); have n2_ := Sd.mk (Kd.V_lower (Kd.V_mono (ok' := fun k_ => True) ho0 (fun k_ hk_ => trivial)) (bsz sqB)); have n3_ := Sd.mk (bst sqB hb); clear HO619; clear HO622; clear HB; have HO619 := n0_; have HO622 := n1_; have HO633 := n2_; have HB := n3_; clear n0_ n1_ n2_ n3_; (try clear hb); (try clear hb2); (try clear hk); (try clear hi); (try clear ho0)) | ((with_reducible refine gcl (f := 28) rfl ?_); refine gL (some 34) rfl rfl Tryz.func28 (by kernel_rfl) rfl #[.int .u64 (IntKind.u64.wrap (a1))] rfl sqA ?_; (with_reducible refine (w2_natOf.calls k (IntKind.u64.wrap (a1)) t634 _ A19.out).mono ?_); rintro e w25 ⟨v635, rfl, ho0, hb⟩; refine ⟨_, rfl, ?_⟩; have n0_ := Sd.mk (Kd.V_below (sqV HO619.out) hb); have n1_ := Sd.mk (Kd.V_below (sqV HO622.out) hb); have n2_ := Sd.mk (Kd.V_below (sqV HO633.out) hb); have n3_ := Sd.mk (Kd.V_lower (Kd.V_mono (ok' := fun k_ => True) ho0 (fun k_ hk_ => trivial)) (bsz sqB)); have n4_ := Sd.mk (bst sqB hb); clear HO619; clear HO622; clear HO633; clear HB; have HO619 := n0_; have HO622 := n1_; have HO633 := n2_; have HO636 := n3_; have HB := n4_; clear n0_ n1_ n2_ n3_ n4_; (try clear hb); (try clear hb2); (try clear hk); (try clear hi); (try clear ho0); obtain ⟨Ao26, co26, eo26⟩ := Kd.V_slice HO633.out; subst eo26; obtain ⟨Ao27, co27, eo27⟩ := Kd.V_slice HO636.out; subst eo27) | ((with_reducible refine gcl (f := 27) rfl ?_); refine gL (some 35) rfl rfl Tryz.func27 (by kernel_rfl) rfl #[.slice Ao26 t631.length co26, .slice Ao27 t634.length co27, .int .i64 (-1074)] rfl sqA ?_; (with_reducible refine (w2_rounded.calls k _ _ t631 _ _ t634 (-1074) t637 _ ?side1 ?side2 ?side3 ?side4 A20.out).mono ?_); (case side1 => repeat (first | exact (Kd.V_reads' HO633.out).2.2 | (with_reducible refine Kd.C_alloc ?_ _) | (with_reducible refine Kd.C_drewN ?_ _) | (with_reducible refine Kd.C_drew ?_))); (case side2 => exact (Kd.V_reads' HO633.out).2.1); (case side3 => repeat (first | exact (Kd.V_reads' HO636.out).2.2 | (with_reducible refine Kd.C_alloc ?_ _) | (with_reducible refine Kd.C_drewN ?_ _) | (with_reducible refine Kd.C_drew ?_))); (case side4 => exact (Kd.V_reads' HO636.out).2.1); rintro e w28 ⟨rfl, hb⟩; refine ⟨_, rfl, ?_⟩; have n0_ := Sd.mk (Kd.V_below (sqV HO619.out) hb); have n1_ := Sd.mk (Kd.V_below (sqV HO622.out) hb); have n2_ := Sd.mk (Kd.V_below (sqV HO633.out) hb); have n3_ := Sd.mk (Kd.V_below (sqV HO636.out) hb); have n4_ := Sd.mk (bst sqB hb); clear HO619; clear HO622; clear HO633; clear HO636; clear HB; have HO619 := n0_; have HO622 := n1_; have HO633 := n2_; have HO636 := n3_; have HB := n4_; clear n0_ n1_ n2_ n3_ n4_; (try clear hb); (try clear hb2); (try clear hk); (try clear hi)))
 go_ret
 exact ⟨sqE', sqB⟩
end Go.Proofs.YtfmjdoofopamkaaGreatDoor.W
