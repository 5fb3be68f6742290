import Derived.Test.YtfmjdoofopamkaaGreatDoorWx0
import Derived.Test.YtfmjdoofopamkaaGreatDoorWx14
import Derived.Test.YtfmjdoofopamkaaGreatDoorWx15
namespace Go.Proofs.YtfmjdoofopamkaaGreatDoor.W
open Go.RowKit Go.Proofs.YtfmjdoofopamkaaGreatDoorW.PrintWords Go.Proofs.YtfmjdoofopamkaaGreatDoorW.PrintLast Go.Proofs.YtfmjdoofopamkaaGreatDoorW.PrintMore
set_option maxHeartbeats 8000000
set_option maxRecDepth 100000
attribute [local go_sem] max2_int min2_int max_two min_two max_three min_three max_four min_four
set_option linter.unusedVariables false
set_option linter.unusedSimpArgs false
def endonymref2_half.l0 : Nat → List Int → List Int → Int → Option (List Int)
 | 0, _, _, _ => none
 | k + 1, x0, x3, x4 => if x4 < (x0.length : Int) then (if 0 ≤ x4 then (if x4 < (x3.length : Int) then ((some (x3.set (x4 : Int).toNat ((rd x0 x4) / 2) : List Int)).bind fun y559 => (if (wrap64 (x4 + 1)) < (x0.length : Int) then (if 0 ≤ (wrap64 (x4 + 1)) then (endonymref2_half.l0 k x0 (y559.set (x4 : Int).toNat (Go.bits .or .u32 (rd y559 x4) (((Go.bits .and .u32 (rd x0 (wrap64 (x4 + 1))) 1) * 32768) % 4294967296))) (wrap64 (x4 + 1))) else (none)) else (endonymref2_half.l0 k x0 y559 (wrap64 (x4 + 1))))) else (none)) else (none)) else ((endonymref2_trim.f k x3).bind fun t563 => (some t563))
def endonymref2_half.f (k : Nat) (l0 : List Int) : Option (List Int) := if 0 ≤ (l0.length : Int) then (if ((l0.length : Int) : Int).toNat ≤ 70368744177664 then (endonymref2_half.l0 k l0 (List.replicate ((l0.length : Int) : Int).toNat 0) 0) else (none)) else (none)
theorem endonymref2_half.mono_l : ∀ k, (∀ y0 y1 y2, LeO (endonymref2_half.l0 k y0 y1 y2) (endonymref2_half.l0 (k + 1) y0 y1 y2))
 | 0 => fun _ _ _ r h => by simp [endonymref2_half.l0] at h
 | k + 1 => by
  have ih0 := endonymref2_half.mono_l k
  intro y0 y1 y2
  unfold endonymref2_half.l0
  repeat' first | (with_reducible first | apply ih0 | apply endonymref2_trim.mono | apply LeO.refl | apply LeO.none | refine LeO.ite ?_ ?_ | refine LeO.bind ?_ (fun _ => ?_)) | apply LeO.none | refine LeO.ite ?_ ?_ | refine LeO.bind ?_ (fun _ => ?_)
theorem endonymref2_half.mono : ∀ a0 k, LeO (endonymref2_half.f k a0) (endonymref2_half.f (k + 1) a0) := by
 intro a0 k
 have ih0 := endonymref2_half.mono_l k
 unfold endonymref2_half.f
 repeat' first | (with_reducible first | apply ih0 | apply endonymref2_trim.mono | apply LeO.refl | apply LeO.none | refine LeO.ite ?_ ?_ | refine LeO.bind ?_ (fun _ => ?_)) | apply LeO.none | refine LeO.ite ?_ ?_ | refine LeO.bind ?_ (fun _ => ?_)
def endonymref2_half.T7 : Bool × List (List Nat × List Nat) := (true, [([], []), ([], []), ([], []), ([], []), ([2, 3], [2, 3]), ([4], [4]), ([], []), ([], []), ([7], [7]), ([6, 8], [6, 8]), ([9], [9]), ([10], [10]), ([11], [11]), ([5, 12], [5, 12]), ([0, 1, 0, 1, 2, 3, 4, 5, 6, 7, 8, 9, 10, 11, 12, 13], [0, 1]), ([14, 13, 0, 1, 2, 3, 4, 5, 6, 7, 8, 9, 10, 11, 12, 13], [13, 14])])
def endonymref2_half.B7 : List Nat := [0, 0, 0, 0, 12, 28, 0, 0, 128, 448, 960, 1984, 4032, 8188, 16383, 32767]
theorem endonymref2_half.tab7 : rtab .any (opsOf Tryz.f100 7) = endonymref2_half.T7 := by kernel_rfl
theorem endonymref2_half.bits7 : waitsOk endonymref2_half.T7.2 endonymref2_half.B7 = true := by kernel_rfl
theorem endonymref2_half.calls (k : Nat) (A0 : Option Addr) (c0 : Nat) (l0 : List Int) (r : List Int) (w : World) (hr0 : Kd.C (Kd.int .u32) w A0 l0.length l0) (hc0 : l0.length ≤ c0) (h : endonymref2_half.f k l0 = some r) :
  Calls Tryz.prog 100 #[.slice A0 l0.length c0] w fun e w' => ∃ v0_ : Value, e = .returned (v0_) ∧ Kd.R (Kd.int .u32) 83 w' w.heap.size (fun _ => True) v0_ r ∧ Below w.heap.size w w' := by
 have HR0 := Aside0.mk hr0
 have HC0 := Aside0.mk hc0
 clear hr0 hc0
 have HB := Aside0.mk (Below.refl w.heap.size w)
 have H : (if 0 ≤ (l0.length : Int) then (if ((l0.length : Int) : Int).toNat ≤ 70368744177664 then (endonymref2_half.l0 k l0 (List.replicate ((l0.length : Int) : Int).toNat 0) 0) else (none)) else (none)) = some r := h
 clear h
 by_cases c2 : 0 ≤ (l0.length : Int)
 case neg => rw [if_neg c2] at H; exact absurd H (by simp)
 rw [if_pos c2] at H
 have c2b0 := eq_true c2
 have c2b1 := decide_eq_true c2
 clear c2
 by_cases c3 : ((l0.length : Int) : Int).toNat ≤ 70368744177664
 case neg => rw [if_neg c3] at H; exact absurd H (by simp)
 rw [if_pos c3] at H
 have c3b0 := eq_true c3
 have c3b1 := decide_eq_true c3
 clear c3
 obtain ⟨y555, hy555⟩ : ∃ y_ : List Int, y_ = (List.replicate ((l0.length : Int) : Int).toNat 0) := ⟨_, rfl⟩
 replace H : (endonymref2_half.l0 k l0 y555 0) = some r := by first | (rw [hy555]; with_reducible exact H) | (have H2_ := (Option.bind_some _ _).symm.trans H; rw [hy555]; with_reducible exact H2_) | (have H2_ := (Option.bind_some _ _).symm.trans H; with_reducible exact H2_) | with_reducible exact H | (rw [hy555]; exact H) | exact H
 have Ny555 := Aside0.mk hy555
 clear hy555
 have H' := Aside0.mk H
 clear H
 go_enter Tryz.func100, Tryz.ntmps100
 go_wp2_with (first | ((with_reducible refine gate_dst (N := 7) rfl ?_); refine Kd.R_make (Kd.int .u32) _ 83 rfl (N := 7) rfl 71 _ _ rfl (l0.length : Int) rfl rfl Tryz.underlying71 (.int .u32 0) 4 info83 rfl (by decide) (by omega) 0 (ok := fun _ => True) (okp := fun _ => True) rfl (fun _ hk => hk) trivial sqD (Nat.le_trans (Nat.mul_le_mul_right _ (sqD : (l0.length : Int).toNat ≤ 70368744177664)) (by omega)) (Below.refl _ _) (Nat.le_refl _) ?_; intro v556 w4 ho5 hb hg_ hnew_; clear hg_ hnew_; (first | rw [← Ny555.out] at ho5 | (simp only [Int.reduceToNat] at ho5; rw [← Ny555.out] at ho5)); have n0_ := Aside0.mk (Kd.R_lower ho5 (below_size sqB)); have n1_ := Aside0.mk (below_step sqB hb); clear HB; have HO557 := n0_; have HB := n1_; clear n0_ n1_; clear hb ho5))
 try simp only [Act.put, List.setIfInBounds_toArray, List.set_cons_zero, List.set_cons_succ]
 go_loopg [4] k (fun kq v4 w' => ∃ (x3_1 : List Int) (x4_1 : Int), v4 = .int .i64 x4_1 ∧ Aside0 (endonymref2_half.l0 kq l0 x3_1 x4_1 = some r) ∧ Aside0 (kq ≤ k) ∧ Aside0 (Kd.R (Kd.int .u32) 83 w' w.heap.size (fun _ => True) v556 x3_1) ∧ Aside0 (Below w.heap.size w w'))
 case atStart => exact ⟨(y555), (0), sqE, H', ⟨Nat.le_refl _⟩, ⟨sqR HO557.out⟩, ⟨sqB⟩⟩
 case round =>
  clear H'
  try clear c1
  try clear c2
  try clear c2b0
  try clear c2b1
  try clear p2
  try clear c3
  try clear c3b0
  try clear c3b1
  obtain ⟨x3_1, x4_1, rfl, HA, HK1, HO_3, HB⟩ := hrel
  cases gk with
  | zero => exact absurd HA.out (by simp [endonymref2_half.l0])
  | succ k1 =>
   have H := HA.out
   clear HA
   simp only [endonymref2_half.l0] at H
   by_cases c6 : x4_1 < (l0.length : Int)
   case neg =>
    rw [if_neg c6] at H
    have c6b0 := decide_eq_false c6
    clear c6
    obtain ⟨t563, A20, H⟩ := sqO H
    try dsimp only at H
    obtain rfl := Option.some.inj H
    obtain ⟨Ao21, co21, eo21⟩ := Kd.R_slice HO_3.out
    subst eo21
    go_wp2_with (first | ((with_reducible refine gate_callee (f := 89) rfl ?_); refine goesL_ (some 43) rfl rfl Tryz.func89 (by kernel_rfl) rfl #[.slice Ao21 x3_1.length co21] rfl sqA ?_; (with_reducible refine (endonymref2_trim.calls k1 (fun k_ => some k_ = (.slice Ao21 x3_1.length co21 : Value).ownBlock) (.slice Ao21 x3_1.length co21) x3_1 t563 w _ ?side1 ?side2 A20.out).mono ?_); (case side1 => repeat (first | (with_reducible first | exact HB.out | apply below_alloc | apply pw_below_drewN | apply below_drew1) | exact HB.out)); (case side2 => exact Kd.R_tight rfl HO_3.out); rintro e w22 ⟨v564, rfl, ho0, hb, hkp⟩; refine ⟨_, rfl, ?_⟩; have n0_ := Aside0.mk (Kd.R_mono (ok' := fun k_ => True) ho0 (fun k_ hk_ => trivial)); have n1_ := Aside0.mk (hb); clear HB; clear HO_3; have HO565 := n0_; have HB := n1_; clear n0_ n1_; (try clear hb); (try clear hkp); (try clear ho0)))
    go_ret
    exact ⟨_, sqE', sqR HO565.out, sqB⟩
   rw [if_pos c6] at H
   have c6b0 := decide_eq_true c6
   clear c6
   by_cases c7 : 0 ≤ x4_1
   case neg => rw [if_neg c7] at H; exact absurd H (by simp)
   rw [if_pos c7] at H
   have c7b0 := decide_eq_true c7
   clear c7
   by_cases c8 : x4_1 < (x3_1.length : Int)
   case neg => rw [if_neg c8] at H; exact absurd H (by simp)
   rw [if_pos c8] at H
   have c8b0 := decide_eq_true c8
   clear c8
   obtain ⟨y559, hy559⟩ : ∃ y_ : List Int, y_ = (x3_1.set (x4_1 : Int).toNat ((rd l0 x4_1) / 2)) := ⟨_, rfl⟩
   replace H : (if (wrap64 (x4_1 + 1)) < (l0.length : Int) then (if 0 ≤ (wrap64 (x4_1 + 1)) then (endonymref2_half.l0 k1 l0 (y559.set (x4_1 : Int).toNat (Go.bits .or .u32 (rd y559 x4_1) (((Go.bits .and .u32 (rd l0 (wrap64 (x4_1 + 1))) 1) * 32768) % 4294967296))) (wrap64 (x4_1 + 1))) else (none)) else (endonymref2_half.l0 k1 l0 y559 (wrap64 (x4_1 + 1)))) = some r := by first | (rw [hy559]; with_reducible exact H) | (have H2_ := (Option.bind_some _ _).symm.trans H; rw [hy559]; with_reducible exact H2_) | (have H2_ := (Option.bind_some _ _).symm.trans H; with_reducible exact H2_) | with_reducible exact H | (rw [hy559]; exact H) | exact H
   have Ny559 := Aside0.mk hy559
   clear hy559
   by_cases c10 : (wrap64 (x4_1 + 1)) < (l0.length : Int)
   case neg =>
    rw [if_neg c10] at H
    have c10b0 := decide_eq_false c10
    clear c10
    have H' := Aside0.mk H
    clear H
    have p558 : 0 ≤ (x4_1 : Int) := sqD
    have q558 : x4_1 < (l0.length : Int) := sqD
    obtain ⟨ad558, e558, hx558_0⟩ := Kd.at_int HR0.out x4_1 p558 q558
    cases e558
    replace hx558_0 := (HB.out.cell (World.block_lt_of_cell? w _ hx558_0)).trans hx558_0
    replace p558 := eq_true p558
    replace q558 := eq_true q558
    have p9 : 0 ≤ (x4_1 : Int) := sqD
    have q9 : (x4_1 : Int) < ((x3_1.length : Int) : Int) := sqD
    obtain ⟨go9, co9, eo9, gb9, gl9, cl9, HG9⟩ := Kd.R_form HO_3.out (by omega)
    (first | cases eo9 | (injection eo9 with ea_ en_ ec_; (first | subst ea_ | (injection ea_ with ea_; subst ea_)); subst ec_; clear en_))
    have GB9 := Aside0.mk gb9
    have GG9 := Aside0.mk HG9
    clear gb9 gl9 HG9
    obtain ⟨hx9_0, hf9_0⟩ := Kd.R_celln 0 HO_3.out (x4_1 : Int) p9 q9
    replace p9 := eq_true p9
    replace q9 := eq_true q9
    have HP18 := Kd.R_putg HO_3.out (x4_1 : Int) ((rd l0 x4_1) / 2)
    go_wp2_with (first | ((with_reducible refine gate_store (t := 83) (p := 21) rfl ?_); refine store_event (t := 83) (p := 21) (v := ?vo_w19) (w1 := (wr.setCell ⟨go9, (x4_1 : Int).toNat, none⟩ (.int .u32 ((rd l0 x4_1) / 2)))) ?hg ?ho ?hn ?hr ?_; (case ho => rfl); (case hg => rfl); (case hn => rfl); (case hr => first | (go_simp; done) | (go_simp; rfl)); intro w19 hw; have hg : wr.grownBy w19 (some go9) := (by rw [hw]; exact HP18.2); have hp_ : Kd.R (Kd.int .u32) 83 w19 w.heap.size (fun _ => True) (.slice (some ⟨go9, 0, none⟩) x3_1.length co9) y559 := (by rw [hw, Ny559.out]; exact HP18.1); clear HP18; have n0_ := Aside0.mk (hp_); have n1_ := Aside0.mk ((by rw [hw]; exact below_set (HB.out) GB9.out : Below w.heap.size w w19)); clear HO_3; clear HB; have HO_3 := n0_; have HB := n1_; clear n0_ n1_; clear hg hw hp_))
    go_roundg k1
    case measure => have := HK1.out; omega
    case rel => exact ⟨(y559), (wrap64 (x4_1 + 1)), sqE, H', ⟨by have := HK1.out; omega⟩, ⟨sqR HO_3.out⟩, ⟨sqB⟩⟩
   rw [if_pos c10] at H
   have c10b0 := decide_eq_true c10
   clear c10
   obtain ⟨ji11, hji11⟩ : ∃ j_ : Int, (wrap64 (x4_1 + 1)) = j_ := ⟨_, rfl⟩
   replace H : (if 0 ≤ (ji11) then (endonymref2_half.l0 k1 l0 (y559.set (x4_1 : Int).toNat (Go.bits .or .u32 (rd y559 x4_1) (((Go.bits .and .u32 (rd l0 (ji11)) 1) * 32768) % 4294967296))) ji11) else (none)) = some r := by first | (rw [hji11] at H; exact H) | (simp only [hji11] at H ⊢; exact H)
   (try rw [hji11] at c10b0)
   have hji11w : (IntKind.i64.wrap (x4_1 + 1)) = ji11 := (i64_w _).trans hji11
   by_cases c12 : 0 ≤ (ji11)
   case neg => rw [if_neg c12] at H; exact absurd H (by simp)
   rw [if_pos c12] at H
   have c12b0 := decide_eq_true c12
   clear c12
   obtain ⟨y562, hy562⟩ : ∃ y_ : List Int, y_ = (y559.set (x4_1 : Int).toNat (Go.bits .or .u32 (rd y559 x4_1) (((Go.bits .and .u32 (rd l0 (ji11)) 1) * 32768) % 4294967296))) := ⟨_, rfl⟩
   replace H : (endonymref2_half.l0 k1 l0 y562 ji11) = some r := by first | (rw [hy562]; with_reducible exact H) | (have H2_ := (Option.bind_some _ _).symm.trans H; rw [hy562]; with_reducible exact H2_) | (have H2_ := (Option.bind_some _ _).symm.trans H; with_reducible exact H2_) | with_reducible exact H | (rw [hy562]; exact H) | exact H
   have Ny562 := Aside0.mk hy562
   clear hy562
   have H' := Aside0.mk H
   clear H
   have p558 : 0 ≤ (x4_1 : Int) := sqD
   have q558 : x4_1 < (l0.length : Int) := sqD
   obtain ⟨ad558, e558, hx558_0⟩ := Kd.at_int HR0.out x4_1 p558 q558
   cases e558
   replace hx558_0 := (HB.out.cell (World.block_lt_of_cell? w _ hx558_0)).trans hx558_0
   replace p558 := eq_true p558
   replace q558 := eq_true q558
   have p9 : 0 ≤ (x4_1 : Int) := sqD
   have q9 : (x4_1 : Int) < ((x3_1.length : Int) : Int) := sqD
   obtain ⟨go9, co9, eo9, gb9, gl9, cl9, HG9⟩ := Kd.R_form HO_3.out (by omega)
   (first | cases eo9 | (injection eo9 with ea_ en_ ec_; (first | subst ea_ | (injection ea_ with ea_; subst ea_)); subst ec_; clear en_))
   have GB9 := Aside0.mk gb9
   have GG9 := Aside0.mk HG9
   clear gb9 gl9 HG9
   obtain ⟨hx9_0, hf9_0⟩ := Kd.R_celln 0 HO_3.out (x4_1 : Int) p9 q9
   replace p9 := eq_true p9
   replace q9 := eq_true q9
   have HP14 := Kd.R_putg HO_3.out (x4_1 : Int) ((rd l0 x4_1) / 2)
   try go_wp2_with (first | ((with_reducible refine gate_store (t := 83) (p := 21) rfl ?_); refine store_event (t := 83) (p := 21) (v := ?vo_w15) (w1 := (wr.setCell ⟨go9, (x4_1 : Int).toNat, none⟩ (.int .u32 ((rd l0 x4_1) / 2)))) ?hg ?ho ?hn ?hr ?_; (case ho => rfl); (case hg => rfl); (case hn => rfl); (case hr => first | (go_simp; done) | (go_simp; rfl)); intro w15 hw; have hg : wr.grownBy w15 (some go9) := (by rw [hw]; exact HP14.2); have hp_ : Kd.R (Kd.int .u32) 83 w15 w.heap.size (fun _ => True) (.slice (some ⟨go9, 0, none⟩) x3_1.length co9) y559 := (by rw [hw, Ny559.out]; exact HP14.1); clear HP14; have n0_ := Aside0.mk (hp_); have n1_ := Aside0.mk ((by rw [hw]; exact below_set (HB.out) GB9.out : Below w.heap.size w w15)); clear HO_3; clear HB; have HO_3 := n0_; have HB := n1_; clear n0_ n1_; clear hg hw hp_))
   have n0_ := Aside0.mk (Kd.R_drew HO_3.out)
   have n1_ := Aside0.mk (below_drew1 HB.out)
   clear HO_3
   clear HB
   have HO_3 := n0_
   have HB := n1_
   clear n0_ n1_
   have p560 : 0 ≤ (x4_1 : Int) := sqD
   have q560 : x4_1 < (y559.length : Int) := (by have h_ : (x4_1 : Int) < ((x3_1.length : Int) : Int) := sqD; first | (have e_ := (Kd.R_reads' HO_3.out).1; omega) | simpa only [Ny559.out, List.length_set] using h_)
   have ql560 : ((x4_1 : Int) < ((x3_1.length : Int) : Int)) = True := eq_true sqD
   obtain ⟨ad560, e560, hx560_0⟩ := Kd.at_int (Kd.R_reads' HO_3.out).2.2 x4_1 p560 q560
   obtain rfl : (⟨go9, 0, none⟩ : Addr) = ad560 := (by injection e560)
   (first | simp only [add_plain] at hx560_0 | simp only [add_at] at hx560_0 | simp only [Addr.add, Nat.zero_add] at hx560_0 | skip)
   replace p560 := eq_true p560
   replace q560 := eq_true q560
   have p561 : 0 ≤ ((ji11) : Int) := sqD
   have q561 : (ji11) < (l0.length : Int) := sqD
   obtain ⟨ad561, e561, hx561_0⟩ := Kd.at_int HR0.out (ji11) p561 q561
   have hw561_0 := hx561_0
   obtain rfl : ad558 = ad561 := (by injection e561)
   replace hx561_0 := (HB.out.cell (World.block_lt_of_cell? w _ hx561_0)).trans hx561_0
   replace p561 := eq_true p561
   replace q561 := eq_true q561
   have p13 : 0 ≤ (x4_1 : Int) := sqD
   have q13 : (x4_1 : Int) < ((x3_1.length : Int) : Int) := sqD
   obtain ⟨hx13_0, hf13_0⟩ := Kd.R_celln 0 HO_3.out (x4_1 : Int) p13 q13
   replace p13 := eq_true p13
   replace q13 := eq_true q13
   have HP17 := Kd.R_putn HO_3.out (x4_1 : Int) (Go.bits .or .u32 (rd y559 x4_1) (((Go.bits .and .u32 (rd l0 (ji11)) 1) * 32768) % 4294967296))
   rw [← Ny562.out] at HP17
   have HQ17 := Aside0.mk HP17
   clear HP17
   refine start_ (n := 16) (S := fun w' => w'.cell? ⟨go9, (x4_1).toNat, none⟩ = some (.int .u32 (rd y559 x4_1)) ∧ w'.cell? (ad558.add ((ji11)).toNat) = some (.int .u32 (rd l0 (ji11)))) (ds := [15]) #[false, false, false, false, false, false, false, false, false, false, false, false, false, false, false, false] (by kernel_rfl) rfl rfl ⟨hx560_0, ((HB.out.cell (World.block_lt_of_cell? w _ hw561_0)).trans hw561_0)⟩ (fun hHeld => ?_); refine with_tabW endonymref2_half.tab7 endonymref2_half.bits7 (fun HT_ HW_ => ?_)
   generalize w15.drew = w16 at HO_3 HB HQ17 hf13_0 hx13_0 hx560_0 hx561_0 hHeld ⊢
   refine pure_ (i := 0) (N := some 27) (v := ?_) (a' := ?_) #[true, false, false, false, false, false, false, false, false, false, false, false, false, false, false, false] rfl rfl (any_of HT_.out (by kernel_rfl)) (fun _ _ _ h => h) (Or.inl ⟨by rfl, ?_⟩) ?_ ?_
   rotate_left
   ·intro w'
    go_simp
    with_reducible rfl
   rotate_left
   ·simp only [Act.put, List.setIfInBounds_toArray, List.set_cons_zero, List.set_cons_succ, i64_w, i32_w]
    rfl
   refine pure_ (i := 1) (N := some 28) (v := ?_) (a' := ?_) #[true, true, false, false, false, false, false, false, false, false, false, false, false, false, false, false] rfl rfl (any_of HT_.out (by kernel_rfl)) (fun _ _ _ h => h) (Or.inl ⟨by rfl, ?_⟩) ?_ ?_
   rotate_left
   ·intro w'
    go_simp
    with_reducible rfl
   rotate_left
   ·simp only [Act.put, List.setIfInBounds_toArray, List.set_cons_zero, List.set_cons_succ, i64_w, i32_w]
    rfl
   refine pure_ (i := 2) (N := some 29) (v := ?_) (a' := ?_) #[true, true, true, false, false, false, false, false, false, false, false, false, false, false, false, false] rfl rfl (any_of HT_.out (by kernel_rfl)) (fun _ _ _ h => h) (Or.inl ⟨by rfl, ?_⟩) ?_ ?_
   rotate_left
   ·intro w'
    go_simp
    with_reducible rfl
   rotate_left
   ·simp only [Act.put, List.setIfInBounds_toArray, List.set_cons_zero, List.set_cons_succ, i64_w, i32_w]
    rfl
   refine pure_ (i := 3) (N := some 30) (v := ?_) (a' := ?_) #[true, true, true, true, false, false, false, false, false, false, false, false, false, false, false, false] rfl rfl (any_of HT_.out (by kernel_rfl)) (fun _ _ _ h => h) (Or.inl ⟨by rfl, ?_⟩) ?_ ?_
   rotate_left
   ·intro w'
    go_simp
    with_reducible rfl
   rotate_left
   ·simp only [Act.put, List.setIfInBounds_toArray, List.set_cons_zero, List.set_cons_succ, i64_w, i32_w]
    rfl
   refine pure_ (i := 4) (N := some 31) (v := ?_) (a' := ?_) #[true, true, true, true, true, false, false, false, false, false, false, false, false, false, false, false] rfl rfl (any_of HT_.out (by kernel_rfl)) (fun _ _ _ h => h) (Or.inl ⟨by rfl, ?_⟩) ?_ ?_
   rotate_left
   ·intro w'
    go_simp
    with_reducible rfl
   rotate_left
   ·simp only [Act.put, List.setIfInBounds_toArray, List.set_cons_zero, List.set_cons_succ, i64_w, i32_w]
    rfl
   refine pure_ (i := 6) (N := some 33) (v := ?_) (a' := ?_) #[true, true, true, true, true, false, true, false, false, false, false, false, false, false, false, false] rfl rfl (any_of HT_.out (by kernel_rfl)) (fun _ _ _ h => h) (Or.inl ⟨by rfl, ?_⟩) ?_ ?_
   rotate_left
   ·intro w'
    go_simp
    with_reducible rfl
   rotate_left
   ·simp only [Act.put, List.setIfInBounds_toArray, List.set_cons_zero, List.set_cons_succ, i64_w, i32_w]
    rfl
   refine pure_ (i := 7) (N := some 34) (v := ?_) (a' := ?_) #[true, true, true, true, true, false, true, true, false, false, false, false, false, false, false, false] rfl rfl (any_of HT_.out (by kernel_rfl)) (fun _ _ _ h => h) (Or.inl ⟨by rfl, ?_⟩) ?_ ?_
   rotate_left
   ·intro w'
    go_simp
    with_reducible rfl
   rotate_left
   ·simp only [Act.put, List.setIfInBounds_toArray, List.set_cons_zero, List.set_cons_succ, i64_w, i32_w]
    rfl
   refine pure_ (i := 8) (N := some 35) (v := ?_) (a' := ?_) #[true, true, true, true, true, false, true, true, true, false, false, false, false, false, false, false] rfl rfl (any_of HT_.out (by kernel_rfl)) (fun _ _ _ h => h) (Or.inl ⟨by rfl, ?_⟩) ?_ ?_
   rotate_left
   ·intro w'
    go_simp
    with_reducible rfl
   rotate_left
   ·simp only [Act.put, List.setIfInBounds_toArray, List.set_cons_zero, List.set_cons_succ, i64_w, i32_w]
    rfl
   refine pure_ (i := 9) (N := some 36) (v := ?_) (a' := ?_) #[true, true, true, true, true, false, true, true, true, true, false, false, false, false, false, false] rfl rfl (any_of HT_.out (by kernel_rfl)) (fun _ _ _ h => h) (Or.inl ⟨by rfl, ?_⟩) ?_ ?_
   rotate_left
   ·intro w'
    go_simp
    with_reducible rfl
   rotate_left
   ·simp only [Act.put, List.setIfInBounds_toArray, List.set_cons_zero, List.set_cons_succ, i64_w, i32_w]
    rfl
   refine take_ (i := 5) (N := some 32) (v := ?_) (a' := ?_) #[true, true, true, true, true, true, true, true, true, true, false, false, false, false, false, false] rfl rfl (take_ofW HT_.out HW_.out (by kernel_rfl)) (fun _ _ _ h => h) (Or.inl ⟨by rfl, ?_⟩) hHeld ?_ ?_
   rotate_left
   ·rintro w' ⟨s0, s1⟩
    go_simp
    with_reducible rfl
   rotate_left
   ·simp only [Act.put, List.setIfInBounds_toArray, List.set_cons_zero, List.set_cons_succ, i64_w, i32_w]
    rfl
   refine take_ (i := 10) (N := some 37) (v := ?_) (a' := ?_) #[true, true, true, true, true, true, true, true, true, true, true, false, false, false, false, false] rfl rfl (take_ofW HT_.out HW_.out (by kernel_rfl)) (fun _ _ _ h => h) (Or.inl ⟨by rfl, ?_⟩) hHeld ?_ ?_
   rotate_left
   ·rintro w' ⟨s0, s1⟩
    go_simp
    with_reducible rfl
   rotate_left
   ·simp only [Act.put, List.setIfInBounds_toArray, List.set_cons_zero, List.set_cons_succ, i64_w, i32_w]
    rfl
   refine pure_ (i := 11) (N := some 38) (v := ?_) (a' := ?_) #[true, true, true, true, true, true, true, true, true, true, true, true, false, false, false, false] rfl rfl (any_of HT_.out (by kernel_rfl)) (fun _ _ _ h => h) (Or.inl ⟨by rfl, ?_⟩) ?_ ?_
   rotate_left
   ·intro w'
    go_simp
    with_reducible rfl
   rotate_left
   ·simp only [Act.put, List.setIfInBounds_toArray, List.set_cons_zero, List.set_cons_succ, i64_w, i32_w]
    rfl
   refine pure_ (i := 12) (N := some 39) (v := ?_) (a' := ?_) #[true, true, true, true, true, true, true, true, true, true, true, true, true, false, false, false] rfl rfl (any_of HT_.out (by kernel_rfl)) (fun _ _ _ h => h) (Or.inl ⟨by rfl, ?_⟩) ?_ ?_
   rotate_left
   ·intro w'
    go_simp
    with_reducible rfl
   rotate_left
   ·simp only [Act.put, List.setIfInBounds_toArray, List.set_cons_zero, List.set_cons_succ, i64_w, i32_w]
    rfl
   refine pure_ (i := 13) (N := some 40) (v := ?_) (a' := ?_) #[true, true, true, true, true, true, true, true, true, true, true, true, true, true, false, false] rfl rfl (any_of HT_.out (by kernel_rfl)) (fun _ _ _ h => h) (Or.inl ⟨by rfl, ?_⟩) ?_ ?_
   rotate_left
   ·intro w'
    go_simp
    with_reducible rfl
   rotate_left
   ·simp only [Act.put, List.setIfInBounds_toArray, List.set_cons_zero, List.set_cons_succ, i64_w, i32_w]
    rfl
   refine pure_ (i := 14) (N := some 41) (v := ?_) (a' := ?_) #[true, true, true, true, true, true, true, true, true, true, true, true, true, true, true, false] rfl rfl (any_of HT_.out (by kernel_rfl)) (fun _ _ _ h => h) (Or.inl ⟨by rfl, ?_⟩) ?_ ?_
   rotate_left
   ·intro w'
    go_simp
    with_reducible rfl
   rotate_left
   ·simp only [Act.put, List.setIfInBounds_toArray, List.set_cons_zero, List.set_cons_succ, i64_w, i32_w]
    rfl
   refine last_ (i := 15) (N := none) #[true, true, true, true, true, true, true, true, true, true, true, true, true, true, true, true] rfl rfl (one_of HT_.out (by kernel_rfl)) (by decide) (fun K hK => ?_)
   refine skip_ (w1 := ?_) (by rfl) rfl ?_ ?_
   rotate_left
   ·go_simp
    rfl
   refine hK.out _ _ ?_
   clear hK K
   refine done_ (done_of HT_.out (by kernel_rfl)) ?_
   try go_wp2
   go_roundg k1
   case measure => have := HK1.out; omega
   case rel => exact ⟨(y562), (ji11), (by first | rfl | (simp; done) | (simp only [← hji11] <;> (first | rfl | simp)) | (simp [*]; done)), H', ⟨by have := HK1.out; omega⟩, ⟨sqR HQ17.out⟩, ⟨by repeat (first | (with_reducible first | exact HB.out | apply below_alloc | apply pw_below_drewN | apply below_drew1 | refine below_set ?_ GB9.out) | exact HB.out)⟩⟩
def endonymref2_Over.l0 : Nat → List Int → List Int → List Int → Int → Option (List Int × List Int)
 | 0, _, _, _, _ => none
 | k + 1, x0, x6, x8, x9 => if x9 ≥ 0 then ((endonymref2_Times.f k x6 2 0).bind fun t574 => ((endonymref2_Cmp.f k x0 x8).bind fun t577 => (if t577 ≥ 0 then ((endonymref2_Less.f k x0 x8).bind fun t578 => ((endonymref2_Of.f k 1).bind fun t581 => ((endonymref2_Plus.f k t574 t581).bind fun t584 => ((endonymref2_half.f k x8).bind fun t587 => (endonymref2_Over.l0 k t578 t584 t587 (wrap64 (x9 - 1))))))) else ((endonymref2_half.f k x8).bind fun t590 => (endonymref2_Over.l0 k x0 t574 t590 (wrap64 (x9 - 1))))))) else ((endonymref2_trim.f k x6).bind fun t571 => (some (t571, x0)))
def endonymref2_Over.f (k : Nat) (l0 : List Int) (l1 : List Int) : Option (List Int × List Int) := (endonymref2_Length.f k l0).bind fun t566 => ((endonymref2_Length.f k l1).bind fun t567 => (if (wrap64 (t566 - t567)) < 0 then (some (([] : List Int), l0)) else ((endonymref2_Left.f k l1 (wrap64 (t566 - t567))).bind fun t568 => (endonymref2_Over.l0 k l0 ([] : List Int) t568 (wrap64 (t566 - t567))))))
theorem endonymref2_Over.mono_l : ∀ k, (∀ y0 y1 y2 y3, LeO (endonymref2_Over.l0 k y0 y1 y2 y3) (endonymref2_Over.l0 (k + 1) y0 y1 y2 y3))
 | 0 => fun _ _ _ _ r h => by simp [endonymref2_Over.l0] at h
 | k + 1 => by
  have ih0 := endonymref2_Over.mono_l k
  intro y0 y1 y2 y3
  unfold endonymref2_Over.l0
  repeat' first | (with_reducible first | apply ih0 | apply endonymref2_Cmp.mono | apply endonymref2_Left.mono | apply endonymref2_Length.mono | apply endonymref2_Less.mono | apply endonymref2_Of.mono | apply endonymref2_Plus.mono | apply endonymref2_Times.mono | apply endonymref2_half.mono | apply endonymref2_trim.mono | apply LeO.refl | apply LeO.none | refine LeO.ite ?_ ?_ | refine LeO.bind ?_ (fun _ => ?_)) | apply LeO.none | refine LeO.ite ?_ ?_ | refine LeO.bind ?_ (fun _ => ?_)
theorem endonymref2_Over.mono : ∀ a0 a1 k, LeO (endonymref2_Over.f k a0 a1) (endonymref2_Over.f (k + 1) a0 a1) := by
 intro a0 a1 k
 have ih0 := endonymref2_Over.mono_l k
 unfold endonymref2_Over.f
 repeat' first | (with_reducible first | apply ih0 | apply endonymref2_Cmp.mono | apply endonymref2_Left.mono | apply endonymref2_Length.mono | apply endonymref2_Less.mono | apply endonymref2_Of.mono | apply endonymref2_Plus.mono | apply endonymref2_Times.mono | apply endonymref2_half.mono | apply endonymref2_trim.mono | apply LeO.refl | apply LeO.none | refine LeO.ite ?_ ?_ | refine LeO.bind ?_ (fun _ => ?_)) | apply LeO.none | refine LeO.ite ?_ ?_ | refine LeO.bind ?_ (fun _ => ?_)
theorem endonymref2_Over.calls (k : Nat) (P0_ : Nat → Prop) (A0 : Option Addr) (c0 : Nat) (l0 : List Int) (A1 : Option Addr) (c1 : Nat) (l1 : List Int) (r1 : List Int) (r2 : List Int) (w : World) (hs0 : Kd.V (Kd.int .u32) 83 w w.heap.size (fun k_ => P0_ k_) (.slice A0 l0.length c0) l0) (hr1 : Kd.C (Kd.int .u32) w A1 l1.length l1) (hc1 : l1.length ≤ c1) (h : endonymref2_Over.f k l0 l1 = some (r1, r2)) :
  Calls Tryz.prog 77 #[.slice A0 l0.length c0, .slice A1 l1.length c1] w fun e w' => ∃ v0_ v1_ : Value, e = .returned (.tuple #[v0_, v1_]) ∧ Kd.R (Kd.int .u32) 83 w' w.heap.size (fun k_ => (w.heap.size ≤ k_)) v0_ r1 ∧ Kd.V (Kd.int .u32) 83 w' w.heap.size (fun k_ => (P0_ k_ ∨ w.heap.size ≤ k_) ∧ some k_ ≠ (v0_ : Value).ownBlock) v1_ r2 ∧ Below w.heap.size w w' := by
 have HO0 := Aside0.mk (show Kd.V (Kd.int .u32) 83 w w.heap.size (fun k_ => (P0_ k_ ∨ w.heap.size ≤ k_)) (.slice A0 l0.length c0) l0 from Kd.V_mono hs0 (fun k_ hk => .inl hk))
 have HR1 := Aside0.mk hr1
 have HC1 := Aside0.mk hc1
 clear hr1 hc1
 have HB := Aside0.mk (Below.refl w.heap.size w)
 have H : ((endonymref2_Length.f k l0).bind fun t566 => ((endonymref2_Length.f k l1).bind fun t567 => (if (wrap64 (t566 - t567)) < 0 then (some (([] : List Int), l0)) else ((endonymref2_Left.f k l1 (wrap64 (t566 - t567))).bind fun t568 => (endonymref2_Over.l0 k l0 ([] : List Int) t568 (wrap64 (t566 - t567))))))) = some (r1, r2) := h
 clear h
 obtain ⟨t566, A3, H⟩ := sqO H
 try dsimp only at H
 obtain ⟨t567, A4, H⟩ := sqO H
 try dsimp only at H
 by_cases c5 : (wrap64 (t566 - t567)) < 0
 ·rw [if_pos c5] at H
  have c5b0 := decide_eq_true c5
  clear c5
  simp only [Option.some.injEq, Prod.mk.injEq] at H
  obtain ⟨rfl, rfl⟩ := H
  go_enter Tryz.func77, Tryz.ntmps77
  go_wp2_with (first | ((with_reducible refine gate_callee (f := 75) rfl ?_); refine goesL_ (some 11) rfl rfl Tryz.func75 (by kernel_rfl) rfl #[.slice A0 l0.length c0] rfl sqA ?_; (with_reducible refine (endonymref2_Length.calls k _ _ l0 t566 _ ?side1 ?side2 A3.out).mono ?_); (case side1 => repeat (first | exact (Kd.V_reads' HO0.out).2.2 | (with_reducible refine Kd.C_alloc ?_ _) | (with_reducible refine Kd.C_drewN ?_ _) | (with_reducible refine Kd.C_drew ?_))); (case side2 => exact (Kd.V_reads' HO0.out).2.1); rintro e w' ⟨rfl, ⟨nd, rfl⟩⟩; refine ⟨_, rfl, ?_⟩) | ((with_reducible refine gate_callee (f := 75) rfl ?_); refine goesL_ (some 13) rfl rfl Tryz.func75 (by kernel_rfl) rfl #[.slice A1 l1.length c1] rfl sqA ?_; (with_reducible refine (endonymref2_Length.calls k _ _ l1 t567 _ ?side1 ?side2 A4.out).mono ?_); (case side1 => repeat (first | exact HR1.out | (with_reducible refine Kd.C_alloc ?_ _) | (with_reducible refine Kd.C_drewN ?_ _) | (with_reducible refine Kd.C_drew ?_))); (case side2 => exact HC1.out); rintro e w' ⟨rfl, ⟨nd, rfl⟩⟩; refine ⟨_, rfl, ?_⟩))
  go_ret2
  exact ⟨_, _, sqE', by first | exact Kd.R_nil _ _ _ _ _ | exact Kd.N_nil _ _ _ _ _ | exact Kd.V_nil _ _ _ _ _ | exact Kd.Q_nil _ _ _ _ _ | exact Kd.S_nil _ _ _ _ _, by (with_reducible repeat (first | apply Kd.V_alloc | apply Kd.V_drewN | apply Kd.V_drew)); exact Kd.V_mono HO0.out (fun _ hk => ⟨hk, (by simp [Value.ownBlock])⟩), sqB⟩
 rw [if_neg c5] at H
 have c5b0 := decide_eq_false c5
 clear c5
 obtain ⟨t568, A6, H⟩ := sqO H
 try dsimp only at H
 have H' := Aside0.mk H
 clear H
 go_enter Tryz.func77, Tryz.ntmps77
 go_wp2_with (first | ((with_reducible refine gate_callee (f := 75) rfl ?_); refine goesL_ (some 11) rfl rfl Tryz.func75 (by kernel_rfl) rfl #[.slice A0 l0.length c0] rfl sqA ?_; (with_reducible refine (endonymref2_Length.calls k _ _ l0 t566 _ ?side1 ?side2 A3.out).mono ?_); (case side1 => repeat (first | exact (Kd.V_reads' HO0.out).2.2 | (with_reducible refine Kd.C_alloc ?_ _) | (with_reducible refine Kd.C_drewN ?_ _) | (with_reducible refine Kd.C_drew ?_))); (case side2 => exact (Kd.V_reads' HO0.out).2.1); rintro e w' ⟨rfl, ⟨nd, rfl⟩⟩; refine ⟨_, rfl, ?_⟩) | ((with_reducible refine gate_callee (f := 75) rfl ?_); refine goesL_ (some 13) rfl rfl Tryz.func75 (by kernel_rfl) rfl #[.slice A1 l1.length c1] rfl sqA ?_; (with_reducible refine (endonymref2_Length.calls k _ _ l1 t567 _ ?side1 ?side2 A4.out).mono ?_); (case side1 => repeat (first | exact HR1.out | (with_reducible refine Kd.C_alloc ?_ _) | (with_reducible refine Kd.C_drewN ?_ _) | (with_reducible refine Kd.C_drew ?_))); (case side2 => exact HC1.out); rintro e w' ⟨rfl, ⟨nd, rfl⟩⟩; refine ⟨_, rfl, ?_⟩) | ((with_reducible refine gate_callee (f := 74) rfl ?_); refine goesL_ (some 20) rfl rfl Tryz.func74 (by kernel_rfl) rfl #[.slice A1 l1.length c1, .int .i64 (wrap64 (t566 - t567))] rfl sqA ?_; (with_reducible refine (endonymref2_Left.calls k _ _ l1 (wrap64 (t566 - t567)) t568 _ ?side1 ?side2 A6.out).mono ?_); (case side1 => repeat (first | exact HR1.out | (with_reducible refine Kd.C_alloc ?_ _) | (with_reducible refine Kd.C_drewN ?_ _) | (with_reducible refine Kd.C_drew ?_))); (case side2 => exact HC1.out); rintro e w7 ⟨v569, rfl, ho0, hb⟩; refine ⟨_, rfl, ?_⟩; have n0_ := Aside0.mk (Kd.V_elder' (sqV HO0.out) (Kd.R_base ho0) hb); have n1_ := Aside0.mk (Kd.R_lower (Kd.R_newM (M := fun k_ => (w.heap.size ≤ k_)) ho0 (below_size sqB) (fun k_ h_ => h_)) (below_size sqB)); have n2_ := Aside0.mk (below_step sqB hb); clear HO0; clear HB; have HO0 := n0_; have HO570 := n1_; have HB := n2_; clear n0_ n1_ n2_; (try clear hb); (try clear hb2); (try clear hk); (try clear hi); (try clear ho0)))
 try simp only [Act.put, List.setIfInBounds_toArray, List.set_cons_zero, List.set_cons_succ]
 go_loopg [0, 6, 8, 9] k (fun kq v0 v6 v8 v9 w' => ∃ (x0_1 : List Int) (x6_1 : List Int) (x8_1 : List Int) (x9_1 : Int), v9 = .int .i64 x9_1 ∧ Aside0 (endonymref2_Over.l0 kq x0_1 x6_1 x8_1 x9_1 = some (r1, r2)) ∧ Aside0 (kq ≤ k) ∧ Aside0 (Kd.V (Kd.int .u32) 83 w' w.heap.size (fun k_ => (P0_ k_ ∨ w.heap.size ≤ k_) ∧ some k_ ≠ (v6 : Value).ownBlock ∧ some k_ ≠ (v8 : Value).ownBlock) v0 x0_1) ∧ Aside0 (Kd.R (Kd.int .u32) 83 w' w.heap.size (fun k_ => (w.heap.size ≤ k_) ∧ some k_ ≠ (v8 : Value).ownBlock) v6 x6_1) ∧ Aside0 (Kd.R (Kd.int .u32) 83 w' w.heap.size (fun k_ => (w.heap.size ≤ k_) ∧ some k_ ≠ (v6 : Value).ownBlock) v8 x8_1) ∧ Aside0 (Below w.heap.size w w'))
 case atStart => exact ⟨(l0), (([] : List Int)), (t568), (wrap64 (t566 - t567)), sqE, H', ⟨Nat.le_refl _⟩, ⟨by (with_reducible repeat (first | apply Kd.V_alloc | apply Kd.V_drewN | apply Kd.V_drew)); exact Kd.V_mono HO0.out (fun _ hk => ⟨hk.1, ⟨(by simp [Value.ownBlock]), hk.2⟩⟩)⟩, ⟨by first | exact Kd.R_nil _ _ _ _ _ | exact Kd.N_nil _ _ _ _ _ | exact Kd.V_nil _ _ _ _ _ | exact Kd.Q_nil _ _ _ _ _ | exact Kd.S_nil _ _ _ _ _⟩, ⟨by (with_reducible repeat (first | apply Kd.R_alloc | apply Kd.R_drewN | apply Kd.R_drew)); exact Kd.R_mono HO570.out (fun _ hk => ⟨hk.1, (by simp [Value.ownBlock])⟩)⟩, ⟨sqB⟩⟩
 case round =>
  clear H'
  try clear c1
  try clear p2
  try clear c5
  try clear c5b0
  try clear p6
  try clear c7
  obtain ⟨x0_1, x6_1, x8_1, x9_1, rfl, HA, HK1, HO_0, HO_6, HO_8, HB⟩ := hrel
  cases gk with
  | zero => exact absurd HA.out (by simp [endonymref2_Over.l0])
  | succ k1 =>
   have H := HA.out
   clear HA
   simp only [endonymref2_Over.l0] at H
   by_cases c8 : x9_1 ≥ 0
   case neg =>
    rw [if_neg c8] at H
    have c8b0 := decide_eq_false c8
    clear c8
    obtain ⟨t571, A32, H⟩ := sqO H
    try dsimp only at H
    simp only [Option.some.injEq, Prod.mk.injEq] at H
    obtain ⟨rfl, rfl⟩ := H
    obtain ⟨Ao33, co33, eo33⟩ := Kd.R_slice HO_6.out
    subst eo33
    go_wp2_with (first | ((with_reducible refine gate_callee (f := 89) rfl ?_); refine goesL_ (some 41) rfl rfl Tryz.func89 (by kernel_rfl) rfl #[.slice Ao33 x6_1.length co33] rfl sqA ?_; (with_reducible refine (endonymref2_trim.calls k1 (fun k_ => some k_ = (.slice Ao33 x6_1.length co33 : Value).ownBlock) (.slice Ao33 x6_1.length co33) x6_1 t571 w _ ?side1 ?side2 A32.out).mono ?_); (case side1 => repeat (first | (with_reducible first | exact HB.out | apply below_alloc | apply pw_below_drewN | apply below_drew1) | exact HB.out)); (case side2 => exact Kd.R_tight rfl HO_6.out); rintro e w34 ⟨v572, rfl, ho0, hb, hkp⟩; refine ⟨_, rfl, ?_⟩; have n0_ := Aside0.mk (Kd.V_mono (ok' := fun k_ => (P0_ k_ ∨ w.heap.size ≤ k_) ∧ some k_ ≠ (u8 : Value).ownBlock ∧ some k_ ≠ (v572 : Value).ownBlock) (Kd.V_keptB (HO_0.out) hkp (fun k_ hk_ hs_ => (hk_.2.1) hs_)) (fun k_ hk_ => ⟨hk_.1.1, hk_.1.2.2, fun e_ => Or.elim (ho0.1 k_ e_.symm) (fun hs_ => hk_.2.1 hs_) (fun hn_ => Nat.not_le.2 hk_.2.2 hn_)⟩)); have n1_ := Aside0.mk (Kd.R_mono (ok' := fun k_ => (w.heap.size ≤ k_) ∧ some k_ ≠ (v572 : Value).ownBlock) (Kd.R_keptB (HO_8.out) hkp (fun k_ hk_ hs_ => (hk_.2) hs_)) (fun k_ hk_ => ⟨hk_.1.1, fun e_ => Or.elim (ho0.1 k_ e_.symm) (fun hs_ => hk_.2.1 hs_) (fun hn_ => Nat.not_le.2 hk_.2.2 hn_)⟩)); have n2_ := Aside0.mk (Kd.R_mono (ok' := fun k_ => (w.heap.size ≤ k_) ∧ some k_ ≠ (u8 : Value).ownBlock) ho0 (fun k_ hk_ => ⟨Or.elim hk_ (fun hs_ => (HO_6.out.1 k_ (hs_).symm).1) (fun hn_ => (Nat.le_trans (below_size sqB) hn_)), Or.elim hk_ (fun hs_ => fun e_ => (((HO_8.out).1 k_ e_.symm).2) hs_) (fun hn_ => (Kd.fresh' (Kd.R_lt (sqR HO_8.out)) k_ hn_))⟩)); have n3_ := Aside0.mk (hb); clear HO_0; clear HO_8; clear HB; clear HO_6; have HO_0 := n0_; have HO_8 := n1_; have HO573 := n2_; have HB := n3_; clear n0_ n1_ n2_ n3_; (try clear hb); (try clear hkp); (try clear ho0)))
    go_ret2
    exact ⟨_, _, sqE', by (with_reducible repeat (first | apply Kd.R_alloc | apply Kd.R_drewN | apply Kd.R_drew)); exact Kd.R_mono HO573.out (fun _ hk => hk.1), by (with_reducible repeat (first | apply Kd.V_alloc | apply Kd.V_drewN | apply Kd.V_drew)); exact Kd.V_mono HO_0.out (fun _ hk => ⟨hk.1, hk.2.2⟩), sqB⟩
   rw [if_pos c8] at H
   have c8b0 := decide_eq_true c8
   clear c8
   obtain ⟨t574, A9, H⟩ := sqO H
   try dsimp only at H
   obtain ⟨t577, A10, H⟩ := sqO H
   try dsimp only at H
   by_cases c11 : t577 ≥ 0
   case neg =>
    rw [if_neg c11] at H
    have c11b0 := decide_eq_false c11
    clear c11
    obtain ⟨t590, A26, H⟩ := sqO H
    try dsimp only at H
    have H' := Aside0.mk H
    clear H
    obtain ⟨Ao27, co27, eo27⟩ := Kd.R_slice HO_6.out
    subst eo27
    go_wp2_with (first | ((with_reducible refine gate_callee (f := 61) rfl ?_); refine goesL_ (some 27) rfl rfl Tryz.func61 (by kernel_rfl) rfl #[.slice Ao27 x6_1.length co27, .int .u32 2, .int .u32 0] rfl sqA ?_; (with_reducible refine (endonymref2_Times.calls k1 _ _ x6_1 2 0 t574 _ ?side1 ?side2 A9.out).mono ?_); (case side1 => repeat (first | exact (Kd.R_reads' HO_6.out).2.2 | (with_reducible refine Kd.C_alloc ?_ _) | (with_reducible refine Kd.C_drewN ?_ _) | (with_reducible refine Kd.C_drew ?_))); (case side2 => exact (Kd.R_reads' HO_6.out).2.1); rintro e w28 ⟨v575, rfl, ho0, hb⟩; refine ⟨_, rfl, ?_⟩; have n0_ := Aside0.mk (Kd.V_elder' (sqV HO_0.out) (Kd.R_base ho0) hb); have n1_ := Aside0.mk (Kd.R_elder' (sqR HO_6.out) (Kd.R_base ho0) hb); have n2_ := Aside0.mk (Kd.R_elder' (sqR HO_8.out) (Kd.R_base ho0) hb); have n3_ := Aside0.mk (Kd.R_lower (Kd.R_new' (Kd.R_new' (Kd.R_newM (M := fun k_ => (w.heap.size ≤ k_)) ho0 (below_size sqB) (fun k_ h_ => h_)) (Kd.R_lt (sqR HO_6.out))) (Kd.R_lt (sqR HO_8.out))) (below_size sqB)); have n4_ := Aside0.mk (below_step sqB hb); clear HO_0; clear HO_6; clear HO_8; clear HB; have HO_0 := n0_; have HO_6 := n1_; have HO_8 := n2_; have HO576 := n3_; have HB := n4_; clear n0_ n1_ n2_ n3_ n4_; (try clear hb); (try clear hb2); (try clear hk); (try clear hi); (try clear ho0); obtain ⟨Ao29, co29, eo29⟩ := Kd.V_slice HO_0.out; subst eo29; obtain ⟨Ao30, co30, eo30⟩ := Kd.R_slice HO_8.out; subst eo30) | ((with_reducible refine gate_callee (f := 80) rfl ?_); refine goesL_ (some 30) rfl rfl Tryz.func80 (by kernel_rfl) rfl #[.slice Ao29 x0_1.length co29, .slice Ao30 x8_1.length co30] rfl sqA ?_; (with_reducible refine (endonymref2_Cmp.calls k1 _ _ x0_1 _ _ x8_1 t577 _ ?side1 ?side2 ?side3 ?side4 A10.out).mono ?_); (case side1 => repeat (first | exact (Kd.V_reads' HO_0.out).2.2 | (with_reducible refine Kd.C_alloc ?_ _) | (with_reducible refine Kd.C_drewN ?_ _) | (with_reducible refine Kd.C_drew ?_))); (case side2 => exact (Kd.V_reads' HO_0.out).2.1); (case side3 => repeat (first | exact (Kd.R_reads' HO_8.out).2.2 | (with_reducible refine Kd.C_alloc ?_ _) | (with_reducible refine Kd.C_drewN ?_ _) | (with_reducible refine Kd.C_drew ?_))); (case side4 => exact (Kd.R_reads' HO_8.out).2.1); rintro e w' ⟨rfl, ⟨nd, rfl⟩⟩; refine ⟨_, rfl, ?_⟩) | ((with_reducible refine gate_callee (f := 100) rfl ?_); refine goesL_ (some 39) rfl rfl Tryz.func100 (by kernel_rfl) rfl #[.slice Ao30 x8_1.length co30] rfl sqA ?_; (with_reducible refine (endonymref2_half.calls k1 _ _ x8_1 t590 _ ?side1 ?side2 A26.out).mono ?_); (case side1 => repeat (first | exact (Kd.R_reads' HO_8.out).2.2 | (with_reducible refine Kd.C_alloc ?_ _) | (with_reducible refine Kd.C_drewN ?_ _) | (with_reducible refine Kd.C_drew ?_))); (case side2 => exact (Kd.R_reads' HO_8.out).2.1); rintro e w31 ⟨v591, rfl, ho0, hb⟩; refine ⟨_, rfl, ?_⟩; have n0_ := Aside0.mk (Kd.V_elder' (sqV HO_0.out) (Kd.R_base ho0) hb); have n1_ := Aside0.mk (Kd.R_elder' (sqR HO_6.out) (Kd.R_base ho0) hb); have n2_ := Aside0.mk (Kd.R_elder' (sqR HO_8.out) (Kd.R_base ho0) hb); have n3_ := Aside0.mk (Kd.R_elder' (sqR HO576.out) (Kd.R_base ho0) hb); have n4_ := Aside0.mk (Kd.R_lower (Kd.R_new' (Kd.R_new' (Kd.R_new' (Kd.R_newM (M := fun k_ => (w.heap.size ≤ k_)) ho0 (below_size sqB) (fun k_ h_ => h_)) (Kd.R_lt (sqR HO_6.out))) (Kd.R_lt (sqR HO_8.out))) (Kd.R_lt (sqR HO576.out))) (below_size sqB)); have n5_ := Aside0.mk (below_step sqB hb); clear HO_0; clear HO_6; clear HO_8; clear HO576; clear HB; have HO_0 := n0_; have HO_6 := n1_; have HO_8 := n2_; have HO576 := n3_; have HO592 := n4_; have HB := n5_; clear n0_ n1_ n2_ n3_ n4_ n5_; (try clear hb); (try clear hb2); (try clear hk); (try clear hi); (try clear ho0)))
    go_roundg k1
    case measure => have := HK1.out; omega
    case rel => exact ⟨(x0_1), (t574), (t590), (wrap64 (x9_1 - 1)), sqE, H', ⟨by have := HK1.out; omega⟩, ⟨by (with_reducible repeat (first | apply Kd.V_alloc | apply Kd.V_drewN | apply Kd.V_drew)); exact Kd.V_mono HO_0.out (fun _ hk => ⟨hk.1.1.1, ⟨hk.1.2, hk.2⟩⟩)⟩, ⟨by (with_reducible repeat (first | apply Kd.R_alloc | apply Kd.R_drewN | apply Kd.R_drew)); exact Kd.R_mono HO576.out (fun _ hk => ⟨hk.1.1.1.1, hk.2⟩)⟩, ⟨by (with_reducible repeat (first | apply Kd.R_alloc | apply Kd.R_drewN | apply Kd.R_drew)); exact Kd.R_mono HO592.out (fun _ hk => ⟨hk.1.1.1.1, hk.2⟩)⟩, ⟨sqB⟩⟩
   rw [if_pos c11] at H
   have c11b0 := decide_eq_true c11
   clear c11
   obtain ⟨t578, A12, H⟩ := sqO H
   try dsimp only at H
   obtain ⟨t581, A13, H⟩ := sqO H
   try dsimp only at H
   obtain ⟨t584, A14, H⟩ := sqO H
   try dsimp only at H
   obtain ⟨t587, A15, H⟩ := sqO H
   try dsimp only at H
   have H' := Aside0.mk H
   clear H
   obtain ⟨Ao16, co16, eo16⟩ := Kd.R_slice HO_6.out
   subst eo16
   go_wp2_with (first | ((with_reducible refine gate_callee (f := 61) rfl ?_); refine goesL_ (some 27) rfl rfl Tryz.func61 (by kernel_rfl) rfl #[.slice Ao16 x6_1.length co16, .int .u32 2, .int .u32 0] rfl sqA ?_; (with_reducible refine (endonymref2_Times.calls k1 _ _ x6_1 2 0 t574 _ ?side1 ?side2 A9.out).mono ?_); (case side1 => repeat (first | exact (Kd.R_reads' HO_6.out).2.2 | (with_reducible refine Kd.C_alloc ?_ _) | (with_reducible refine Kd.C_drewN ?_ _) | (with_reducible refine Kd.C_drew ?_))); (case side2 => exact (Kd.R_reads' HO_6.out).2.1); rintro e w17 ⟨v575, rfl, ho0, hb⟩; refine ⟨_, rfl, ?_⟩; have n0_ := Aside0.mk (Kd.V_elder' (sqV HO_0.out) (Kd.R_base ho0) hb); have n1_ := Aside0.mk (Kd.R_elder' (sqR HO_6.out) (Kd.R_base ho0) hb); have n2_ := Aside0.mk (Kd.R_elder' (sqR HO_8.out) (Kd.R_base ho0) hb); have n3_ := Aside0.mk (Kd.R_lower (Kd.R_new' (Kd.R_new' (Kd.R_newM (M := fun k_ => (w.heap.size ≤ k_)) ho0 (below_size sqB) (fun k_ h_ => h_)) (Kd.R_lt (sqR HO_6.out))) (Kd.R_lt (sqR HO_8.out))) (below_size sqB)); have n4_ := Aside0.mk (below_step sqB hb); clear HO_0; clear HO_6; clear HO_8; clear HB; have HO_0 := n0_; have HO_6 := n1_; have HO_8 := n2_; have HO576 := n3_; have HB := n4_; clear n0_ n1_ n2_ n3_ n4_; (try clear hb); (try clear hb2); (try clear hk); (try clear hi); (try clear ho0); obtain ⟨Ao18, co18, eo18⟩ := Kd.V_slice HO_0.out; subst eo18; obtain ⟨Ao19, co19, eo19⟩ := Kd.R_slice HO_8.out; subst eo19) | ((with_reducible refine gate_callee (f := 80) rfl ?_); refine goesL_ (some 30) rfl rfl Tryz.func80 (by kernel_rfl) rfl #[.slice Ao18 x0_1.length co18, .slice Ao19 x8_1.length co19] rfl sqA ?_; (with_reducible refine (endonymref2_Cmp.calls k1 _ _ x0_1 _ _ x8_1 t577 _ ?side1 ?side2 ?side3 ?side4 A10.out).mono ?_); (case side1 => repeat (first | exact (Kd.V_reads' HO_0.out).2.2 | (with_reducible refine Kd.C_alloc ?_ _) | (with_reducible refine Kd.C_drewN ?_ _) | (with_reducible refine Kd.C_drew ?_))); (case side2 => exact (Kd.V_reads' HO_0.out).2.1); (case side3 => repeat (first | exact (Kd.R_reads' HO_8.out).2.2 | (with_reducible refine Kd.C_alloc ?_ _) | (with_reducible refine Kd.C_drewN ?_ _) | (with_reducible refine Kd.C_drew ?_))); (case side4 => exact (Kd.R_reads' HO_8.out).2.1); rintro e w' ⟨rfl, ⟨nd, rfl⟩⟩; refine ⟨_, rfl, ?_⟩) | ((with_reducible refine gate_callee (f := 98) rfl ?_); refine goesL_ (some 34) rfl rfl Tryz.func98 (by kernel_rfl) rfl #[.slice Ao18 x0_1.length co18, .slice Ao19 x8_1.length co19] rfl sqA ?_; (with_reducible refine (endonymref2_Less.calls k1 _ _ x0_1 _ _ x8_1 t578 _ ?side1 ?side2 ?side3 ?side4 A12.out).mono ?_); (case side1 => repeat (first | exact (Kd.V_reads' HO_0.out).2.2 | (with_reducible refine Kd.C_alloc ?_ _) | (with_reducible refine Kd.C_drewN ?_ _) | (with_reducible refine Kd.C_drew ?_))); (case side2 => exact (Kd.V_reads' HO_0.out).2.1); (case side3 => repeat (first | exact (Kd.R_reads' HO_8.out).2.2 | (with_reducible refine Kd.C_alloc ?_ _) | (with_reducible refine Kd.C_drewN ?_ _) | (with_reducible refine Kd.C_drew ?_))); (case side4 => exact (Kd.R_reads' HO_8.out).2.1); rintro e w20 ⟨v579, rfl, ho0, hb⟩; refine ⟨_, rfl, ?_⟩; have n0_ := Aside0.mk (Kd.V_elder' (sqV HO_0.out) (Kd.R_base ho0) hb); have n1_ := Aside0.mk (Kd.R_elder' (sqR HO_6.out) (Kd.R_base ho0) hb); have n2_ := Aside0.mk (Kd.R_elder' (sqR HO_8.out) (Kd.R_base ho0) hb); have n3_ := Aside0.mk (Kd.R_elder' (sqR HO576.out) (Kd.R_base ho0) hb); have n4_ := Aside0.mk (Kd.R_lower (Kd.R_new' (Kd.R_new' (Kd.R_new' (Kd.R_newM (M := fun k_ => (w.heap.size ≤ k_)) ho0 (below_size sqB) (fun k_ h_ => h_)) (Kd.R_lt (sqR HO_6.out))) (Kd.R_lt (sqR HO_8.out))) (Kd.R_lt (sqR HO576.out))) (below_size sqB)); have n5_ := Aside0.mk (below_step sqB hb); clear HO_0; clear HO_6; clear HO_8; clear HO576; clear HB; have HO_0 := n0_; have HO_6 := n1_; have HO_8 := n2_; have HO576 := n3_; have HO580 := n4_; have HB := n5_; clear n0_ n1_ n2_ n3_ n4_ n5_; (try clear hb); (try clear hb2); (try clear hk); (try clear hi); (try clear ho0)) | ((with_reducible refine gate_callee (f := 65) rfl ?_); refine goesL_ (some 36) rfl rfl Tryz.func65 (by kernel_rfl) rfl #[.int .u64 1] rfl sqA ?_; (with_reducible refine (endonymref2_Of.calls k1 1 t581 _ A13.out).mono ?_); rintro e w21 ⟨v582, rfl, ho0, hb⟩; refine ⟨_, rfl, ?_⟩; have n0_ := Aside0.mk (Kd.V_elder' (sqV HO_0.out) (Kd.R_base ho0) hb); have n1_ := Aside0.mk (Kd.R_elder' (sqR HO_6.out) (Kd.R_base ho0) hb); have n2_ := Aside0.mk (Kd.R_elder' (sqR HO_8.out) (Kd.R_base ho0) hb); have n3_ := Aside0.mk (Kd.R_elder' (sqR HO576.out) (Kd.R_base ho0) hb); have n4_ := Aside0.mk (Kd.R_elder' (sqR HO580.out) (Kd.R_base ho0) hb); have n5_ := Aside0.mk (Kd.R_lower (Kd.R_new' (Kd.R_new' (Kd.R_new' (Kd.R_new' (Kd.R_newM (M := fun k_ => (w.heap.size ≤ k_)) ho0 (below_size sqB) (fun k_ h_ => h_)) (Kd.R_lt (sqR HO_6.out))) (Kd.R_lt (sqR HO_8.out))) (Kd.R_lt (sqR HO576.out))) (Kd.R_lt (sqR HO580.out))) (below_size sqB)); have n6_ := Aside0.mk (below_step sqB hb); clear HO_0; clear HO_6; clear HO_8; clear HO576; clear HO580; clear HB; have HO_0 := n0_; have HO_6 := n1_; have HO_8 := n2_; have HO576 := n3_; have HO580 := n4_; have HO583 := n5_; have HB := n6_; clear n0_ n1_ n2_ n3_ n4_ n5_ n6_; (try clear hb); (try clear hb2); (try clear hk); (try clear hi); (try clear ho0); obtain ⟨Ao22, co22, eo22⟩ := Kd.R_slice HO576.out; subst eo22; obtain ⟨Ao23, co23, eo23⟩ := Kd.R_slice HO583.out; subst eo23) | ((with_reducible refine gate_callee (f := 99) rfl ?_); refine goesL_ (some 37) rfl rfl Tryz.func99 (by kernel_rfl) rfl #[.slice Ao22 t574.length co22, .slice Ao23 t581.length co23] rfl sqA ?_; (with_reducible refine (endonymref2_Plus.calls k1 _ _ t574 _ _ t581 t584 _ ?side1 ?side2 ?side3 ?side4 A14.out).mono ?_); (case side1 => repeat (first | exact (Kd.R_reads' HO576.out).2.2 | (with_reducible refine Kd.C_alloc ?_ _) | (with_reducible refine Kd.C_drewN ?_ _) | (with_reducible refine Kd.C_drew ?_))); (case side2 => exact (Kd.R_reads' HO576.out).2.1); (case side3 => repeat (first | exact (Kd.R_reads' HO583.out).2.2 | (with_reducible refine Kd.C_alloc ?_ _) | (with_reducible refine Kd.C_drewN ?_ _) | (with_reducible refine Kd.C_drew ?_))); (case side4 => exact (Kd.R_reads' HO583.out).2.1); rintro e w24 ⟨v585, rfl, ho0, hb⟩; refine ⟨_, rfl, ?_⟩; have n0_ := Aside0.mk (Kd.V_elder' (sqV HO_0.out) (Kd.R_base ho0) hb); have n1_ := Aside0.mk (Kd.R_elder' (sqR HO_6.out) (Kd.R_base ho0) hb); have n2_ := Aside0.mk (Kd.R_elder' (sqR HO_8.out) (Kd.R_base ho0) hb); have n3_ := Aside0.mk (Kd.R_elder' (sqR HO576.out) (Kd.R_base ho0) hb); have n4_ := Aside0.mk (Kd.R_elder' (sqR HO580.out) (Kd.R_base ho0) hb); have n5_ := Aside0.mk (Kd.R_elder' (sqR HO583.out) (Kd.R_base ho0) hb); have n6_ := Aside0.mk (Kd.R_lower (Kd.R_new' (Kd.R_new' (Kd.R_new' (Kd.R_new' (Kd.R_new' (Kd.R_newM (M := fun k_ => (w.heap.size ≤ k_)) ho0 (below_size sqB) (fun k_ h_ => h_)) (Kd.R_lt (sqR HO_6.out))) (Kd.R_lt (sqR HO_8.out))) (Kd.R_lt (sqR HO576.out))) (Kd.R_lt (sqR HO580.out))) (Kd.R_lt (sqR HO583.out))) (below_size sqB)); have n7_ := Aside0.mk (below_step sqB hb); clear HO_0; clear HO_6; clear HO_8; clear HO576; clear HO580; clear HO583; clear HB; have HO_0 := n0_; have HO_6 := n1_; have HO_8 := n2_; have HO576 := n3_; have HO580 := n4_; have HO583 := n5_; have HO586 := n6_; have HB := n7_; clear n0_ n1_ n2_ n3_ n4_ n5_ n6_ n7_; (try clear hb); (try clear hb2); (try clear hk); (try clear hi); (try clear ho0)) | ((with_reducible refine gate_callee (f := 100) rfl ?_); refine goesL_ (some 39) rfl rfl Tryz.func100 (by kernel_rfl) rfl #[.slice Ao19 x8_1.length co19] rfl sqA ?_; (with_reducible refine (endonymref2_half.calls k1 _ _ x8_1 t587 _ ?side1 ?side2 A15.out).mono ?_); (case side1 => repeat (first | exact (Kd.R_reads' HO_8.out).2.2 | (with_reducible refine Kd.C_alloc ?_ _) | (with_reducible refine Kd.C_drewN ?_ _) | (with_reducible refine Kd.C_drew ?_))); (case side2 => exact (Kd.R_reads' HO_8.out).2.1); rintro e w25 ⟨v588, rfl, ho0, hb⟩; refine ⟨_, rfl, ?_⟩; have n0_ := Aside0.mk (Kd.V_elder' (sqV HO_0.out) (Kd.R_base ho0) hb); have n1_ := Aside0.mk (Kd.R_elder' (sqR HO_6.out) (Kd.R_base ho0) hb); have n2_ := Aside0.mk (Kd.R_elder' (sqR HO_8.out) (Kd.R_base ho0) hb); have n3_ := Aside0.mk (Kd.R_elder' (sqR HO576.out) (Kd.R_base ho0) hb); have n4_ := Aside0.mk (Kd.R_elder' (sqR HO580.out) (Kd.R_base ho0) hb); have n5_ := Aside0.mk (Kd.R_elder' (sqR HO583.out) (Kd.R_base ho0) hb); have n6_ := Aside0.mk (Kd.R_elder' (sqR HO586.out) (Kd.R_base ho0) hb); have n7_ := Aside0.mk (Kd.R_lower (Kd.R_new' (Kd.R_new' (Kd.R_new' (Kd.R_new' (Kd.R_new' (Kd.R_new' (Kd.R_newM (M := fun k_ => (w.heap.size ≤ k_)) ho0 (below_size sqB) (fun k_ h_ => h_)) (Kd.R_lt (sqR HO_6.out))) (Kd.R_lt (sqR HO_8.out))) (Kd.R_lt (sqR HO576.out))) (Kd.R_lt (sqR HO580.out))) (Kd.R_lt (sqR HO583.out))) (Kd.R_lt (sqR HO586.out))) (below_size sqB)); have n8_ := Aside0.mk (below_step sqB hb); clear HO_0; clear HO_6; clear HO_8; clear HO576; clear HO580; clear HO583; clear HO586; clear HB; have HO_0 := n0_; have HO_6 := n1_; have HO_8 := n2_; have HO576 := n3_; have HO580 := n4_; have HO583 := n5_; have HO586 := n6_; have HO589 := n7_; have HB := n8_; clear n0_ n1_ n2_ n3_ n4_ n5_ n6_ n7_ n8_; (try clear hb); (try clear hb2); (try clear hk); (try clear hi); (try clear ho0)))
   go_roundg k1
   case measure => have := HK1.out; omega
   case rel => exact ⟨(t578), (t584), (t587), (wrap64 (x9_1 - 1)), sqE, H', ⟨by have := HK1.out; omega⟩, ⟨Kd.V_mono (Kd.R_V (by (with_reducible repeat (first | apply Kd.R_alloc | apply Kd.R_drewN | apply Kd.R_drew)); exact Kd.R_mono HO580.out (fun _ hk => (And.intro hk.1.1.1.1.1.1.1 (And.intro hk.1.2 hk.2))))) (fun k_ hk => by first | exact ⟨(.inr (hk.1)), hk.2⟩ | exact (.inr (hk)))⟩, ⟨by (with_reducible repeat (first | apply Kd.R_alloc | apply Kd.R_drewN | apply Kd.R_drew)); exact Kd.R_mono HO586.out (fun _ hk => ⟨hk.1.1.1.1.1.1.1, hk.2⟩)⟩, ⟨by (with_reducible repeat (first | apply Kd.R_alloc | apply Kd.R_drewN | apply Kd.R_drew)); exact Kd.R_mono HO589.out (fun _ hk => ⟨hk.1.1.1.1.1.1.1, hk.2⟩)⟩, ⟨sqB⟩⟩
def endonymref2_Bit.f (l0 : List Int) (a1 : Int) : Option (Bool) := if a1 ≥ 0 then (if (wrap64 (Int.tdiv a1 16)) < (l0.length : Int) then (if 0 ≤ (wrap64 (Int.tdiv a1 16)) then (if 0 ≤ (IntKind.u64.wrap (Int.tmod a1 16)) then (some ((Go.bits .and .u32 (shr .u32 (rd l0 (wrap64 (Int.tdiv a1 16))) (IntKind.u64.wrap (Int.tmod a1 16))) 1) == 1)) else (none)) else (none)) else (some false)) else (some false)
theorem endonymref2_Bit.calls (A0 : Option Addr) (c0 : Nat) (l0 : List Int) (a1 : Int) (r : Bool) (w : World) (hr0 : Kd.C (Kd.int .u32) w A0 l0.length l0) (hc0 : l0.length ≤ c0) (h : endonymref2_Bit.f l0 a1 = some r) :
  Calls Tryz.prog 104 #[.slice A0 l0.length c0, .int .i64 a1] w fun e w' => e = .returned (.bool r) ∧ Drawn0 w w' := by
 have HR0 := Aside0.mk hr0
 have HC0 := Aside0.mk hc0
 clear hr0 hc0
 have H : (if a1 ≥ 0 then (if (wrap64 (Int.tdiv a1 16)) < (l0.length : Int) then (if 0 ≤ (wrap64 (Int.tdiv a1 16)) then (if 0 ≤ (IntKind.u64.wrap (Int.tmod a1 16)) then (some ((Go.bits .and .u32 (shr .u32 (rd l0 (wrap64 (Int.tdiv a1 16))) (IntKind.u64.wrap (Int.tmod a1 16))) 1) == 1)) else (none)) else (none)) else (some false)) else (some false)) = some r := h
 clear h
 by_cases c3 : a1 ≥ 0
 case neg =>
  rw [if_neg c3] at H
  have c3b0 := decide_eq_false c3
  clear c3
  obtain rfl := Option.some.inj H
  go_enter Tryz.func104, Tryz.ntmps104
  go_wp2
  go_ret
  exact ⟨sqE, sqW⟩
 rw [if_pos c3] at H
 have c3b0 := decide_eq_true c3
 clear c3
 by_cases c4 : (wrap64 (Int.tdiv a1 16)) < (l0.length : Int)
 case neg =>
  rw [if_neg c4] at H
  have c4b0 := decide_eq_false c4
  clear c4
  obtain rfl := Option.some.inj H
  go_enter Tryz.func104, Tryz.ntmps104
  go_wp2
  go_ret
  exact ⟨sqE, sqW⟩
 rw [if_pos c4] at H
 have c4b0 := decide_eq_true c4
 clear c4
 obtain ⟨ji5, hji5⟩ : ∃ j_ : Int, (wrap64 (Int.tdiv a1 16)) = j_ := ⟨_, rfl⟩
 replace H : (if 0 ≤ (ji5) then (if 0 ≤ (IntKind.u64.wrap (Int.tmod a1 16)) then (some ((Go.bits .and .u32 (shr .u32 (rd l0 (ji5)) (IntKind.u64.wrap (Int.tmod a1 16))) 1) == 1)) else (none)) else (none)) = some r := by first | (rw [hji5] at H; exact H) | (simp only [hji5] at H ⊢; exact H)
 (try rw [hji5] at c4b0)
 have hji5w : (IntKind.i64.wrap (Int.tdiv a1 16)) = ji5 := (i64_w _).trans hji5
 by_cases c6 : 0 ≤ (ji5)
 case neg => rw [if_neg c6] at H; exact absurd H (by simp)
 rw [if_pos c6] at H
 have c6b0 := decide_eq_true c6
 clear c6
 obtain ⟨ji7, hji7⟩ : ∃ j_ : Int, (IntKind.u64.wrap (Int.tmod a1 16)) = j_ := ⟨_, rfl⟩
 replace H : (if 0 ≤ (ji7) then (some ((Go.bits .and .u32 (shr .u32 (rd l0 (ji5)) (ji7)) 1) == 1)) else (none)) = some r := by first | (rw [hji7] at H; exact H) | (simp only [hji7] at H ⊢; exact H)
 by_cases c8 : 0 ≤ (ji7)
 case neg => rw [if_neg c8] at H; exact absurd H (by simp)
 rw [if_pos c8] at H
 have c8b0 := eq_true c8
 have c8b1 := decide_eq_true c8
 clear c8
 obtain ⟨ji9, hji9⟩ : ∃ j_ : Int, (shr .u32 (rd l0 (ji5)) (ji7)) = j_ := ⟨_, rfl⟩
 replace H : (some ((Go.bits .and .u32 (ji9) 1) == 1)) = some r := by first | (rw [hji9] at H; exact H) | (simp only [hji9] at H ⊢; exact H)
 have hji9_ : ((rd l0 (ji5)) / 2 ^ min (ji7).toNat 32) = ji9 := hji9
 have hji9z : (ji7) ≤ 32 → ((rd l0 (ji5)) / 2 ^ (ji7).toNat) = ji9 := shr_small hji9
 obtain rfl := Option.some.inj H
 have p593 : 0 ≤ ((ji5) : Int) := sqD
 have q593 : (ji5) < (l0.length : Int) := sqD
 obtain ⟨ad593, e593, hx593_0⟩ := Kd.at_int HR0.out (ji5) p593 q593
 cases e593
 replace p593 := eq_true p593
 replace q593 := eq_true q593
 go_enter Tryz.func104, Tryz.ntmps104
 go_wp2
 go_ret
 exact ⟨by first | rfl | (simp; done) | (simp only [← hji5, ← hji7, ← hji9] <;> (first | rfl | simp)) | (simp [*]; done), sqW⟩
end Go.Proofs.YtfmjdoofopamkaaGreatDoor.W
