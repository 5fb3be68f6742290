-- written by wip/pp.py of this session (the kit's print with patches); checked by Lean alone
import Derived.Test.YtfmjdoofopamkaaDoorWx0
import Derived.Test.YtfmjdoofopamkaaDoorWx1
import Derived.Test.YtfmjdoofopamkaaDoorWx2
import Derived.Test.YtfmjdoofopamkaaDoorWx3
namespace Go.Proofs.YtfmjdoofopamkaaDoor.W
open Go.RowKit Go.Proofs.YtfmjdoofopamkaaDoorW.PrintWords Go.Proofs.YtfmjdoofopamkaaDoorW.PrintLast Go.Proofs.YtfmjdoofopamkaaDoorW.PrintMore
attribute [local go_sem] max2_int min2_int max_two min_two max_three min_three max_four min_four   -- for this text's walks alone
set_option linter.unusedVariables false
set_option linter.unusedSimpArgs false

/-! ### weigh_natOf: function 46 -/
def weigh_natOf.f (k : Nat) (a0 : Int) : Option (List Int) := (weigh_trim.f k (([(a0) % 4294967296, (a0 / 4294967296) % 4294967296] : List Int))).bind fun t236 => (some t236)
theorem weigh_natOf.mono : ∀ a0 k, LeO (weigh_natOf.f k a0) (weigh_natOf.f (k + 1) a0) := by
 intro a0 k
 unfold weigh_natOf.f
 repeat' first | (with_reducible first | apply weigh_trim.mono | apply LeO.refl | apply LeO.none | refine LeO.ite ?_ ?_ | refine LeO.bind ?_ (fun _ => ?_)) | apply weigh_trim.mono | apply LeO.none | refine LeO.ite ?_ ?_ | refine LeO.bind ?_ (fun _ => ?_)
set_option maxHeartbeats 8000000 in
set_option maxRecDepth 100000 in
theorem weigh_natOf.calls (k : Nat) (a0 : Int) (r : List Int) (w : World) (h : weigh_natOf.f k a0 = some r) :
  Calls Tryd.prog 46 #[.int .u64 a0] w fun e w' => ∃ v0_ : Value, e = .returned (v0_) ∧ Kd.V (Kd.int .u32) 84 w' w.heap.size (fun k_ => (w.heap.size ≤ k_)) v0_ r ∧ Below w.heap.size w w' := by
 have HB := Aside0.mk (Below.refl w.heap.size w)
 have H : ((weigh_trim.f k (([(a0) % 4294967296, (a0 / 4294967296) % 4294967296] : List Int))).bind fun t236 => (some t236)) = some r := h
 clear h
 obtain ⟨y233, hy233⟩ : ∃ y_ : List Int, y_ = (([(a0) % 4294967296, (a0 / 4294967296) % 4294967296] : List Int)) := ⟨_, rfl⟩
 replace H : ((weigh_trim.f k y233).bind fun t236 => (some t236)) = some r := by first | (rw [hy233]; with_reducible exact H) | (have H2_ := (Option.bind_some _ _).symm.trans H; rw [hy233]; with_reducible exact H2_) | (have H2_ := (Option.bind_some _ _).symm.trans H; with_reducible exact H2_) | with_reducible exact H | (rw [hy233]; exact H) | exact H
 have Ny233 := Aside0.mk hy233
 clear hy233
 replace H := Option.bind_eq_some_iff.mp H
 obtain ⟨t236, A20, H⟩ := H
 try dsimp only at H
 have A2 := Aside0.mk A20
 clear A20
 obtain rfl := Option.some.inj H
 go_enter Tryd.func46, Tryd.ntmps46
 go_wp2_with (first | ((with_reducible refine gate_dst (N := 8) rfl ?_); refine Kd.R_lit (Kd.int .u32) _ 84 ?hg (N := 8) ?hd (xs := ([(a0) % 4294967296, (a0 / 4294967296) % 4294967296] : List Int)) (inner := [.int .u32 ((a0) % 4294967296), .int .u32 ((a0 / 4294967296) % 4294967296)]) (ok := fun _ => True) (okp := fun _ => True) ?hr ?hp (fun _ hk => hk) trivial (Below.refl _ _) (Nat.le_refl _) (by simp) ?_; (case hd => rfl); (case hg => rfl); (case hr => first | (go_simp; done) | (go_simp; rfl)); (case hp => exact (Reps.one (show Kd.M (Kd.int .u32) _ _ _ ((a0) % 4294967296) [.int .u32 ((a0) % 4294967296)] from rfl) (Reps.one (show Kd.M (Kd.int .u32) _ _ _ ((a0 / 4294967296) % 4294967296) [.int .u32 ((a0 / 4294967296) % 4294967296)] from rfl) (Reps.none _ _)))); intro v234 w3 ho4 hb hg_ hnew_; clear hg_ hnew_; (first | rw [← Ny233.out] at ho4 | (simp only [Int.reduceToNat] at ho4; rw [← Ny233.out] at ho4)); have n0_ := Aside0.mk (Kd.R_lower (Kd.R_newM (M := fun k_ => (w.heap.size ≤ k_)) ho4 (below_size sqB) (fun k_ h_ => h_)) (below_size sqB)); have n1_ := Aside0.mk (below_step sqB hb); clear HB; have HO235 := n0_; have HB := n1_; clear n0_ n1_; clear hb ho4; obtain ⟨Ao5, co5, eo5⟩ := Kd.R_slice HO235.out; subst eo5) | ((with_reducible refine gate_callee (f := 74) rfl ?_); refine goesL_ (some 9) rfl rfl Tryd.func74 (by kernel_rfl) rfl #[.slice Ao5 y233.length co5] rfl sqA ?_; (with_reducible refine (weigh_trim.calls k (fun k_ => some k_ = (.slice Ao5 y233.length co5 : Value).ownBlock) _ _ y233 t236 _ ?side1 A2.out).mono ?_); (case side1 => exact Kd.R_V (Kd.R_tight rfl (HO235.out))); rintro e w6 ⟨v237, rfl, ho0, hb⟩; refine ⟨_, rfl, ?_⟩; have n0_ := Aside0.mk (Kd.R_below (sqR HO235.out) hb); have n1_ := Aside0.mk (Kd.V_lower (Kd.V_mono (ok' := fun k_ => (w.heap.size ≤ k_)) ho0 (fun k_ hk_ => Or.elim hk_ (fun hs_ => ((HO235.out).1 k_ hs_.symm).1) (fun hn_ => (Nat.le_trans (below_size sqB) hn_)))) (below_size sqB)); have n2_ := Aside0.mk (below_step sqB hb); clear HO235; clear HB; have HO235 := n0_; have HO238 := n1_; have HB := n2_; clear n0_ n1_ n2_; (try clear hb); (try clear hb2); (try clear hk); (try clear hi); (try clear ho0)))
 go_ret
 exact ⟨_, sqE', sqV HO238.out, sqB⟩

/-! ### weigh_nat_times: function 75 -/
def weigh_nat_times.l0 : Nat → List Int → Int → List Int → Int → List Int → Int → Int → Option (List Int)
 | 0, _, _, _, _, _, _, _ => none
 | k + 1, x0, x1, x5, x6, x14, x15, x16 => if x16 < x15 then (if 0 ≤ x16 then (if x16 < (x14.length : Int) then (if x16 < (x5.length : Int) then (weigh_nat_times.l0 k x0 x1 (x5.set (x16 : Int).toNat ((IntKind.u64.wrap ((IntKind.u64.wrap ((IntKind.u64.wrap (rd x14 x16)) * (IntKind.u64.wrap (x1)))) + x6)) % 4294967296)) ((IntKind.u64.wrap ((IntKind.u64.wrap ((IntKind.u64.wrap (rd x14 x16)) * (IntKind.u64.wrap (x1)))) + x6)) / 4294967296) x14 x15 (wrap64 (x16 + 1))) else (none)) else (none)) else (none)) else (if 0 ≤ (x0.length : Int) then (if (x0.length : Int) < (x5.length : Int) then ((weigh_trim.f k (x5.set ((x0.length : Int) : Int).toNat ((x6) % 4294967296))).bind fun t245 => (some t245)) else (none)) else (none))
def weigh_nat_times.f (k : Nat) (l0 : List Int) (a1 : Int) : Option (List Int) := if 0 ≤ (wrap64 ((l0.length : Int) + 1)) then (if (wrap64 ((l0.length : Int) + 1) : Int).toNat ≤ 70368744177664 then (weigh_nat_times.l0 k l0 a1 (List.replicate (wrap64 ((l0.length : Int) + 1) : Int).toNat 0) 0 l0 (l0.length : Int) 0) else (none)) else (none)
theorem weigh_nat_times.mono_l : ∀ k, (∀ y0 y1 y2 y3 y4 y5 y6, LeO (weigh_nat_times.l0 k y0 y1 y2 y3 y4 y5 y6) (weigh_nat_times.l0 (k + 1) y0 y1 y2 y3 y4 y5 y6))
 | 0 => fun _ _ _ _ _ _ _ r h => by simp [weigh_nat_times.l0] at h
 | k + 1 => by
  have ih0 := weigh_nat_times.mono_l k
  intro y0 y1 y2 y3 y4 y5 y6
  unfold weigh_nat_times.l0
  repeat' first | (with_reducible first | apply ih0 | apply weigh_trim.mono | apply LeO.refl | apply LeO.none | refine LeO.ite ?_ ?_ | refine LeO.bind ?_ (fun _ => ?_)) | apply ih0 | apply weigh_trim.mono | apply LeO.none | refine LeO.ite ?_ ?_ | refine LeO.bind ?_ (fun _ => ?_)
theorem weigh_nat_times.mono : ∀ a0 a1 k, LeO (weigh_nat_times.f k a0 a1) (weigh_nat_times.f (k + 1) a0 a1) := by
 intro a0 a1 k
 have ih0 := weigh_nat_times.mono_l k
 unfold weigh_nat_times.f
 repeat' first | (with_reducible first | apply ih0 | apply weigh_trim.mono | apply LeO.refl | apply LeO.none | refine LeO.ite ?_ ?_ | refine LeO.bind ?_ (fun _ => ?_)) | apply ih0 | apply weigh_trim.mono | apply LeO.none | refine LeO.ite ?_ ?_ | refine LeO.bind ?_ (fun _ => ?_)
set_option maxHeartbeats 8000000 in
set_option maxRecDepth 100000 in
theorem weigh_nat_times.calls (k : Nat) (A0 : Option Addr) (c0 : Nat) (l0 : List Int) (a1 : Int) (r : List Int) (w : World) (hr0 : Kd.C (Kd.int .u32) w A0 l0.length l0) (hc0 : l0.length ≤ c0) (h : weigh_nat_times.f k l0 a1 = some r) :
  Calls Tryd.prog 75 #[.slice A0 l0.length c0, .int .u32 a1] w fun e w' => ∃ v0_ : Value, e = .returned (v0_) ∧ Kd.V (Kd.int .u32) 84 w' w.heap.size (fun k_ => (w.heap.size ≤ k_)) v0_ r ∧ Below w.heap.size w w' := by
 have HR0 := Aside0.mk hr0
 have HC0 := Aside0.mk hc0
 clear hr0 hc0
 have HB := Aside0.mk (Below.refl w.heap.size w)
 have H : (if 0 ≤ (wrap64 ((l0.length : Int) + 1)) then (if (wrap64 ((l0.length : Int) + 1) : Int).toNat ≤ 70368744177664 then (weigh_nat_times.l0 k l0 a1 (List.replicate (wrap64 ((l0.length : Int) + 1) : Int).toNat 0) 0 l0 (l0.length : Int) 0) else (none)) else (none)) = some r := h
 clear h
 obtain ⟨ji3, hji3⟩ : ∃ j_ : Int, (wrap64 ((l0.length : Int) + 1)) = j_ := ⟨_, rfl⟩
 replace H : (if 0 ≤ (ji3) then (if (ji3 : Int).toNat ≤ 70368744177664 then (weigh_nat_times.l0 k l0 a1 (List.replicate (ji3 : Int).toNat 0) 0 l0 (l0.length : Int) 0) else (none)) else (none)) = some r := by first | (rw [hji3] at H; exact H) | (simp only [hji3] at H ⊢; exact H)
 have hji3w : (IntKind.i64.wrap ((l0.length : Int) + 1)) = ji3 := (i64_w _).trans hji3
 by_cases c4 : 0 ≤ (ji3)
 case neg => rw [if_neg c4] at H; exact absurd H (by simp)
 rw [if_pos c4] at H
 have c4b0 := eq_true c4
 have c4b1 := decide_eq_true c4
 clear c4
 by_cases c5 : (ji3 : Int).toNat ≤ 70368744177664
 case neg => rw [if_neg c5] at H; exact absurd H (by simp)
 rw [if_pos c5] at H
 have c5b0 := eq_true c5
 have c5b1 := decide_eq_true c5
 clear c5
 obtain ⟨y239, hy239⟩ : ∃ y_ : List Int, y_ = (List.replicate (ji3 : Int).toNat 0) := ⟨_, rfl⟩
 replace H : (weigh_nat_times.l0 k l0 a1 y239 0 l0 (l0.length : Int) 0) = some r := by first | (rw [hy239]; with_reducible exact H) | (have H2_ := (Option.bind_some _ _).symm.trans H; rw [hy239]; with_reducible exact H2_) | (have H2_ := (Option.bind_some _ _).symm.trans H; with_reducible exact H2_) | with_reducible exact H | (rw [hy239]; exact H) | exact H
 have Ny239 := Aside0.mk hy239
 clear hy239
 have H' := Aside0.mk H
 clear H
 go_enter Tryd.func75, Tryd.ntmps75
 go_wp2_with (first | ((with_reducible refine gate_dst (N := 13) rfl ?_); refine Kd.R_make (Kd.int .u32) _ 84 rfl (N := 13) rfl 74 _ _ rfl ji3 rfl rfl Tryd.underlying74 (.int .u32 0) 4 info84 rfl (by decide) (by omega) 0 (ok := fun _ => True) (okp := fun _ => True) rfl (fun _ hk => hk) trivial sqD (Nat.le_trans (Nat.mul_le_mul_right _ (sqD : ji3.toNat ≤ 70368744177664)) (by omega)) (Below.refl _ _) (Nat.le_refl _) ?_; intro v240 w6 ho7 hb hg_ hnew_; clear hg_ hnew_; (first | rw [← Ny239.out] at ho7 | (simp only [Int.reduceToNat] at ho7; rw [← Ny239.out] at ho7)); have n0_ := Aside0.mk (Kd.R_lower (Kd.R_newM (M := fun k_ => (w.heap.size ≤ k_)) ho7 (below_size sqB) (fun k_ h_ => h_)) (below_size sqB)); have n1_ := Aside0.mk (below_step sqB hb); clear HB; have HO241 := n0_; have HB := n1_; clear n0_ n1_; clear hb ho7))
 try simp only [Act.put, List.setIfInBounds_toArray, List.set_cons_zero, List.set_cons_succ]
 go_loopg [6, 16] k (fun kq v6 v16 w' => ∃ (x5_1 : List Int) (x6_1 : Int) (x16_1 : Int), v6 = .int .u64 x6_1 ∧ v16 = .int .i64 x16_1 ∧ Aside0 (weigh_nat_times.l0 kq l0 a1 x5_1 x6_1 l0 (l0.length : Int) x16_1 = some r) ∧ Aside0 (kq ≤ k) ∧ Aside0 (Kd.R (Kd.int .u32) 84 w' w.heap.size (fun k_ => (w.heap.size ≤ k_)) v240 x5_1) ∧ Aside0 (Below w.heap.size w w'))
 case atStart => exact ⟨(y239), (0), (0), sqE, sqE, H', ⟨Nat.le_refl _⟩, ⟨by (with_reducible repeat (first | apply Kd.R_alloc | apply Kd.R_drewN | apply Kd.R_drew)); exact Kd.R_mono HO241.out (fun _ hk => hk.1)⟩, ⟨sqB⟩⟩
 case round =>
  clear H'
  try clear p2
  try clear c4
  try clear c4b0
  try clear c4b1
  try clear c5
  try clear c5b0
  try clear c5b1
  try clear p6
  try clear c7
  obtain ⟨x5_1, x6_1, x16_1, rfl, rfl, HA, HK1, HO_5, HB⟩ := hrel
  cases gk with
  | zero => exact absurd HA.out (by simp [weigh_nat_times.l0])
  | succ k1 =>
   have H := HA.out
   clear HA
   simp only [weigh_nat_times.l0] at H
   by_cases c8 : x16_1 < (l0.length : Int)
   ·rw [if_pos c8] at H
    have c8b0 := decide_eq_true c8
    clear c8
    by_cases c9 : 0 ≤ x16_1
    case neg => rw [if_neg c9] at H; exact absurd H (by simp)
    rw [if_pos c9] at H
    have c9b0 := decide_eq_true c9
    clear c9
    by_cases c10 : x16_1 < (l0.length : Int)
    case neg => rw [if_neg c10] at H; exact absurd H (by simp)
    rw [if_pos c10] at H
    have c10b0 := decide_eq_true c10
    clear c10
    by_cases c11 : x16_1 < (x5_1.length : Int)
    case neg => rw [if_neg c11] at H; exact absurd H (by simp)
    rw [if_pos c11] at H
    have c11b0 := decide_eq_true c11
    clear c11
    obtain ⟨y243, hy243⟩ : ∃ y_ : List Int, y_ = (x5_1.set (x16_1 : Int).toNat ((IntKind.u64.wrap ((IntKind.u64.wrap ((IntKind.u64.wrap (rd l0 x16_1)) * (IntKind.u64.wrap (a1)))) + x6_1)) % 4294967296)) := ⟨_, rfl⟩
    replace H : (weigh_nat_times.l0 k1 l0 a1 y243 ((IntKind.u64.wrap ((IntKind.u64.wrap ((IntKind.u64.wrap (rd l0 x16_1)) * (IntKind.u64.wrap (a1)))) + x6_1)) / 4294967296) l0 (l0.length : Int) (wrap64 (x16_1 + 1))) = some r := by first | (rw [hy243]; with_reducible exact H) | (have H2_ := (Option.bind_some _ _).symm.trans H; rw [hy243]; with_reducible exact H2_) | (have H2_ := (Option.bind_some _ _).symm.trans H; with_reducible exact H2_) | with_reducible exact H | (rw [hy243]; exact H) | exact H
    have Ny243 := Aside0.mk hy243
    clear hy243
    have H' := Aside0.mk H
    clear H
    have p242 : 0 ≤ (x16_1 : Int) := sqD
    have q242 : x16_1 < (l0.length : Int) := sqD
    obtain ⟨ad242, e242, hx242_0⟩ := Kd.at_int HR0.out x16_1 p242 q242
    cases e242
    replace hx242_0 := (HB.out.cell (World.block_lt_of_cell? w _ hx242_0)).trans hx242_0
    replace p242 := eq_true p242
    replace q242 := eq_true q242
    have p12 : 0 ≤ (x16_1 : Int) := sqD
    have q12 : (x16_1 : Int) < ((x5_1.length : Int) : Int) := sqD
    obtain ⟨go12, co12, eo12, gb12, gl12, cl12, HG12⟩ := Kd.R_form HO_5.out (by omega)
    (first | cases eo12 | (injection eo12 with ea_ en_ ec_; (first | subst ea_ | (injection ea_ with ea_; subst ea_)); subst ec_; clear en_))
    have GB12 := Aside0.mk gb12
    have GG12 := Aside0.mk HG12
    clear gb12 gl12 HG12
    obtain ⟨hx12_0, hf12_0⟩ := Kd.R_celln 0 HO_5.out (x16_1 : Int) p12 q12
    replace p12 := eq_true p12
    replace q12 := eq_true q12
    have HP13 := Kd.R_putg HO_5.out (x16_1 : Int) ((IntKind.u64.wrap ((IntKind.u64.wrap ((IntKind.u64.wrap (rd l0 x16_1)) * (IntKind.u64.wrap (a1)))) + x6_1)) % 4294967296)
    go_wp2_with (first | ((with_reducible refine gate_store (t := 84) (p := 32) rfl ?_); refine store_event (t := 84) (p := 32) (v := ?vo_w14) (w1 := (wr.setCell ⟨go12, (x16_1 : Int).toNat, none⟩ (.int .u32 ((IntKind.u64.wrap ((IntKind.u64.wrap ((IntKind.u64.wrap (rd l0 x16_1)) * (IntKind.u64.wrap (a1)))) + x6_1)) % 4294967296)))) ?hg ?ho ?hn ?hr ?_; (case ho => rfl); (case hg => rfl); (case hn => rfl); (case hr => first | (go_simp; done) | (go_simp; rfl)); intro w14 hw; have hg : wr.grownBy w14 (some go12) := (by rw [hw]; exact HP13.2); have hp_ : Kd.R (Kd.int .u32) 84 w14 w.heap.size (fun k_ => (w.heap.size ≤ k_)) (.slice (some ⟨go12, 0, none⟩) x5_1.length co12) y243 := (by rw [hw, Ny243.out]; exact HP13.1); clear HP13; have n0_ := Aside0.mk (hp_); have n1_ := Aside0.mk ((by rw [hw]; exact below_set (HB.out) GB12.out : Below w.heap.size w w14)); clear HO_5; clear HB; have HO_5 := n0_; have HB := n1_; clear n0_ n1_; clear hg hw hp_))
    go_roundg k1
    case measure => have := HK1.out; omega
    case rel => exact ⟨(y243), ((IntKind.u64.wrap ((IntKind.u64.wrap ((IntKind.u64.wrap (rd l0 x16_1)) * (IntKind.u64.wrap (a1)))) + x6_1)) / 4294967296), (wrap64 (x16_1 + 1)), sqE, sqE, H', ⟨by have := HK1.out; omega⟩, ⟨sqR HO_5.out⟩, ⟨sqB⟩⟩
   rw [if_neg c8] at H
   have c8b0 := decide_eq_false c8
   clear c8
   by_cases c15 : 0 ≤ (l0.length : Int)
   case neg => rw [if_neg c15] at H; exact absurd H (by simp)
   rw [if_pos c15] at H
   have c15b0 := decide_eq_true c15
   have c15b1 : decide (0 ≤ l0.length) = true := decide_eq_true (by omega)
   clear c15
   by_cases c16 : (l0.length : Int) < (x5_1.length : Int)
   case neg => rw [if_neg c16] at H; exact absurd H (by simp)
   rw [if_pos c16] at H
   have c16b0 := decide_eq_true c16
   have c16b1 : decide (l0.length < x5_1.length) = true := decide_eq_true (Int.ofNat_lt.mp c16)
   clear c16
   obtain ⟨y244, hy244⟩ : ∃ y_ : List Int, y_ = (x5_1.set ((l0.length : Int) : Int).toNat ((x6_1) % 4294967296)) := ⟨_, rfl⟩
   replace H : ((weigh_trim.f k1 y244).bind fun t245 => (some t245)) = some r := by first | (rw [hy244]; with_reducible exact H) | (have H2_ := (Option.bind_some _ _).symm.trans H; rw [hy244]; with_reducible exact H2_) | (have H2_ := (Option.bind_some _ _).symm.trans H; with_reducible exact H2_) | with_reducible exact H | (rw [hy244]; exact H) | exact H
   have Ny244 := Aside0.mk hy244
   clear hy244
   replace H := Option.bind_eq_some_iff.mp H
   obtain ⟨t245, A180, H⟩ := H
   try dsimp only at H
   have A18 := Aside0.mk A180
   clear A180
   obtain rfl := Option.some.inj H
   have p17 : 0 ≤ ((l0.length : Int) : Int) := sqD
   have q17 : ((l0.length : Int) : Int) < ((x5_1.length : Int) : Int) := sqD
   obtain ⟨go17, co17, eo17, gb17, gl17, cl17, HG17⟩ := Kd.R_form HO_5.out (by omega)
   (first | cases eo17 | (injection eo17 with ea_ en_ ec_; (first | subst ea_ | (injection ea_ with ea_; subst ea_)); subst ec_; clear en_))
   have GB17 := Aside0.mk gb17
   have GG17 := Aside0.mk HG17
   clear gb17 gl17 HG17
   obtain ⟨hx17_0, hf17_0⟩ := Kd.R_celln 0 HO_5.out ((l0.length : Int) : Int) p17 q17
   (try (have hx17_0b := hx17_0; simp only [Int.toNat_natCast] at hx17_0b))
   (try (have hf17_0b := hf17_0; simp only [Int.toNat_natCast] at hf17_0b))
   replace p17 := eq_true p17
   replace q17 := eq_true q17
   have HP19 := Kd.R_putg HO_5.out ((l0.length : Int) : Int) ((x6_1) % 4294967296)
   go_wp2_with (first | ((with_reducible refine gate_store (t := 84) (p := 41) rfl ?_); refine store_event (t := 84) (p := 41) (v := ?vo_w20) (w1 := (wr.setCell ⟨go17, ((l0.length : Int) : Int).toNat, none⟩ (.int .u32 ((x6_1) % 4294967296)))) ?hg ?ho ?hn ?hr ?_; (case ho => rfl); (case hg => rfl); (case hn => rfl); (case hr => first | (go_simp; done) | (go_simp; rfl)); intro w20 hw; have hg : wr.grownBy w20 (some go17) := (by rw [hw]; exact HP19.2); have hp_ : Kd.R (Kd.int .u32) 84 w20 w.heap.size (fun k_ => (w.heap.size ≤ k_)) (.slice (some ⟨go17, 0, none⟩) x5_1.length co17) y244 := (by rw [hw, Ny244.out]; exact HP19.1); clear HP19; have n0_ := Aside0.mk (hp_); have n1_ := Aside0.mk ((by rw [hw]; exact below_set (HB.out) GB17.out : Below w.heap.size w w20)); clear HO_5; clear HB; have HO_5 := n0_; have HB := n1_; clear n0_ n1_; clear hg hw hp_) | ((with_reducible refine gate_callee (f := 74) rfl ?_); refine goesL_ (some 43) rfl rfl Tryd.func74 (by kernel_rfl) rfl #[.slice (some ⟨go17, 0, none⟩) y244.length co17] rfl (by (try simp only [List.map_toArray, List.map_cons, List.map_nil]); first | done | (rw [show y244.length = x5_1.length from (Kd.R_reads' HO_5.out).1.symm] <;> rfl) | rfl | (simp only [List.length_drop, List.length_take]; rfl)) ?_; (with_reducible refine (weigh_trim.calls k1 (fun k_ => some k_ = (.slice (some ⟨go17, 0, none⟩) x5_1.length co17 : Value).ownBlock) _ _ y244 t245 _ ?side1 A18.out).mono ?_); (case side1 => rw [show y244.length = x5_1.length from (Kd.R_reads' HO_5.out).1.symm]; exact Kd.R_V (Kd.R_tight rfl (HO_5.out))); rintro e w21 ⟨v246, rfl, ho0, hb⟩; refine ⟨_, rfl, ?_⟩; have n0_ := Aside0.mk (Kd.R_below (sqR HO_5.out) hb); have n1_ := Aside0.mk (Kd.V_lower (Kd.V_mono (ok' := fun k_ => (w.heap.size ≤ k_)) ho0 (fun k_ hk_ => Or.elim hk_ (fun hs_ => ((HO_5.out).1 k_ hs_.symm)) (fun hn_ => (Nat.le_trans (below_size sqB) hn_)))) (below_size sqB)); have n2_ := Aside0.mk (below_step sqB hb); clear HO_5; clear HB; have HO_5 := n0_; have HO247 := n1_; have HB := n2_; clear n0_ n1_ n2_; (try clear hb); (try clear hb2); (try clear hk); (try clear hi); (try clear ho0)))
   go_ret
   exact ⟨_, by first | rfl | (simp [errW_none, errW_some] <;> rfl) | (simp only [← hji3]; first | rfl | (simp [errW_none, errW_some] <;> rfl)) | (simp [*, errW_none, errW_some] <;> rfl), sqV HO247.out, sqB⟩

/-! ### weigh_nat_ten: function 47 -/
mutual
def weigh_nat_ten.l0 : Nat → List Int → Int → Option (List Int)
 | 0, _, _ => none
 | k + 1, x0, x1 => if x1 ≥ 9 then ((weigh_nat_times.f k x0 1000000000).bind fun t248 => (weigh_nat_ten.l0 k t248 (wrap64 (x1 - 9)))) else (weigh_nat_ten.l1 k x0 x1)
def weigh_nat_ten.l1 : Nat → List Int → Int → Option (List Int)
 | 0, _, _ => none
 | k + 1, x0, x1 => if x1 > 0 then ((weigh_nat_times.f k x0 10).bind fun t251 => (weigh_nat_ten.l1 k t251 (wrap64 (x1 - 1)))) else (some x0)
end
def weigh_nat_ten.f (k : Nat) (l0 : List Int) (a1 : Int) : Option (List Int) := weigh_nat_ten.l0 k l0 a1
theorem weigh_nat_ten.mono_l : ∀ k, (∀ y0 y1, LeO (weigh_nat_ten.l0 k y0 y1) (weigh_nat_ten.l0 (k + 1) y0 y1)) ∧ (∀ y0 y1, LeO (weigh_nat_ten.l1 k y0 y1) (weigh_nat_ten.l1 (k + 1) y0 y1))
 | 0 => ⟨fun _ _ r h => by simp [weigh_nat_ten.l0] at h, fun _ _ r h => by simp [weigh_nat_ten.l1] at h⟩
 | k + 1 => by
  obtain ⟨ih0, ih1⟩ := weigh_nat_ten.mono_l k
  refine ⟨?_, ?_⟩
  ·intro y0 y1
   unfold weigh_nat_ten.l0
   repeat' first | (with_reducible first | apply ih0 | apply ih1 | apply weigh_nat_times.mono | apply LeO.refl | apply LeO.none | refine LeO.ite ?_ ?_ | refine LeO.bind ?_ (fun _ => ?_)) | apply ih0 | apply ih1 | apply weigh_nat_times.mono | apply LeO.none | refine LeO.ite ?_ ?_ | refine LeO.bind ?_ (fun _ => ?_)
  intro y0 y1
  unfold weigh_nat_ten.l1
  repeat' first | (with_reducible first | apply ih0 | apply ih1 | apply weigh_nat_times.mono | apply LeO.refl | apply LeO.none | refine LeO.ite ?_ ?_ | refine LeO.bind ?_ (fun _ => ?_)) | apply ih0 | apply ih1 | apply weigh_nat_times.mono | apply LeO.none | refine LeO.ite ?_ ?_ | refine LeO.bind ?_ (fun _ => ?_)
theorem weigh_nat_ten.mono : ∀ a0 a1 k, LeO (weigh_nat_ten.f k a0 a1) (weigh_nat_ten.f (k + 1) a0 a1) := by
 intro a0 a1 k
 obtain ⟨ih0, ih1⟩ := weigh_nat_ten.mono_l k
 unfold weigh_nat_ten.f
 repeat' first | (with_reducible first | apply ih0 | apply ih1 | apply weigh_nat_times.mono | apply LeO.refl | apply LeO.none | refine LeO.ite ?_ ?_ | refine LeO.bind ?_ (fun _ => ?_)) | apply ih0 | apply ih1 | apply weigh_nat_times.mono | apply LeO.none | refine LeO.ite ?_ ?_ | refine LeO.bind ?_ (fun _ => ?_)
set_option maxHeartbeats 8000000 in
set_option maxRecDepth 100000 in
theorem weigh_nat_ten.calls (k : Nat) (P0_ : Nat → Prop) (A0 : Option Addr) (c0 : Nat) (l0 : List Int) (a1 : Int) (r : List Int) (w : World) (hs0 : Kd.V (Kd.int .u32) 84 w w.heap.size (fun k_ => P0_ k_) (.slice A0 l0.length c0) l0) (h : weigh_nat_ten.f k l0 a1 = some r) :
  Calls Tryd.prog 47 #[.slice A0 l0.length c0, .int .i64 a1] w fun e w' => ∃ v0_ : Value, e = .returned (v0_) ∧ Kd.V (Kd.int .u32) 84 w' w.heap.size (fun k_ => (P0_ k_ ∨ w.heap.size ≤ k_)) v0_ r ∧ Below w.heap.size w w' := by
 have HO0 := Aside0.mk (show Kd.V (Kd.int .u32) 84 w w.heap.size (fun k_ => (P0_ k_ ∨ w.heap.size ≤ k_)) (.slice A0 l0.length c0) l0 from Kd.V_mono hs0 (fun k_ hk => .inl hk))
 have HB := Aside0.mk (Below.refl w.heap.size w)
 have H : (weigh_nat_ten.l0 k l0 a1) = some r := h
 clear h
 have H' := Aside0.mk H
 clear H
 go_enter Tryd.func47, Tryd.ntmps47
 go_wp2
 go_loopg [0, 1] k (fun kq v0 v1 w' => ∃ (x0_1 : List Int) (x1_1 : Int), v1 = .int .i64 x1_1 ∧ Aside0 (weigh_nat_ten.l0 kq x0_1 x1_1 = some r) ∧ Aside0 (kq ≤ k) ∧ Aside0 (Kd.V (Kd.int .u32) 84 w' w.heap.size (fun k_ => (P0_ k_ ∨ w.heap.size ≤ k_)) v0 x0_1) ∧ Aside0 (Below w.heap.size w w'))
 case atStart => exact ⟨(l0), (a1), sqE, H', ⟨Nat.le_refl _⟩, ⟨sqV HO0.out⟩, ⟨sqB⟩⟩
 case round =>
  clear H'
  try clear p2
  obtain ⟨x0_1, x1_1, rfl, HA, HK1, HO_0, HB⟩ := hrel
  cases gk with
  | zero => exact absurd HA.out (by simp [weigh_nat_ten.l0])
  | succ k1 =>
   have H := HA.out
   clear HA
   simp only [weigh_nat_ten.l0] at H
   by_cases c3 : x1_1 ≥ 9
   ·rw [if_pos c3] at H
    have c3b0 := decide_eq_true c3
    clear c3
    replace H := Option.bind_eq_some_iff.mp H
    obtain ⟨t248, A40, H⟩ := H
    try dsimp only at H
    have A4 := Aside0.mk A40
    clear A40
    have H' := Aside0.mk H
    clear H
    obtain ⟨Ao5, co5, eo5⟩ := Kd.V_slice HO_0.out
    subst eo5
    go_wp2_with (first | ((with_reducible refine gate_callee (f := 75) rfl ?_); refine goesL_ (some 10) rfl rfl Tryd.func75 (by kernel_rfl) rfl #[.slice Ao5 x0_1.length co5, .int .u32 1000000000] rfl sqA ?_; (with_reducible refine (weigh_nat_times.calls k1 _ _ x0_1 1000000000 t248 _ ?side1 ?side2 A4.out).mono ?_); (case side1 => repeat (first | exact (Kd.V_reads' HO_0.out).2.2 | (with_reducible refine Kd.C_alloc ?_ _) | (with_reducible refine Kd.C_drewN ?_ _) | (with_reducible refine Kd.C_drew ?_))); (case side2 => exact (Kd.V_reads' HO_0.out).2.1); rintro e w6 ⟨v249, rfl, ho0, hb⟩; refine ⟨_, rfl, ?_⟩; have n0_ := Aside0.mk (Kd.V_below (sqV HO_0.out) hb); have n1_ := Aside0.mk (Kd.V_lower (Kd.V_mono (ok' := fun k_ => (P0_ k_ ∨ w.heap.size ≤ k_)) ho0 (fun k_ hk_ => (.inr (Nat.le_trans (below_size sqB) hk_)))) (below_size sqB)); have n2_ := Aside0.mk (below_step sqB hb); clear HO_0; clear HB; have HO_0 := n0_; have HO250 := n1_; have HB := n2_; clear n0_ n1_ n2_; (try clear hb); (try clear hb2); (try clear hk); (try clear hi); (try clear ho0)))
    go_roundg k1
    case measure => have := HK1.out; omega
    case rel => exact ⟨(t248), (wrap64 (x1_1 - 9)), sqE, H', ⟨by have := HK1.out; omega⟩, ⟨sqV HO250.out⟩, ⟨sqB⟩⟩
   rw [if_neg c3] at H
   have c3b0 := decide_eq_false c3
   clear c3
   have H' := Aside0.mk H
   clear H
   go_wp2
   go_loopg [0, 1] k1 (fun kq v0 v1 w' => ∃ (x0_2 : List Int) (x1_2 : Int), v1 = .int .i64 x1_2 ∧ Aside0 (weigh_nat_ten.l1 kq x0_2 x1_2 = some r) ∧ Aside0 (kq ≤ k1) ∧ Aside0 (Kd.V (Kd.int .u32) 84 w' w.heap.size (fun k_ => (P0_ k_ ∨ w.heap.size ≤ k_)) v0 x0_2) ∧ Aside0 (Below w.heap.size w w'))
   case atStart => exact ⟨(x0_1), (x1_1), sqE, H', ⟨Nat.le_refl _⟩, ⟨sqV HO_0.out⟩, ⟨sqB⟩⟩
   case round =>
    clear H'
    try clear p2
    try clear c3
    try clear c3b0
    try clear c4
    try clear p6
    try clear p2
    obtain ⟨x0_2, x1_2, rfl, HA, HK2, HO_0, HB⟩ := hrel
    cases gk with
    | zero => exact absurd HA.out (by simp [weigh_nat_ten.l1])
    | succ k2 =>
     have H := HA.out
     clear HA
     simp only [weigh_nat_ten.l1] at H
     by_cases c7 : x1_2 > 0
     ·rw [if_pos c7] at H
      have c7b0 := decide_eq_true c7
      clear c7
      replace H := Option.bind_eq_some_iff.mp H
      obtain ⟨t251, A80, H⟩ := H
      try dsimp only at H
      have A8 := Aside0.mk A80
      clear A80
      have H' := Aside0.mk H
      clear H
      obtain ⟨Ao9, co9, eo9⟩ := Kd.V_slice HO_0.out
      subst eo9
      go_wp2_with (first | ((with_reducible refine gate_callee (f := 75) rfl ?_); refine goesL_ (some 16) rfl rfl Tryd.func75 (by kernel_rfl) rfl #[.slice Ao9 x0_2.length co9, .int .u32 10] rfl sqA ?_; (with_reducible refine (weigh_nat_times.calls k2 _ _ x0_2 10 t251 _ ?side1 ?side2 A8.out).mono ?_); (case side1 => repeat (first | exact (Kd.V_reads' HO_0.out).2.2 | (with_reducible refine Kd.C_alloc ?_ _) | (with_reducible refine Kd.C_drewN ?_ _) | (with_reducible refine Kd.C_drew ?_))); (case side2 => exact (Kd.V_reads' HO_0.out).2.1); rintro e w10 ⟨v252, rfl, ho0, hb⟩; refine ⟨_, rfl, ?_⟩; have n0_ := Aside0.mk (Kd.V_below (sqV HO_0.out) hb); have n1_ := Aside0.mk (Kd.V_lower (Kd.V_mono (ok' := fun k_ => (P0_ k_ ∨ w.heap.size ≤ k_)) ho0 (fun k_ hk_ => (.inr (Nat.le_trans (below_size sqB) hk_)))) (below_size sqB)); have n2_ := Aside0.mk (below_step sqB hb); clear HO_0; clear HB; have HO_0 := n0_; have HO253 := n1_; have HB := n2_; clear n0_ n1_ n2_; (try clear hb); (try clear hb2); (try clear hk); (try clear hi); (try clear ho0)))
      go_roundg k2
      case measure => have := HK1.out; have := HK2.out; omega
      case rel => exact ⟨(t251), (wrap64 (x1_2 - 1)), sqE, H', ⟨by have := HK1.out; have := HK2.out; omega⟩, ⟨sqV HO253.out⟩, ⟨sqB⟩⟩
     rw [if_neg c7] at H
     have c7b0 := decide_eq_false c7
     clear c7
     obtain rfl := Option.some.inj H
     go_wp2
     go_ret
     exact ⟨_, sqE', sqV HO_0.out, sqB⟩

-- NOT PRINTED: function 90 (math_archLdexp)

/-! ### math_ldexp: function 91 -/
def math_ldexp.f (a0 : Nat) (a1 : Int) : Option (Nat) := if (FloatKind.f64.format.order a0 (0 : Nat) == some .eq) = true then (some a0) else ((math_IsInf.f a0 0).bind fun t254 => (if t254 = true then (some a0) else ((math_IsNaN.f a0).bind fun t255 => (if t255 = true then (some a0) else ((math_normalize.f a0).bind fun bt256 => (if (wrap64 ((wrap64 (a1 + bt256.2)) + (wrap64 ((Go.bits .and .i64 (wrap64 (((bt256.1 : Nat) : Int) / 4503599627370496)) 2047) - 1023)))) < (-1075) then ((math_Copysign.f (0 : Nat) bt256.1).bind fun t258 => (some t258)) else (if (wrap64 ((wrap64 (a1 + bt256.2)) + (wrap64 ((Go.bits .and .i64 (wrap64 (((bt256.1 : Nat) : Int) / 4503599627370496)) 2047) - 1023)))) > 1023 then (if (FloatKind.f64.format.order bt256.1 (0 : Nat) == some .lt) = true then ((math_Inf.f (-1)).bind fun t259 => (some t259)) else ((math_Inf.f 1).bind fun t260 => (some t260))) else (if (wrap64 ((wrap64 (a1 + bt256.2)) + (wrap64 ((Go.bits .and .i64 (wrap64 (((bt256.1 : Nat) : Int) / 4503599627370496)) 2047) - 1023)))) < (-1022) then ((floatBits .mul .f64 (4368491638549381120 : Nat) (((Go.bits .or .u64 (Go.bits .andNot .u64 ((bt256.1 : Nat) : Int) 9218868437227405312) (IntKind.u64.wrap ((IntKind.u64.wrap (wrap64 ((wrap64 ((wrap64 ((wrap64 (a1 + bt256.2)) + (wrap64 ((Go.bits .and .i64 (wrap64 (((bt256.1 : Nat) : Int) / 4503599627370496)) 2047) - 1023)))) + 53)) + 1023))) * 4503599627370496))) : Int).toNat)).bind fun t261 => (some t261)) else ((floatBits .mul .f64 (4607182418800017408 : Nat) (((Go.bits .or .u64 (Go.bits .andNot .u64 ((bt256.1 : Nat) : Int) 9218868437227405312) (IntKind.u64.wrap ((IntKind.u64.wrap (wrap64 ((wrap64 ((wrap64 (a1 + bt256.2)) + (wrap64 ((Go.bits .and .i64 (wrap64 (((bt256.1 : Nat) : Int) / 4503599627370496)) 2047) - 1023)))) + 1023))) * 4503599627370496))) : Int).toNat)).bind fun t262 => (some t262))))))))))
set_option maxHeartbeats 8000000 in
set_option maxRecDepth 100000 in
theorem math_ldexp.calls (a0 : Nat) (a1 : Int) (r : Nat) (w : World) (h : math_ldexp.f a0 a1 = some r) :
  Calls Tryd.prog 91 #[.float .f64 a0, .int .i64 a1] w fun e w' => e = .returned (.float .f64 r) ∧ Drawn0 w w' := by
 have H : (if (FloatKind.f64.format.order a0 (0 : Nat) == some .eq) = true then (some a0) else ((math_IsInf.f a0 0).bind fun t254 => (if t254 = true then (some a0) else ((math_IsNaN.f a0).bind fun t255 => (if t255 = true then (some a0) else ((math_normalize.f a0).bind fun bt256 => (if (wrap64 ((wrap64 (a1 + bt256.2)) + (wrap64 ((Go.bits .and .i64 (wrap64 (((bt256.1 : Nat) : Int) / 4503599627370496)) 2047) - 1023)))) < (-1075) then ((math_Copysign.f (0 : Nat) bt256.1).bind fun t258 => (some t258)) else (if (wrap64 ((wrap64 (a1 + bt256.2)) + (wrap64 ((Go.bits .and .i64 (wrap64 (((bt256.1 : Nat) : Int) / 4503599627370496)) 2047) - 1023)))) > 1023 then (if (FloatKind.f64.format.order bt256.1 (0 : Nat) == some .lt) = true then ((math_Inf.f (-1)).bind fun t259 => (some t259)) else ((math_Inf.f 1).bind fun t260 => (some t260))) else (if (wrap64 ((wrap64 (a1 + bt256.2)) + (wrap64 ((Go.bits .and .i64 (wrap64 (((bt256.1 : Nat) : Int) / 4503599627370496)) 2047) - 1023)))) < (-1022) then ((floatBits .mul .f64 (4368491638549381120 : Nat) (((Go.bits .or .u64 (Go.bits .andNot .u64 ((bt256.1 : Nat) : Int) 9218868437227405312) (IntKind.u64.wrap ((IntKind.u64.wrap (wrap64 ((wrap64 ((wrap64 ((wrap64 (a1 + bt256.2)) + (wrap64 ((Go.bits .and .i64 (wrap64 (((bt256.1 : Nat) : Int) / 4503599627370496)) 2047) - 1023)))) + 53)) + 1023))) * 4503599627370496))) : Int).toNat)).bind fun t261 => (some t261)) else ((floatBits .mul .f64 (4607182418800017408 : Nat) (((Go.bits .or .u64 (Go.bits .andNot .u64 ((bt256.1 : Nat) : Int) 9218868437227405312) (IntKind.u64.wrap ((IntKind.u64.wrap (wrap64 ((wrap64 ((wrap64 (a1 + bt256.2)) + (wrap64 ((Go.bits .and .i64 (wrap64 (((bt256.1 : Nat) : Int) / 4503599627370496)) 2047) - 1023)))) + 1023))) * 4503599627370496))) : Int).toNat)).bind fun t262 => (some t262))))))))))) = some r := h
 clear h
 by_cases c3 : (FloatKind.f64.format.order a0 (0 : Nat) == some .eq) = true
 ·rw [if_pos c3] at H
  have c3b0 : (FloatKind.f64.format.order a0 (0 : Nat) == some .eq) = true := c3
  (try (have c3b1 : decide (FloatKind.f64.format.order a0 (0 : Nat) = some .eq) = true := by simpa using c3))
  (try (have c3b2 : (FloatKind.f64.format.order a0 (0 : Nat) == some .eq) = true := by simpa using c3))
  clear c3
  obtain rfl := Option.some.inj H
  go_enter Tryd.func91, Tryd.ntmps91
  go_wp2
  go_ret
  exact ⟨sqE, sqW⟩
 rw [if_neg c3] at H
 have c3b0 : (FloatKind.f64.format.order a0 (0 : Nat) == some .eq) = false := by simpa using c3
 (try (have c3b1 : decide (FloatKind.f64.format.order a0 (0 : Nat) = some .eq) = false := by simpa using c3))
 (try (have c3b2 : (FloatKind.f64.format.order a0 (0 : Nat) == some .eq) = false := by simpa using c3))
 (try (have c3b3 : ¬ (FloatKind.f64.format.order a0 (0 : Nat) = some .eq) := by simpa using c3))
 clear c3
 replace H := Option.bind_eq_some_iff.mp H
 obtain ⟨t254, A40, H⟩ := H
 try dsimp only at H
 have A4 := Aside0.mk A40
 clear A40
 by_cases c5 : t254 = true
 ·subst c5
  have H1 : (some a0) = some r := by rw [if_pos rfl] at H; exact H
  clear H
  have H := H1
  clear H1
  obtain rfl := Option.some.inj H
  go_enter Tryd.func91, Tryd.ntmps91
  go_wp2_with (first | ((with_reducible refine gate_callee (f := 37) rfl ?_); refine goesL_ (some 14) rfl rfl Tryd.func37 (by kernel_rfl) rfl #[.float .f64 a0, .int .i64 0] rfl sqA ?_; (with_reducible refine (math_IsInf.calls a0 0 true _ A4.out).mono ?_); rintro e w' ⟨rfl, ⟨nd, rfl⟩⟩; refine ⟨_, rfl, ?_⟩))
  go_ret
  exact ⟨sqE, sqW⟩
 replace c5 := Bool.eq_false_iff.mpr c5
 subst c5
 have H1 : ((math_IsNaN.f a0).bind fun t255 => (if t255 = true then (some a0) else ((math_normalize.f a0).bind fun bt256 => (if (wrap64 ((wrap64 (a1 + bt256.2)) + (wrap64 ((Go.bits .and .i64 (wrap64 (((bt256.1 : Nat) : Int) / 4503599627370496)) 2047) - 1023)))) < (-1075) then ((math_Copysign.f (0 : Nat) bt256.1).bind fun t258 => (some t258)) else (if (wrap64 ((wrap64 (a1 + bt256.2)) + (wrap64 ((Go.bits .and .i64 (wrap64 (((bt256.1 : Nat) : Int) / 4503599627370496)) 2047) - 1023)))) > 1023 then (if (FloatKind.f64.format.order bt256.1 (0 : Nat) == some .lt) = true then ((math_Inf.f (-1)).bind fun t259 => (some t259)) else ((math_Inf.f 1).bind fun t260 => (some t260))) else (if (wrap64 ((wrap64 (a1 + bt256.2)) + (wrap64 ((Go.bits .and .i64 (wrap64 (((bt256.1 : Nat) : Int) / 4503599627370496)) 2047) - 1023)))) < (-1022) then ((floatBits .mul .f64 (4368491638549381120 : Nat) (((Go.bits .or .u64 (Go.bits .andNot .u64 ((bt256.1 : Nat) : Int) 9218868437227405312) (IntKind.u64.wrap ((IntKind.u64.wrap (wrap64 ((wrap64 ((wrap64 ((wrap64 (a1 + bt256.2)) + (wrap64 ((Go.bits .and .i64 (wrap64 (((bt256.1 : Nat) : Int) / 4503599627370496)) 2047) - 1023)))) + 53)) + 1023))) * 4503599627370496))) : Int).toNat)).bind fun t261 => (some t261)) else ((floatBits .mul .f64 (4607182418800017408 : Nat) (((Go.bits .or .u64 (Go.bits .andNot .u64 ((bt256.1 : Nat) : Int) 9218868437227405312) (IntKind.u64.wrap ((IntKind.u64.wrap (wrap64 ((wrap64 ((wrap64 (a1 + bt256.2)) + (wrap64 ((Go.bits .and .i64 (wrap64 (((bt256.1 : Nat) : Int) / 4503599627370496)) 2047) - 1023)))) + 1023))) * 4503599627370496))) : Int).toNat)).bind fun t262 => (some t262)))))))) = some r := by rw [if_neg (show ¬ (false = true) by decide)] at H; exact H
 clear H
 have H := H1
 clear H1
 replace H := Option.bind_eq_some_iff.mp H
 obtain ⟨t255, A60, H⟩ := H
 try dsimp only at H
 have A6 := Aside0.mk A60
 clear A60
 by_cases c7 : t255 = true
 ·subst c7
  have H1 : (some a0) = some r := by rw [if_pos rfl] at H; exact H
  clear H
  have H := H1
  clear H1
  obtain rfl := Option.some.inj H
  go_enter Tryd.func91, Tryd.ntmps91
  go_wp2_with (first | ((with_reducible refine gate_callee (f := 37) rfl ?_); refine goesL_ (some 14) rfl rfl Tryd.func37 (by kernel_rfl) rfl #[.float .f64 a0, .int .i64 0] rfl sqA ?_; (with_reducible refine (math_IsInf.calls a0 0 false _ A4.out).mono ?_); rintro e w' ⟨rfl, ⟨nd, rfl⟩⟩; refine ⟨_, rfl, ?_⟩) | (go_at_call 83; (with_reducible refine (math_IsNaN.calls a0 true _ A6.out).mono ?_); rintro e w' ⟨rfl, ⟨nd, rfl⟩⟩))
  go_ret
  exact ⟨sqE, sqW⟩
 replace c7 := Bool.eq_false_iff.mpr c7
 subst c7
 have H1 : ((math_normalize.f a0).bind fun bt256 => (if (wrap64 ((wrap64 (a1 + bt256.2)) + (wrap64 ((Go.bits .and .i64 (wrap64 (((bt256.1 : Nat) : Int) / 4503599627370496)) 2047) - 1023)))) < (-1075) then ((math_Copysign.f (0 : Nat) bt256.1).bind fun t258 => (some t258)) else (if (wrap64 ((wrap64 (a1 + bt256.2)) + (wrap64 ((Go.bits .and .i64 (wrap64 (((bt256.1 : Nat) : Int) / 4503599627370496)) 2047) - 1023)))) > 1023 then (if (FloatKind.f64.format.order bt256.1 (0 : Nat) == some .lt) = true then ((math_Inf.f (-1)).bind fun t259 => (some t259)) else ((math_Inf.f 1).bind fun t260 => (some t260))) else (if (wrap64 ((wrap64 (a1 + bt256.2)) + (wrap64 ((Go.bits .and .i64 (wrap64 (((bt256.1 : Nat) : Int) / 4503599627370496)) 2047) - 1023)))) < (-1022) then ((floatBits .mul .f64 (4368491638549381120 : Nat) (((Go.bits .or .u64 (Go.bits .andNot .u64 ((bt256.1 : Nat) : Int) 9218868437227405312) (IntKind.u64.wrap ((IntKind.u64.wrap (wrap64 ((wrap64 ((wrap64 ((wrap64 (a1 + bt256.2)) + (wrap64 ((Go.bits .and .i64 (wrap64 (((bt256.1 : Nat) : Int) / 4503599627370496)) 2047) - 1023)))) + 53)) + 1023))) * 4503599627370496))) : Int).toNat)).bind fun t261 => (some t261)) else ((floatBits .mul .f64 (4607182418800017408 : Nat) (((Go.bits .or .u64 (Go.bits .andNot .u64 ((bt256.1 : Nat) : Int) 9218868437227405312) (IntKind.u64.wrap ((IntKind.u64.wrap (wrap64 ((wrap64 ((wrap64 (a1 + bt256.2)) + (wrap64 ((Go.bits .and .i64 (wrap64 (((bt256.1 : Nat) : Int) / 4503599627370496)) 2047) - 1023)))) + 1023))) * 4503599627370496))) : Int).toNat)).bind fun t262 => (some t262)))))) = some r := by rw [if_neg (show ¬ (false = true) by decide)] at H; exact H
 clear H
 have H := H1
 clear H1
 replace H := Option.bind_eq_some_iff.mp H
 obtain ⟨⟨t256, t257⟩, A80, H⟩ := H
 try dsimp only at H
 have A8 := Aside0.mk A80
 clear A80
 have hf9 := fun w_ : World => Rm.x_Float64bits t256 w_
 by_cases c10 : (wrap64 ((wrap64 (a1 + t257)) + (wrap64 ((Go.bits .and .i64 (wrap64 (((t256 : Nat) : Int) / 4503599627370496)) 2047) - 1023)))) < (-1075)
 ·rw [if_pos c10] at H
  have c10b0 := decide_eq_true c10
  clear c10
  replace H := Option.bind_eq_some_iff.mp H
  obtain ⟨t258, A110, H⟩ := H
  try dsimp only at H
  have A11 := Aside0.mk A110
  clear A110
  obtain rfl := Option.some.inj H
  go_enter Tryd.func91, Tryd.ntmps91
  go_wp2_with (first | ((with_reducible refine gate_callee (f := 37) rfl ?_); refine goesL_ (some 14) rfl rfl Tryd.func37 (by kernel_rfl) rfl #[.float .f64 a0, .int .i64 0] rfl sqA ?_; (with_reducible refine (math_IsInf.calls a0 0 false _ A4.out).mono ?_); rintro e w' ⟨rfl, ⟨nd, rfl⟩⟩; refine ⟨_, rfl, ?_⟩) | (go_at_call 83; (with_reducible refine (math_IsNaN.calls a0 false _ A6.out).mono ?_); rintro e w' ⟨rfl, ⟨nd, rfl⟩⟩) | ((with_reducible refine gate_callee (f := 99) rfl ?_); refine goesL_ (some 22) rfl rfl Tryd.func99 (by kernel_rfl) rfl #[.float .f64 a0] rfl sqA ?_; (with_reducible refine (math_normalize.calls a0 t256 t257 _ A8.out).mono ?_); rintro e w' ⟨rfl, ⟨nd, rfl⟩⟩; refine ⟨_, rfl, ?_⟩) | ((with_reducible refine gate_callee (f := 48) rfl ?_); refine goesL_ (some 40) rfl rfl Tryd.func48 (by kernel_rfl) rfl #[.float .f64 (0 : Nat), .float .f64 t256] rfl sqA ?_; (with_reducible refine (math_Copysign.calls (0 : Nat) t256 t258 _ A11.out).mono ?_); rintro e w' ⟨rfl, ⟨nd, rfl⟩⟩; refine ⟨_, rfl, ?_⟩))
  go_ret
  exact ⟨sqE, sqW⟩
 rw [if_neg c10] at H
 have c10b0 := decide_eq_false c10
 clear c10
 by_cases c12 : (wrap64 ((wrap64 (a1 + t257)) + (wrap64 ((Go.bits .and .i64 (wrap64 (((t256 : Nat) : Int) / 4503599627370496)) 2047) - 1023)))) > 1023
 ·rw [if_pos c12] at H
  have c12b0 := decide_eq_true c12
  clear c12
  by_cases c13 : (FloatKind.f64.format.order t256 (0 : Nat) == some .lt) = true
  ·rw [if_pos c13] at H
   have c13b0 : (FloatKind.f64.format.order t256 (0 : Nat) == some .lt) = true := c13
   (try (have c13b1 : decide (FloatKind.f64.format.order t256 (0 : Nat) = some .lt) = true := by simpa using c13))
   (try (have c13b2 : (FloatKind.f64.format.order t256 (0 : Nat) == some .lt) = true := by simpa using c13))
   clear c13
   replace H := Option.bind_eq_some_iff.mp H
   obtain ⟨t259, A140, H⟩ := H
   try dsimp only at H
   have A14 := Aside0.mk A140
   clear A140
   obtain rfl := Option.some.inj H
   go_enter Tryd.func91, Tryd.ntmps91
   go_wp2_with (first | ((with_reducible refine gate_callee (f := 37) rfl ?_); refine goesL_ (some 14) rfl rfl Tryd.func37 (by kernel_rfl) rfl #[.float .f64 a0, .int .i64 0] rfl sqA ?_; (with_reducible refine (math_IsInf.calls a0 0 false _ A4.out).mono ?_); rintro e w' ⟨rfl, ⟨nd, rfl⟩⟩; refine ⟨_, rfl, ?_⟩) | (go_at_call 83; (with_reducible refine (math_IsNaN.calls a0 false _ A6.out).mono ?_); rintro e w' ⟨rfl, ⟨nd, rfl⟩⟩) | ((with_reducible refine gate_callee (f := 99) rfl ?_); refine goesL_ (some 22) rfl rfl Tryd.func99 (by kernel_rfl) rfl #[.float .f64 a0] rfl sqA ?_; (with_reducible refine (math_normalize.calls a0 t256 t257 _ A8.out).mono ?_); rintro e w' ⟨rfl, ⟨nd, rfl⟩⟩; refine ⟨_, rfl, ?_⟩) | ((with_reducible refine gate_callee (f := 42) rfl ?_); refine goesL_ (some 45) rfl rfl Tryd.func42 (by kernel_rfl) rfl #[.int .i64 (-1)] rfl sqA ?_; (with_reducible refine (math_Inf.calls (-1) t259 _ A14.out).mono ?_); rintro e w' ⟨rfl, ⟨nd, rfl⟩⟩; refine ⟨_, rfl, ?_⟩))
   go_ret
   exact ⟨sqE, sqW⟩
  rw [if_neg c13] at H
  have c13b0 : (FloatKind.f64.format.order t256 (0 : Nat) == some .lt) = false := by simpa using c13
  (try (have c13b1 : decide (FloatKind.f64.format.order t256 (0 : Nat) = some .lt) = false := by simpa using c13))
  (try (have c13b2 : (FloatKind.f64.format.order t256 (0 : Nat) == some .lt) = false := by simpa using c13))
  (try (have c13b3 : ¬ (FloatKind.f64.format.order t256 (0 : Nat) = some .lt) := by simpa using c13))
  clear c13
  replace H := Option.bind_eq_some_iff.mp H
  obtain ⟨t260, A150, H⟩ := H
  try dsimp only at H
  have A15 := Aside0.mk A150
  clear A150
  obtain rfl := Option.some.inj H
  go_enter Tryd.func91, Tryd.ntmps91
  go_wp2_with (first | ((with_reducible refine gate_callee (f := 37) rfl ?_); refine goesL_ (some 14) rfl rfl Tryd.func37 (by kernel_rfl) rfl #[.float .f64 a0, .int .i64 0] rfl sqA ?_; (with_reducible refine (math_IsInf.calls a0 0 false _ A4.out).mono ?_); rintro e w' ⟨rfl, ⟨nd, rfl⟩⟩; refine ⟨_, rfl, ?_⟩) | (go_at_call 83; (with_reducible refine (math_IsNaN.calls a0 false _ A6.out).mono ?_); rintro e w' ⟨rfl, ⟨nd, rfl⟩⟩) | ((with_reducible refine gate_callee (f := 99) rfl ?_); refine goesL_ (some 22) rfl rfl Tryd.func99 (by kernel_rfl) rfl #[.float .f64 a0] rfl sqA ?_; (with_reducible refine (math_normalize.calls a0 t256 t257 _ A8.out).mono ?_); rintro e w' ⟨rfl, ⟨nd, rfl⟩⟩; refine ⟨_, rfl, ?_⟩) | ((with_reducible refine gate_callee (f := 42) rfl ?_); refine goesL_ (some 46) rfl rfl Tryd.func42 (by kernel_rfl) rfl #[.int .i64 1] rfl sqA ?_; (with_reducible refine (math_Inf.calls 1 t260 _ A15.out).mono ?_); rintro e w' ⟨rfl, ⟨nd, rfl⟩⟩; refine ⟨_, rfl, ?_⟩))
  go_ret
  exact ⟨sqE, sqW⟩
 rw [if_neg c12] at H
 have c12b0 := decide_eq_false c12
 clear c12
 by_cases c16 : (wrap64 ((wrap64 (a1 + t257)) + (wrap64 ((Go.bits .and .i64 (wrap64 (((t256 : Nat) : Int) / 4503599627370496)) 2047) - 1023)))) < (-1022)
 ·rw [if_pos c16] at H
  have c16b0 := decide_eq_true c16
  clear c16
  have hf17 := fun w_ : World => Rm.x_Float64frombits (Go.bits .or .u64 (Go.bits .andNot .u64 ((t256 : Nat) : Int) 9218868437227405312) (IntKind.u64.wrap ((IntKind.u64.wrap (wrap64 ((wrap64 ((wrap64 ((wrap64 (a1 + t257)) + (wrap64 ((Go.bits .and .i64 (wrap64 (((t256 : Nat) : Int) / 4503599627370496)) 2047) - 1023)))) + 53)) + 1023))) * 4503599627370496))) w_
  replace H := Option.bind_eq_some_iff.mp H
  obtain ⟨t261, A180, H⟩ := H
  try dsimp only at H
  have hf19 : ∀ w_ : World, Sem.run Tryd.prog (binOp .mul 23 (.float .f64 (4368491638549381120 : Nat)) (.float .f64 (((Go.bits .or .u64 (Go.bits .andNot .u64 ((t256 : Nat) : Int) 9218868437227405312) (IntKind.u64.wrap ((IntKind.u64.wrap (wrap64 ((wrap64 ((wrap64 ((wrap64 (a1 + t257)) + (wrap64 ((Go.bits .and .i64 (wrap64 (((t256 : Nat) : Int) / 4503599627370496)) 2047) - 1023)))) + 53)) + 1023))) * 4503599627370496))) : Int).toNat))) w_ = .ok (.float .f64 t261) w_ := fun w_ => run_float_arith w_ .mul 23 .f64 (4368491638549381120 : Nat) (((Go.bits .or .u64 (Go.bits .andNot .u64 ((t256 : Nat) : Int) 9218868437227405312) (IntKind.u64.wrap ((IntKind.u64.wrap (wrap64 ((wrap64 ((wrap64 ((wrap64 (a1 + t257)) + (wrap64 ((Go.bits .and .i64 (wrap64 (((t256 : Nat) : Int) / 4503599627370496)) 2047) - 1023)))) + 53)) + 1023))) * 4503599627370496))) : Int).toNat) t261 A180
  clear A180
  obtain rfl := Option.some.inj H
  go_enter Tryd.func91, Tryd.ntmps91
  go_wp2_with (first | ((with_reducible refine gate_callee (f := 37) rfl ?_); refine goesL_ (some 14) rfl rfl Tryd.func37 (by kernel_rfl) rfl #[.float .f64 a0, .int .i64 0] rfl sqA ?_; (with_reducible refine (math_IsInf.calls a0 0 false _ A4.out).mono ?_); rintro e w' ⟨rfl, ⟨nd, rfl⟩⟩; refine ⟨_, rfl, ?_⟩) | (go_at_call 83; (with_reducible refine (math_IsNaN.calls a0 false _ A6.out).mono ?_); rintro e w' ⟨rfl, ⟨nd, rfl⟩⟩) | ((with_reducible refine gate_callee (f := 99) rfl ?_); refine goesL_ (some 22) rfl rfl Tryd.func99 (by kernel_rfl) rfl #[.float .f64 a0] rfl sqA ?_; (with_reducible refine (math_normalize.calls a0 t256 t257 _ A8.out).mono ?_); rintro e w' ⟨rfl, ⟨nd, rfl⟩⟩; refine ⟨_, rfl, ?_⟩))
  go_ret
  exact ⟨sqE, sqW⟩
 rw [if_neg c16] at H
 have c16b0 := decide_eq_false c16
 clear c16
 have hf20 := fun w_ : World => Rm.x_Float64frombits (Go.bits .or .u64 (Go.bits .andNot .u64 ((t256 : Nat) : Int) 9218868437227405312) (IntKind.u64.wrap ((IntKind.u64.wrap (wrap64 ((wrap64 ((wrap64 (a1 + t257)) + (wrap64 ((Go.bits .and .i64 (wrap64 (((t256 : Nat) : Int) / 4503599627370496)) 2047) - 1023)))) + 1023))) * 4503599627370496))) w_
 replace H := Option.bind_eq_some_iff.mp H
 obtain ⟨t262, A210, H⟩ := H
 try dsimp only at H
 have hf22 : ∀ w_ : World, Sem.run Tryd.prog (binOp .mul 23 (.float .f64 (4607182418800017408 : Nat)) (.float .f64 (((Go.bits .or .u64 (Go.bits .andNot .u64 ((t256 : Nat) : Int) 9218868437227405312) (IntKind.u64.wrap ((IntKind.u64.wrap (wrap64 ((wrap64 ((wrap64 (a1 + t257)) + (wrap64 ((Go.bits .and .i64 (wrap64 (((t256 : Nat) : Int) / 4503599627370496)) 2047) - 1023)))) + 1023))) * 4503599627370496))) : Int).toNat))) w_ = .ok (.float .f64 t262) w_ := fun w_ => run_float_arith w_ .mul 23 .f64 (4607182418800017408 : Nat) (((Go.bits .or .u64 (Go.bits .andNot .u64 ((t256 : Nat) : Int) 9218868437227405312) (IntKind.u64.wrap ((IntKind.u64.wrap (wrap64 ((wrap64 ((wrap64 (a1 + t257)) + (wrap64 ((Go.bits .and .i64 (wrap64 (((t256 : Nat) : Int) / 4503599627370496)) 2047) - 1023)))) + 1023))) * 4503599627370496))) : Int).toNat) t262 A210
 clear A210
 obtain rfl := Option.some.inj H
 go_enter Tryd.func91, Tryd.ntmps91
 go_wp2_with (first | ((with_reducible refine gate_callee (f := 37) rfl ?_); refine goesL_ (some 14) rfl rfl Tryd.func37 (by kernel_rfl) rfl #[.float .f64 a0, .int .i64 0] rfl sqA ?_; (with_reducible refine (math_IsInf.calls a0 0 false _ A4.out).mono ?_); rintro e w' ⟨rfl, ⟨nd, rfl⟩⟩; refine ⟨_, rfl, ?_⟩) | (go_at_call 83; (with_reducible refine (math_IsNaN.calls a0 false _ A6.out).mono ?_); rintro e w' ⟨rfl, ⟨nd, rfl⟩⟩) | ((with_reducible refine gate_callee (f := 99) rfl ?_); refine goesL_ (some 22) rfl rfl Tryd.func99 (by kernel_rfl) rfl #[.float .f64 a0] rfl sqA ?_; (with_reducible refine (math_normalize.calls a0 t256 t257 _ A8.out).mono ?_); rintro e w' ⟨rfl, ⟨nd, rfl⟩⟩; refine ⟨_, rfl, ?_⟩))
 go_ret
 exact ⟨sqE, sqW⟩

/-! ### math_Ldexp: function 73 -/
def math_Ldexp.f (a0 : Nat) (a1 : Int) : Option (Nat) := (math_ldexp.f a0 a1).bind fun t263 => (some t263)
set_option maxHeartbeats 8000000 in
set_option maxRecDepth 100000 in
theorem math_Ldexp.calls (a0 : Nat) (a1 : Int) (r : Nat) (w : World) (h : math_Ldexp.f a0 a1 = some r) :
  Calls Tryd.prog 73 #[.float .f64 a0, .int .i64 a1] w fun e w' => e = .returned (.float .f64 r) ∧ Drawn0 w w' := by
 have H : ((math_ldexp.f a0 a1).bind fun t263 => (some t263)) = some r := h
 clear h
 replace H := Option.bind_eq_some_iff.mp H
 obtain ⟨t263, A30, H⟩ := H
 try dsimp only at H
 have A3 := Aside0.mk A30
 clear A30
 obtain rfl := Option.some.inj H
 go_enter Tryd.func73, Tryd.ntmps73
 go_wp2_with (first | ((with_reducible refine gate_callee (f := 91) rfl ?_); refine goesL_ (some 10) rfl rfl Tryd.func91 (by kernel_rfl) rfl #[.float .f64 a0, .int .i64 a1] rfl sqA ?_; (with_reducible refine (math_ldexp.calls a0 a1 t263 _ A3.out).mono ?_); rintro e w' ⟨rfl, ⟨nd, rfl⟩⟩; refine ⟨_, rfl, ?_⟩))
 go_ret
 exact ⟨sqE, sqW⟩

/-! ### weigh_parts: function 92 -/
def weigh_parts.f (k : Nat) (a0 : Nat) : Option (Int × Int) := (math_Abs.f a0).bind fun t264 => ((math_Frexp.f k t264).bind fun bt265 => ((math_Ldexp.f bt265.1 53).bind fun t267 => ((floatToIntVal .f64 t267 .u64).bind fun t268 => (some (t268, wrap64 (bt265.2 - 53))))))
theorem weigh_parts.mono : ∀ a0 k, LeO (weigh_parts.f k a0) (weigh_parts.f (k + 1) a0) := by
 intro a0 k
 unfold weigh_parts.f
 repeat' first | (with_reducible first | apply math_Frexp.mono | apply LeO.refl | apply LeO.none | refine LeO.ite ?_ ?_ | refine LeO.bind ?_ (fun _ => ?_)) | apply math_Frexp.mono | apply LeO.none | refine LeO.ite ?_ ?_ | refine LeO.bind ?_ (fun _ => ?_)
set_option maxHeartbeats 8000000 in
set_option maxRecDepth 100000 in
theorem weigh_parts.calls (k : Nat) (a0 : Nat) (r1 : Int) (r2 : Int) (w : World) (h : weigh_parts.f k a0 = some (r1, r2)) :
  Calls Tryd.prog 92 #[.float .f64 a0] w fun e w' => e = .returned (.tuple #[.int .u64 r1, .int .i64 r2]) ∧ Drawn0 w w' := by
 have H : ((math_Abs.f a0).bind fun t264 => ((math_Frexp.f k t264).bind fun bt265 => ((math_Ldexp.f bt265.1 53).bind fun t267 => ((floatToIntVal .f64 t267 .u64).bind fun t268 => (some (t268, wrap64 (bt265.2 - 53))))))) = some (r1, r2) := h
 clear h
 replace H := Option.bind_eq_some_iff.mp H
 obtain ⟨t264, A20, H⟩ := H
 try dsimp only at H
 have A2 := Aside0.mk A20
 clear A20
 replace H := Option.bind_eq_some_iff.mp H
 obtain ⟨⟨t265, t266⟩, A30, H⟩ := H
 try dsimp only at H
 have A3 := Aside0.mk A30
 clear A30
 replace H := Option.bind_eq_some_iff.mp H
 obtain ⟨t267, A40, H⟩ := H
 try dsimp only at H
 have A4 := Aside0.mk A40
 clear A40
 replace H := Option.bind_eq_some_iff.mp H
 obtain ⟨t268, A50, H⟩ := H
 try dsimp only at H
 have hf6 : ∀ w_ : World, Sem.run Tryd.prog (convert 23 22 (.float .f64 t267)) w_ = .ok (.int .u64 t268) w_ := fun w_ => run_convert_float_int w_ 23 22 .f64 .u64 t267 t268 (by rw [Tryd.underlying23]; rfl) Tryd.underlying22 A50
 clear A50
 simp only [Option.some.injEq, Prod.mk.injEq] at H
 obtain ⟨rfl, rfl⟩ := H
 go_enter Tryd.func92, Tryd.ntmps92
 go_wp2_with (first | ((with_reducible refine gate_callee (f := 60) rfl ?_); refine goesL_ (some 7) rfl rfl Tryd.func60 (by kernel_rfl) rfl #[.float .f64 a0] rfl sqA ?_; (with_reducible refine (math_Abs.calls a0 t264 _ A2.out).mono ?_); rintro e w' ⟨rfl, ⟨nd, rfl⟩⟩; refine ⟨_, rfl, ?_⟩) | ((with_reducible refine gate_callee (f := 100) rfl ?_); refine goesL_ (some 8) rfl rfl Tryd.func100 (by kernel_rfl) rfl #[.float .f64 t264] rfl sqA ?_; (with_reducible refine (math_Frexp.calls k t264 t265 t266 _ A3.out).mono ?_); rintro e w' ⟨rfl, ⟨nd, rfl⟩⟩; refine ⟨_, rfl, ?_⟩) | ((with_reducible refine gate_callee (f := 73) rfl ?_); refine goesL_ (some 12) rfl rfl Tryd.func73 (by kernel_rfl) rfl #[.float .f64 t265, .int .i64 53] rfl sqA ?_; (with_reducible refine (math_Ldexp.calls t265 53 t267 _ A4.out).mono ?_); rintro e w' ⟨rfl, ⟨nd, rfl⟩⟩; refine ⟨_, rfl, ?_⟩))
 go_ret2
 exact ⟨sqE, sqW⟩

/-! ### weigh_fraction: function 86 -/
def weigh_fraction.f (k : Nat) (a0 : Nat) (a1 : Int) : Option (List Int × List Int) := (weigh_parts.f k a0).bind fun bt269 => ((weigh_natOf.f k bt269.1).bind fun t271 => ((weigh_nat_ten.f k t271 (wrap64 (-a1))).bind fun t274 => ((weigh_nat_up.f k t274 bt269.2).bind fun t277 => ((weigh_natOf.f k 1).bind fun t280 => ((weigh_nat_ten.f k t280 a1).bind fun t283 => ((weigh_nat_up.f k t283 (wrap64 (-bt269.2))).bind fun t286 => (some (t277, t286))))))))
theorem weigh_fraction.mono : ∀ a0 a1 k, LeO (weigh_fraction.f k a0 a1) (weigh_fraction.f (k + 1) a0 a1) := by
 intro a0 a1 k
 unfold weigh_fraction.f
 repeat' first | (with_reducible first | apply weigh_natOf.mono | apply weigh_nat_ten.mono | apply weigh_nat_up.mono | apply weigh_parts.mono | apply LeO.refl | apply LeO.none | refine LeO.ite ?_ ?_ | refine LeO.bind ?_ (fun _ => ?_)) | apply weigh_natOf.mono | apply weigh_nat_ten.mono | apply weigh_nat_up.mono | apply weigh_parts.mono | apply LeO.none | refine LeO.ite ?_ ?_ | refine LeO.bind ?_ (fun _ => ?_)
set_option maxHeartbeats 8000000 in
set_option maxRecDepth 100000 in
theorem weigh_fraction.calls (k : Nat) (a0 : Nat) (a1 : Int) (r1 : List Int) (r2 : List Int) (w : World) (h : weigh_fraction.f k a0 a1 = some (r1, r2)) :
  Calls Tryd.prog 86 #[.float .f64 a0, .int .i64 a1] w fun e w' => ∃ v0_ v1_ : Value, e = .returned (.tuple #[v0_, v1_]) ∧ Kd.V (Kd.int .u32) 84 w' w.heap.size (fun k_ => (w.heap.size ≤ k_)) v0_ r1 ∧ Kd.V (Kd.int .u32) 84 w' w.heap.size (fun k_ => (w.heap.size ≤ k_)) v1_ r2 ∧ Below w.heap.size w w' := by
 have HB := Aside0.mk (Below.refl w.heap.size w)
 have H : ((weigh_parts.f k a0).bind fun bt269 => ((weigh_natOf.f k bt269.1).bind fun t271 => ((weigh_nat_ten.f k t271 (wrap64 (-a1))).bind fun t274 => ((weigh_nat_up.f k t274 bt269.2).bind fun t277 => ((weigh_natOf.f k 1).bind fun t280 => ((weigh_nat_ten.f k t280 a1).bind fun t283 => ((weigh_nat_up.f k t283 (wrap64 (-bt269.2))).bind fun t286 => (some (t277, t286))))))))) = some (r1, r2) := h
 clear h
 replace H := Option.bind_eq_some_iff.mp H
 obtain ⟨⟨t269, t270⟩, A30, H⟩ := H
 try dsimp only at H
 have A3 := Aside0.mk A30
 clear A30
 replace H := Option.bind_eq_some_iff.mp H
 obtain ⟨t271, A40, H⟩ := H
 try dsimp only at H
 have A4 := Aside0.mk A40
 clear A40
 replace H := Option.bind_eq_some_iff.mp H
 obtain ⟨t274, A50, H⟩ := H
 try dsimp only at H
 have A5 := Aside0.mk A50
 clear A50
 replace H := Option.bind_eq_some_iff.mp H
 obtain ⟨t277, A60, H⟩ := H
 try dsimp only at H
 have A6 := Aside0.mk A60
 clear A60
 replace H := Option.bind_eq_some_iff.mp H
 obtain ⟨t280, A70, H⟩ := H
 try dsimp only at H
 have A7 := Aside0.mk A70
 clear A70
 replace H := Option.bind_eq_some_iff.mp H
 obtain ⟨t283, A80, H⟩ := H
 try dsimp only at H
 have A8 := Aside0.mk A80
 clear A80
 replace H := Option.bind_eq_some_iff.mp H
 obtain ⟨t286, A90, H⟩ := H
 try dsimp only at H
 have A9 := Aside0.mk A90
 clear A90
 simp only [Option.some.injEq, Prod.mk.injEq] at H
 obtain ⟨rfl, rfl⟩ := H
 go_enter Tryd.func86, Tryd.ntmps86
 go_wp2_with (first | ((with_reducible refine gate_callee (f := 92) rfl ?_); refine goesL_ (some 10) rfl rfl Tryd.func92 (by kernel_rfl) rfl #[.float .f64 a0] rfl sqA ?_; (with_reducible refine (weigh_parts.calls k a0 t269 t270 _ A3.out).mono ?_); rintro e w' ⟨rfl, ⟨nd, rfl⟩⟩; refine ⟨_, rfl, ?_⟩) | ((with_reducible refine gate_callee (f := 46) rfl ?_); refine goesL_ (some 14) rfl rfl Tryd.func46 (by kernel_rfl) rfl #[.int .u64 t269] rfl sqA ?_; (with_reducible refine (weigh_natOf.calls k t269 t271 _ A4.out).mono ?_); rintro e w10 ⟨v272, rfl, ho0, hb⟩; refine ⟨_, rfl, ?_⟩; have n0_ := Aside0.mk (Kd.V_lower (Kd.V_mono (ok' := fun k_ => (w.heap.size ≤ k_)) ho0 (fun k_ hk_ => (Nat.le_trans (below_size sqB) hk_))) (below_size sqB)); have n1_ := Aside0.mk (below_step sqB hb); clear HB; have HO273 := n0_; have HB := n1_; clear n0_ n1_; (try clear hb); (try clear hb2); (try clear hk); (try clear hi); (try clear ho0); obtain ⟨Ao11, co11, eo11⟩ := Kd.V_slice HO273.out; subst eo11) | ((with_reducible refine gate_callee (f := 47) rfl ?_); refine goesL_ (some 17) rfl rfl Tryd.func47 (by kernel_rfl) rfl #[.slice Ao11 t271.length co11, .int .i64 (wrap64 (-a1))] rfl sqA ?_; (with_reducible refine (weigh_nat_ten.calls k (fun k_ => (w.heap.size ≤ k_)) _ _ t271 (wrap64 (-a1)) t274 _ ?side1 A5.out).mono ?_); (case side1 => exact HO273.out); rintro e w12 ⟨v275, rfl, ho0, hb⟩; refine ⟨_, rfl, ?_⟩; have n0_ := Aside0.mk (Kd.V_below (sqV HO273.out) hb); have n1_ := Aside0.mk (Kd.V_lower (Kd.V_mono (ok' := fun k_ => (w.heap.size ≤ k_)) ho0 (fun k_ hk_ => Or.elim hk_ (fun hs_ => hs_) (fun hn_ => (Nat.le_trans (below_size sqB) hn_)))) (below_size sqB)); have n2_ := Aside0.mk (below_step sqB hb); clear HO273; clear HB; have HO273 := n0_; have HO276 := n1_; have HB := n2_; clear n0_ n1_ n2_; (try clear hb); (try clear hb2); (try clear hk); (try clear hi); (try clear ho0); obtain ⟨Ao13, co13, eo13⟩ := Kd.V_slice HO276.out; subst eo13) | ((with_reducible refine gate_callee (f := 69) rfl ?_); refine goesL_ (some 19) rfl rfl Tryd.func69 (by kernel_rfl) rfl #[.slice Ao13 t274.length co13, .int .i64 t270] rfl sqA ?_; (with_reducible refine (weigh_nat_up.calls k (fun k_ => (w.heap.size ≤ k_)) _ _ t274 t270 t277 _ ?side1 A6.out).mono ?_); (case side1 => exact HO276.out); rintro e w14 ⟨v278, rfl, ho0, hb⟩; refine ⟨_, rfl, ?_⟩; have n0_ := Aside0.mk (Kd.V_below (sqV HO273.out) hb); have n1_ := Aside0.mk (Kd.V_below (sqV HO276.out) hb); have n2_ := Aside0.mk (Kd.V_lower (Kd.V_mono (ok' := fun k_ => (w.heap.size ≤ k_)) ho0 (fun k_ hk_ => Or.elim hk_ (fun hs_ => hs_) (fun hn_ => (Nat.le_trans (below_size sqB) hn_)))) (below_size sqB)); have n3_ := Aside0.mk (below_step sqB hb); clear HO273; clear HO276; clear HB; have HO273 := n0_; have HO276 := n1_; have HO279 := n2_; have HB := n3_; clear n0_ n1_ n2_ n3_; (try clear hb); (try clear hb2); (try clear hk); (try clear hi); (try clear ho0)) | ((with_reducible refine gate_callee (f := 46) rfl ?_); refine goesL_ (some 20) rfl rfl Tryd.func46 (by kernel_rfl) rfl #[.int .u64 1] rfl sqA ?_; (with_reducible refine (weigh_natOf.calls k 1 t280 _ A7.out).mono ?_); rintro e w15 ⟨v281, rfl, ho0, hb⟩; refine ⟨_, rfl, ?_⟩; have n0_ := Aside0.mk (Kd.V_below (sqV HO273.out) hb); have n1_ := Aside0.mk (Kd.V_below (sqV HO276.out) hb); have n2_ := Aside0.mk (Kd.V_below (sqV HO279.out) hb); have n3_ := Aside0.mk (Kd.V_lower (Kd.V_mono (ok' := fun k_ => (w.heap.size ≤ k_)) ho0 (fun k_ hk_ => (Nat.le_trans (below_size sqB) hk_))) (below_size sqB)); have n4_ := Aside0.mk (below_step sqB hb); clear HO273; clear HO276; clear HO279; clear HB; have HO273 := n0_; have HO276 := n1_; have HO279 := n2_; have HO282 := n3_; have HB := n4_; clear n0_ n1_ n2_ n3_ n4_; (try clear hb); (try clear hb2); (try clear hk); (try clear hi); (try clear ho0); obtain ⟨Ao16, co16, eo16⟩ := Kd.V_slice HO282.out; subst eo16) | ((with_reducible refine gate_callee (f := 47) rfl ?_); refine goesL_ (some 22) rfl rfl Tryd.func47 (by kernel_rfl) rfl #[.slice Ao16 t280.length co16, .int .i64 a1] rfl sqA ?_; (with_reducible refine (weigh_nat_ten.calls k (fun k_ => (w.heap.size ≤ k_)) _ _ t280 a1 t283 _ ?side1 A8.out).mono ?_); (case side1 => exact HO282.out); rintro e w17 ⟨v284, rfl, ho0, hb⟩; refine ⟨_, rfl, ?_⟩; have n0_ := Aside0.mk (Kd.V_below (sqV HO273.out) hb); have n1_ := Aside0.mk (Kd.V_below (sqV HO276.out) hb); have n2_ := Aside0.mk (Kd.V_below (sqV HO279.out) hb); have n3_ := Aside0.mk (Kd.V_below (sqV HO282.out) hb); have n4_ := Aside0.mk (Kd.V_lower (Kd.V_mono (ok' := fun k_ => (w.heap.size ≤ k_)) ho0 (fun k_ hk_ => Or.elim hk_ (fun hs_ => hs_) (fun hn_ => (Nat.le_trans (below_size sqB) hn_)))) (below_size sqB)); have n5_ := Aside0.mk (below_step sqB hb); clear HO273; clear HO276; clear HO279; clear HO282; clear HB; have HO273 := n0_; have HO276 := n1_; have HO279 := n2_; have HO282 := n3_; have HO285 := n4_; have HB := n5_; clear n0_ n1_ n2_ n3_ n4_ n5_; (try clear hb); (try clear hb2); (try clear hk); (try clear hi); (try clear ho0); obtain ⟨Ao18, co18, eo18⟩ := Kd.V_slice HO285.out; subst eo18) | ((with_reducible refine gate_callee (f := 69) rfl ?_); refine goesL_ (some 25) rfl rfl Tryd.func69 (by kernel_rfl) rfl #[.slice Ao18 t283.length co18, .int .i64 (wrap64 (-t270))] rfl sqA ?_; (with_reducible refine (weigh_nat_up.calls k (fun k_ => (w.heap.size ≤ k_)) _ _ t283 (wrap64 (-t270)) t286 _ ?side1 A9.out).mono ?_); (case side1 => exact HO285.out); rintro e w19 ⟨v287, rfl, ho0, hb⟩; refine ⟨_, rfl, ?_⟩; have n0_ := Aside0.mk (Kd.V_below (sqV HO273.out) hb); have n1_ := Aside0.mk (Kd.V_below (sqV HO276.out) hb); have n2_ := Aside0.mk (Kd.V_below (sqV HO279.out) hb); have n3_ := Aside0.mk (Kd.V_below (sqV HO282.out) hb); have n4_ := Aside0.mk (Kd.V_below (sqV HO285.out) hb); have n5_ := Aside0.mk (Kd.V_lower (Kd.V_mono (ok' := fun k_ => (w.heap.size ≤ k_)) ho0 (fun k_ hk_ => Or.elim hk_ (fun hs_ => hs_) (fun hn_ => (Nat.le_trans (below_size sqB) hn_)))) (below_size sqB)); have n6_ := Aside0.mk (below_step sqB hb); clear HO273; clear HO276; clear HO279; clear HO282; clear HO285; clear HB; have HO273 := n0_; have HO276 := n1_; have HO279 := n2_; have HO282 := n3_; have HO285 := n4_; have HO288 := n5_; have HB := n6_; clear n0_ n1_ n2_ n3_ n4_ n5_ n6_; (try clear hb); (try clear hb2); (try clear hk); (try clear hi); (try clear ho0)))
 go_ret2
 exact ⟨_, _, sqE', sqV HO279.out, sqV HO288.out, sqB⟩

/-! ### weigh_quotient: function 65 -/
def weigh_quotient.f (k : Nat) (a0 : Nat) (a1 : Int) : Option (Int × Int) := (weigh_fraction.f k a0 a1).bind fun bt289 => ((weigh_nat_over.f k bt289.1 bt289.2).bind fun bt295 => ((weigh_half.f k bt295.2 bt289.2).bind fun t299 => (some (bt295.1, t299))))
theorem weigh_quotient.mono : ∀ a0 a1 k, LeO (weigh_quotient.f k a0 a1) (weigh_quotient.f (k + 1) a0 a1) := by
 intro a0 a1 k
 unfold weigh_quotient.f
 repeat' first | (with_reducible first | apply weigh_fraction.mono | apply weigh_half.mono | apply weigh_nat_over.mono | apply LeO.refl | apply LeO.none | refine LeO.ite ?_ ?_ | refine LeO.bind ?_ (fun _ => ?_)) | apply weigh_fraction.mono | apply weigh_half.mono | apply weigh_nat_over.mono | apply LeO.none | refine LeO.ite ?_ ?_ | refine LeO.bind ?_ (fun _ => ?_)
set_option maxHeartbeats 8000000 in
set_option maxRecDepth 100000 in
theorem weigh_quotient.calls (k : Nat) (a0 : Nat) (a1 : Int) (r1 : Int) (r2 : Int) (w : World) (h : weigh_quotient.f k a0 a1 = some (r1, r2)) :
  Calls Tryd.prog 65 #[.float .f64 a0, .int .i64 a1] w fun e w' => e = .returned (.tuple #[.int .u64 r1, .int .i64 r2]) ∧ Below w.heap.size w w' := by
 have HB := Aside0.mk (Below.refl w.heap.size w)
 have H : ((weigh_fraction.f k a0 a1).bind fun bt289 => ((weigh_nat_over.f k bt289.1 bt289.2).bind fun bt295 => ((weigh_half.f k bt295.2 bt289.2).bind fun t299 => (some (bt295.1, t299))))) = some (r1, r2) := h
 clear h
 replace H := Option.bind_eq_some_iff.mp H
 obtain ⟨⟨t289, t292⟩, A30, H⟩ := H
 try dsimp only at H
 have A3 := Aside0.mk A30
 clear A30
 replace H := Option.bind_eq_some_iff.mp H
 obtain ⟨⟨t295, t296⟩, A40, H⟩ := H
 try dsimp only at H
 have A4 := Aside0.mk A40
 clear A40
 replace H := Option.bind_eq_some_iff.mp H
 obtain ⟨t299, A50, H⟩ := H
 try dsimp only at H
 have A5 := Aside0.mk A50
 clear A50
 simp only [Option.some.injEq, Prod.mk.injEq] at H
 obtain ⟨rfl, rfl⟩ := H
 go_enter Tryd.func65, Tryd.ntmps65
 go_wp2_with (first | ((with_reducible refine gate_callee (f := 86) rfl ?_); refine goesL_ (some 13) rfl rfl Tryd.func86 (by kernel_rfl) rfl #[.float .f64 a0, .int .i64 a1] rfl sqA ?_; (with_reducible refine (weigh_fraction.calls k a0 a1 t289 t292 _ A3.out).mono ?_); rintro e w6 ⟨v290, v293, rfl, ho0, ho1, hb⟩; refine ⟨_, rfl, ?_⟩; have n0_ := Aside0.mk (Kd.V_lower (Kd.V_mono (ok' := fun k_ => True) ho0 (fun k_ hk_ => trivial)) (below_size sqB)); have n1_ := Aside0.mk (Kd.V_lower (Kd.V_mono (ok' := fun k_ => True) ho1 (fun k_ hk_ => trivial)) (below_size sqB)); have n2_ := Aside0.mk (below_step sqB hb); clear HB; have HO291 := n0_; have HO294 := n1_; have HB := n2_; clear n0_ n1_ n2_; (try clear hb); (try clear hb2); (try clear hk); (try clear hi); (try clear ho0); (try clear ho1); obtain ⟨Ao7, co7, eo7⟩ := Kd.V_slice HO291.out; subst eo7; obtain ⟨Ao8, co8, eo8⟩ := Kd.V_slice HO294.out; subst eo8) | ((with_reducible refine gate_callee (f := 71) rfl ?_); refine goesL_ (some 19) rfl rfl Tryd.func71 (by kernel_rfl) rfl #[.slice Ao7 t289.length co7, .slice Ao8 t292.length co8] rfl sqA ?_; (with_reducible refine (weigh_nat_over.calls k (fun k_ => True) _ _ t289 (fun k_ => True) _ _ t292 t295 t296 _ ?side1 ?side2 A4.out).mono ?_); (case side1 => exact HO291.out); (case side2 => exact HO294.out); rintro e w9 ⟨v297, rfl, ho0, hb⟩; refine ⟨_, rfl, ?_⟩; have n0_ := Aside0.mk (Kd.V_below (sqV HO291.out) hb); have n1_ := Aside0.mk (Kd.V_below (sqV HO294.out) hb); have n2_ := Aside0.mk (Kd.V_lower (Kd.V_mono (ok' := fun k_ => True) ho0 (fun k_ hk_ => trivial)) (below_size sqB)); have n3_ := Aside0.mk (below_step sqB hb); clear HO291; clear HO294; clear HB; have HO291 := n0_; have HO294 := n1_; have HO298 := n2_; have HB := n3_; clear n0_ n1_ n2_ n3_; (try clear hb); (try clear hb2); (try clear hk); (try clear hi); (try clear ho0); obtain ⟨Ao10, co10, eo10⟩ := Kd.V_slice HO298.out; subst eo10) | ((with_reducible refine gate_callee (f := 72) rfl ?_); refine goesL_ (some 25) rfl rfl Tryd.func72 (by kernel_rfl) rfl #[.slice Ao10 t296.length co10, .slice Ao8 t292.length co8] rfl sqA ?_; (with_reducible refine (weigh_half.calls k _ _ t296 _ _ t292 t299 _ ?side1 ?side2 ?side3 ?side4 A5.out).mono ?_); (case side1 => repeat (first | exact (Kd.V_reads' HO298.out).2.2 | (with_reducible refine Kd.C_alloc ?_ _) | (with_reducible refine Kd.C_drewN ?_ _) | (with_reducible refine Kd.C_drew ?_))); (case side2 => exact (Kd.V_reads' HO298.out).2.1); (case side3 => repeat (first | exact (Kd.V_reads' HO294.out).2.2 | (with_reducible refine Kd.C_alloc ?_ _) | (with_reducible refine Kd.C_drewN ?_ _) | (with_reducible refine Kd.C_drew ?_))); (case side4 => exact (Kd.V_reads' HO294.out).2.1); rintro e w11 ⟨rfl, hb⟩; refine ⟨_, rfl, ?_⟩; have n0_ := Aside0.mk (Kd.V_below (sqV HO291.out) hb); have n1_ := Aside0.mk (Kd.V_below (sqV HO294.out) hb); have n2_ := Aside0.mk (Kd.V_below (sqV HO298.out) hb); have n3_ := Aside0.mk (below_step sqB hb); clear HO291; clear HO294; clear HO298; clear HB; have HO291 := n0_; have HO294 := n1_; have HO298 := n2_; have HB := n3_; clear n0_ n1_ n2_ n3_; (try clear hb); (try clear hb2); (try clear hk); (try clear hi)))
 go_ret2
 exact ⟨sqE', sqB⟩

/-! ### weigh_scaled: function 40 -/
def weigh_scaled.f (k : Nat) (a0 : Nat) (a1 : Int) : Option (Int) := (weigh_quotient.f k a0 a1).bind fun bt300 => (some bt300.1)
theorem weigh_scaled.mono : ∀ a0 a1 k, LeO (weigh_scaled.f k a0 a1) (weigh_scaled.f (k + 1) a0 a1) := by
 intro a0 a1 k
 unfold weigh_scaled.f
 repeat' first | (with_reducible first | apply weigh_quotient.mono | apply LeO.refl | apply LeO.none | refine LeO.ite ?_ ?_ | refine LeO.bind ?_ (fun _ => ?_)) | apply weigh_quotient.mono | apply LeO.none | refine LeO.ite ?_ ?_ | refine LeO.bind ?_ (fun _ => ?_)
set_option maxHeartbeats 8000000 in
set_option maxRecDepth 100000 in
theorem weigh_scaled.calls (k : Nat) (a0 : Nat) (a1 : Int) (r : Int) (w : World) (h : weigh_scaled.f k a0 a1 = some r) :
  Calls Tryd.prog 40 #[.float .f64 a0, .int .i64 a1] w fun e w' => e = .returned (.int .u64 r) ∧ Below w.heap.size w w' := by
 have HB := Aside0.mk (Below.refl w.heap.size w)
 have H : ((weigh_quotient.f k a0 a1).bind fun bt300 => (some bt300.1)) = some r := h
 clear h
 replace H := Option.bind_eq_some_iff.mp H
 obtain ⟨⟨t300, t301⟩, A30, H⟩ := H
 try dsimp only at H
 have A3 := Aside0.mk A30
 clear A30
 obtain rfl := Option.some.inj H
 go_enter Tryd.func40, Tryd.ntmps40
 go_wp2_with (first | ((with_reducible refine gate_callee (f := 65) rfl ?_); refine goesL_ (some 10) rfl rfl Tryd.func65 (by kernel_rfl) rfl #[.float .f64 a0, .int .i64 a1] rfl sqA ?_; (with_reducible refine (weigh_quotient.calls k a0 a1 t300 t301 _ A3.out).mono ?_); rintro e w4 ⟨rfl, hb⟩; refine ⟨_, rfl, ?_⟩; have n0_ := Aside0.mk (below_step sqB hb); clear HB; have HB := n0_; clear n0_; (try clear hb); (try clear hb2); (try clear hk); (try clear hi)))
 go_ret
 exact ⟨sqE', sqB⟩

/-! ### weigh_digit: function 67 -/
def weigh_digit.f (a0 : Int) : Option (Bool) := if a0 ≥ 48 then (some (decide (a0 ≤ 57))) else (some false)
set_option maxHeartbeats 8000000 in
set_option maxRecDepth 100000 in
theorem weigh_digit.calls (a0 : Int) (r : Bool) (w : World) (h : weigh_digit.f a0 = some r) :
  Calls Tryd.prog 67 #[.int .u8 a0] w fun e w' => e = .returned (.bool r) ∧ Drawn0 w w' := by
 have H : (if a0 ≥ 48 then (some (decide (a0 ≤ 57))) else (some false)) = some r := h
 clear h
 by_cases c2 : a0 ≥ 48
 ·rw [if_pos c2] at H
  have c2b0 := decide_eq_true c2
  clear c2
  obtain rfl := Option.some.inj H
  go_enter Tryd.func67, Tryd.ntmps67
  go_wp2
  go_ret
  exact ⟨sqE, sqW⟩
 rw [if_neg c2] at H
 have c2b0 := decide_eq_false c2
 clear c2
 obtain rfl := Option.some.inj H
 go_enter Tryd.func67, Tryd.ntmps67
 go_wp2
 go_ret
 exact ⟨sqE, sqW⟩

end Go.Proofs.YtfmjdoofopamkaaDoor.W
