import Derived.Test.YtnoppeocbfapdaaGreatDoorTx0
import Derived.Test.YtnoppeocbfapdaaGreatDoorTx2
import Derived.Test.YtnoppeocbfapdaaGreatDoorTx3
namespace Go.Proofs.YtnoppeocbfapdaaGreatDoor.T
open Go.RowKit Go.Proofs.YtnoppeocbfapdaaGreatDoorW.PrintWords Go.Proofs.YtnoppeocbfapdaaGreatDoorW.PrintLast Go.Proofs.YtnoppeocbfapdaaGreatDoorW.PrintMore
set_option maxHeartbeats 8000000
set_option maxRecDepth 100000
attribute [local go_sem] max2_int min2_int max_two min_two max_three min_three max_four min_four
set_option linter.unusedVariables false
set_option linter.unusedSimpArgs false
def table_fits.f (k : Nat) (a0_0 : Int) (a0_1 : Int) (a0_2 : Int) (a0_3 : Int) (l0_4 : List Int) (a0_5 : ByteArray) (a0_6 : ByteArray) (a0_7 : Nat) : Option (Bool) := if a0_0 = 3 then ((table_spare_nothing.f true false true true a0_0 a0_1 a0_2 a0_3 l0_4 a0_5 a0_6 a0_7).bind fun t156 => (if t156 = true then ((table_sound.f k a0_0 a0_1 a0_2 a0_3 l0_4 a0_5 a0_6 a0_7 1 24).bind fun t157 => (some t157)) else (some false))) else (if a0_0 = 4 then ((table_spare_nothing.f false false true true a0_0 a0_1 a0_2 a0_3 l0_4 a0_5 a0_6 a0_7).bind fun t158 => (if t158 = true then ((table_shifts.f a0_0 a0_1 a0_2 a0_3 l0_4 a0_5 a0_6 a0_7).bind fun t159 => (some t159)) else (some false))) else (if a0_0 = 5 then ((table_spare_nothing.f true false true true a0_0 a0_1 a0_2 a0_3 l0_4 a0_5 a0_6 a0_7).bind fun t160 => (if t160 = true then ((table_one.f a0_0 a0_1 a0_2 a0_3 l0_4 a0_5 a0_6 a0_7).bind fun t161 => (if t161 = true then ((table_sound.f k a0_0 a0_1 a0_2 a0_3 l0_4 a0_5 a0_6 a0_7 0 24).bind fun t162 => (some t162)) else (some false))) else (some false))) else (if a0_0 = 6 then ((table_spare_nothing.f false true true true a0_0 a0_1 a0_2 a0_3 l0_4 a0_5 a0_6 a0_7).bind fun t163 => (if t163 = true then ((table_between.f a0_0 a0_1 a0_2 a0_3 l0_4 a0_5 a0_6 a0_7 1 254).bind fun t164 => (some t164)) else (some false))) else (if a0_0 = 7 then ((table_spare_nothing.f true false true true a0_0 a0_1 a0_2 a0_3 l0_4 a0_5 a0_6 a0_7).bind fun t165 => (if t165 = true then ((table_one.f a0_0 a0_1 a0_2 a0_3 l0_4 a0_5 a0_6 a0_7).bind fun t166 => (if t166 = true then ((table_sound.f k a0_0 a0_1 a0_2 a0_3 l0_4 a0_5 a0_6 a0_7 2 2).bind fun t167 => (some t167)) else (some false))) else (some false))) else (if a0_0 = 8 then ((table_spare_nothing.f true false true true a0_0 a0_1 a0_2 a0_3 l0_4 a0_5 a0_6 a0_7).bind fun t168 => (if t168 = true then ((table_one.f a0_0 a0_1 a0_2 a0_3 l0_4 a0_5 a0_6 a0_7).bind fun t169 => (if t169 = true then ((table_sound.f k a0_0 a0_1 a0_2 a0_3 l0_4 a0_5 a0_6 a0_7 1 2).bind fun t170 => (some t170)) else (some false))) else (some false))) else (if a0_0 = 9 then ((table_spare_nothing.f false true true true a0_0 a0_1 a0_2 a0_3 l0_4 a0_5 a0_6 a0_7).bind fun t171 => (if t171 = true then ((table_between.f a0_0 a0_1 a0_2 a0_3 l0_4 a0_5 a0_6 a0_7 0 10).bind fun t172 => (some t172)) else (some false))) else (if a0_0 = 10 then ((table_spare_nothing.f false true true true a0_0 a0_1 a0_2 a0_3 l0_4 a0_5 a0_6 a0_7).bind fun t173 => (if t173 = true then ((table_between.f a0_0 a0_1 a0_2 a0_3 l0_4 a0_5 a0_6 a0_7 0 5).bind fun t174 => (some t174)) else (some false))) else (if a0_0 = 12 then ((table_spare_nothing.f true true false true a0_0 a0_1 a0_2 a0_3 l0_4 a0_5 a0_6 a0_7).bind fun t175 => (if t175 = true then ((scan_Name.f k a0_5).bind fun t176 => (some t176)) else (some false))) else (if a0_0 = 13 then ((table_spare_nothing.f true false true true a0_0 a0_1 a0_2 a0_3 l0_4 a0_5 a0_6 a0_7).bind fun t177 => (if t177 = true then ((table_one.f a0_0 a0_1 a0_2 a0_3 l0_4 a0_5 a0_6 a0_7).bind fun t178 => (if t178 = true then ((table_sound.f k a0_0 a0_1 a0_2 a0_3 l0_4 a0_5 a0_6 a0_7 1 24).bind fun t179 => (some t179)) else (some false))) else (some false))) else (if a0_0 = 14 then ((table_spare_nothing.f true true true false a0_0 a0_1 a0_2 a0_3 l0_4 a0_5 a0_6 a0_7).bind fun t180 => (if t180 = true then ((table_weighs.f a0_0 a0_1 a0_2 a0_3 l0_4 a0_5 a0_6 a0_7).bind fun t181 => (some t181)) else (some false))) else (if a0_0 = 15 then ((table_spare_nothing.f true true false false a0_0 a0_1 a0_2 a0_3 l0_4 a0_5 a0_6 a0_7).bind fun t182 => (if t182 = true then ((scan_Name.f k a0_5).bind fun t183 => (if t183 = true then ((scan_Name.f k a0_6).bind fun t184 => (if t184 = true then (if a0_5.toList = a0_6.toList then (some false) else ((table_weighs.f a0_0 a0_1 a0_2 a0_3 l0_4 a0_5 a0_6 a0_7).bind fun t185 => (some t185))) else (some false))) else (some false))) else (some false))) else ((table_spare_nothing.f true true true true a0_0 a0_1 a0_2 a0_3 l0_4 a0_5 a0_6 a0_7).bind fun t186 => (some t186)))))))))))))
theorem table_fits.mono : ∀ a0 a1 a2 a3 a4 a5 a6 a7 k, LeO (table_fits.f k a0 a1 a2 a3 a4 a5 a6 a7) (table_fits.f (k + 1) a0 a1 a2 a3 a4 a5 a6 a7) := by
 intro a0 a1 a2 a3 a4 a5 a6 a7 k
 unfold table_fits.f
 repeat' first | (with_reducible first | apply scan_Name.mono | apply table_sound.mono | apply LeO.refl | apply LeO.none | refine LeO.ite ?_ ?_ | refine LeO.bind ?_ (fun _ => ?_)) | apply LeO.none | refine LeO.ite ?_ ?_ | refine LeO.bind ?_ (fun _ => ?_)
/-- A record stored into a block of its own, outside a region that draws. -/
theorem rec_event {P : Program} {ops : Array Oper} {rest : List Oper} {o : Oper} {a : Act} {Q : Exit → Act → World → Prop} {w : World} (hgd : o.guard = none) (t : TypeId) (p x : Operand) (hop : o.op = .store t p x) (g e : Nat) (cs seg : List Value)
    (hb : w.heap[g]? = some (.cells cs.toArray e (0, 0))) (hl : seg.length = cs.length) (ht : (P.info? t).map (·.size) = some seg.length) (h1 : ∀ q ∈ seg, q.oneCell' = true) (hp : a.eval p = .pointer (some ⟨g, 0, none⟩)) (hx : (a.eval x).cells.toList = seg)
    (h : ∀ W : World, W.heap[g]? = some (.cells seg.toArray e (0, 0)) → (∀ k, k ≠ g → W.heap[k]? = w.heap[k]?) → (∀ (B : Nat) (w0 : World), B ≤ g → Below B w0 w → Below B w0 W) → wpList P ops Q rest (a.put o.dst undef) W) : wpList P ops Q (o :: rest) a w := by
  refine wpList_plain hgd fun K hK => ?_
  have hrun : (execOp a.eval o).run P w = .ok .skip (w.setCells g 0 seg) := by
    have := run_store_run (P := P) (o := 0) t (a.eval x) seg hb hx ht (by simp; omega) h1
    unfold execOp
    simp only [hop, hp, Sem.run_bind, Sem.run_pure, Result.andThen_ok, this]
  have hf : ∀ k, k ≠ g → (w.setCells g 0 seg).heap[k]? = w.heap[k]? := fun k hk => setCells_far seg 0 k hk
  have hg := setCells_blk seg 0 cs w hb (by omega)
  rw [List.take_zero, List.nil_append] at hg
  obtain ⟨s1, s2, s3, s4⟩ := setCells_same g seg 0 w
  unfold Oper.wp
  rw [hrun]
  have := hK _ _ (h _ hg hf fun B w0 hBg hB => ⟨s1.trans hB.os, s2.trans hB.tape, s3.trans hB.output, by rw [s4]; exact hB.size, fun k hk => (hf k (by omega)).trans (hB.block k hk)⟩)
  exact this
/-- fits' two boxes: the record, and which fields are to be nothing. -/
def Fx (w W : World) (g g' : Nat) (a0 a1 a2 a3 : Int) (A : Option Addr) (c : Nat) (l : List Int) (a5 a6 : ByteArray) (a7 : Nat) (s : Array Value) : Prop :=
  W.heap[g]? = some (.cells #[.int .i64 a0, .int .i64 a1, .int .i64 a2, .int .i64 a3, .slice A l.length c, .string a5, .string a6, .float .f64 a7] 25 (0, 0)) ∧ W.heap[g']? = some (.cells s 110 (0, 0)) ∧ Below w.heap.size w W ∧ g ≠ g' ∧ w.heap.size ≤ g'
section
variable {w W W1 : World} {g g' : Nat} {a0 a1 a2 a3 : Int} {A : Option Addr} {c : Nat} {l : List Int} {a5 a6 : ByteArray} {a7 : Nat} {s s' : Array Value}
theorem Fx.below (h : Fx w W g g' a0 a1 a2 a3 A c l a5 a6 a7 s) (hb : Below W.heap.size W W1) : Fx w W1 g g' a0 a1 a2 a3 A c l a5 a6 a7 s := ⟨blk_below h.1 hb, blk_below h.2.1 hb, below_step h.2.2.1 hb, h.2.2.2⟩
theorem Fx.all {s0 s1 s2 s3 : Bool} (h : Fx w W g g' a0 a1 a2 a3 A c l a5 a6 a7 #[.bool s0, .bool s1, .bool s2, .bool s3]) :
    W.cell? ⟨g, 0, none⟩ = some (.int .i64 a0) ∧ W.cell? ⟨g, 1, none⟩ = some (.int .i64 a1) ∧ W.cell? ⟨g, 2, none⟩ = some (.int .i64 a2) ∧ W.cell? ⟨g, 3, none⟩ = some (.int .i64 a3) ∧ W.cell? ⟨g, 4, none⟩ = some (.slice A l.length c) ∧ W.cell? ⟨g, 5, none⟩ = some (.string a5) ∧ W.cell? ⟨g, 6, none⟩ = some (.string a6) ∧ W.cell? ⟨g, 7, none⟩ = some (.float .f64 a7) ∧ W.cell? ⟨g', 0, none⟩ = some (.bool s0) ∧ W.cell? ⟨g', 1, none⟩ = some (.bool s1) ∧ W.cell? ⟨g', 2, none⟩ = some (.bool s2) ∧ W.cell? ⟨g', 3, none⟩ = some (.bool s3) :=
  ⟨(blk_cell h.1 0).trans rfl, (blk_cell h.1 1).trans rfl, (blk_cell h.1 2).trans rfl, (blk_cell h.1 3).trans rfl, (blk_cell h.1 4).trans rfl, (blk_cell h.1 5).trans rfl, (blk_cell h.1 6).trans rfl, (blk_cell h.1 7).trans rfl, (blk_cell h.2.1 0).trans rfl, (blk_cell h.2.1 1).trans rfl, (blk_cell h.2.1 2).trans rfl, (blk_cell h.2.1 3).trans rfl⟩
variable {P : Program} {ops : Array Oper} {rest : List Oper} {o : Oper} {a : Act} {Q : Exit → Act → World → Prop}
theorem gate_flag {p v : Operand} (_ho : o.op = .store 4 p v) (h : wpList P ops Q (o :: rest) a W) : wpList P ops Q (o :: rest) a W := h
theorem flag_event (i : Nat) (hgd : o.guard = none) {p : Operand} (hop : o.op = .store 4 p (.const (.bool false))) (hp : a.eval p = .pointer (some ⟨g', i, none⟩)) (hx : Fx w W g g' a0 a1 a2 a3 A c l a5 a6 a7 s) (he : s.setIfInBounds i (.bool false) = s') (hi : i < s.size) (ht : (P.info? 4).map (·.size) = some 1)
    (h : ∀ W1, Fx w W1 g g' a0 a1 a2 a3 A c l a5 a6 a7 s' → wpList P ops Q rest (a.put o.dst undef) W1) : wpList P ops Q (o :: rest) a W := by
  refine wpList_plain hgd fun K hK => ?_
  have hrun : (execOp a.eval o).run P W = .ok .skip (W.setCell ⟨g', i, none⟩ (.bool false)) := by
    have := run_store_run (P := P) (o := i) 4 (.bool false) [.bool false] hx.2.1 rfl ht hi (by intro q hq; rw [List.mem_singleton.1 hq]; rfl)
    unfold execOp
    have e : a.eval (.const (.bool false)) = .bool false := rfl
    simp only [hop, hp, e, Sem.run_bind, Sem.run_pure, Result.andThen_ok, this]
    rfl
  unfold Oper.wp
  rw [hrun]
  exact hK _ _ (h _ ⟨blk_far hx.1 (p := ⟨g', i, none⟩) hx.2.2.2.1 _, blk_put hx.2.1 i _ he, below_set hx.2.2.1 hx.2.2.2.2, hx.2.2.2⟩)
end
theorem table_fits.calls (k : Nat) (a0_0 : Int) (a0_1 : Int) (a0_2 : Int) (a0_3 : Int) (A0_4 : Option Addr) (c0_4 : Nat) (l0_4 : List Int) (a0_5 : ByteArray) (a0_6 : ByteArray) (a0_7 : Nat) (r : Bool) (w : World) (hr0_4 : Kd.C (Kd.int .i32) w A0_4 l0_4.length l0_4) (hc0_4 : l0_4.length ≤ c0_4) (h : table_fits.f k a0_0 a0_1 a0_2 a0_3 l0_4 a0_5 a0_6 a0_7 = some r) :
  Calls Tryz.prog 35 #[.agg #[.int .i64 a0_0, .int .i64 a0_1, .int .i64 a0_2, .int .i64 a0_3, .slice A0_4 l0_4.length c0_4, .string a0_5, .string a0_6, .float .f64 a0_7]] w fun e w' => e = .returned (.bool r) ∧ Below w.heap.size w w' := by
 have hu25 := Tryz.underlying25
 have hu110 := Tryz.underlying110
 have HR0_4 := Aside0.mk hr0_4
 have HC0_4 := Aside0.mk hc0_4
 clear hr0_4 hc0_4
 have HB := Aside0.mk (Below.refl w.heap.size w)
 unfold table_fits.f at h
 have H := h
 clear h
 go_enter Tryz.func35, Tryz.ntmps35
 go_upto_region 2 with (first | ((with_reducible refine gate_dst (N := 1) rfl ?_); refine box_event ?hg (N := 1) ?hd (cs := #[.int .i64 a0_0, .int .i64 a0_1, .int .i64 a0_2, .int .i64 a0_3, .slice A0_4 l0_4.length c0_4, .string a0_5, .string a0_6, .float .f64 a0_7]) (t := 25) ?hr ?_; (case hd => rfl); (case hg => rfl); (case hr => first | (go_simp; done) | (go_simp; rfl)); intro gb154 hg w110 hbox hb; have n0_ := Aside0.mk (below_step sqB hb); have n1_ := Aside0.mk (hbox); have n2_ := Aside0.mk ((by rw [hg]; exact (below_size sqB) : w.heap.size ≤ gb154)); have n3_ := Aside0.mk ((by rw [hg]; exact (below_size sqB) : w.heap.size ≤ gb154)); clear HB; have HB := n0_; have BK154 := n1_; have GW154 := n2_; have GE154 := n3_; clear n0_ n1_ n2_ n3_; clear hb hbox hg) | ((with_reducible refine gate_dst (N := 3) rfl ?_); refine box_event ?hg (N := 3) ?hd (cs := #[.bool false, .bool false, .bool false, .bool false]) (t := 110) ?hr ?_; (case hd => rfl); (case hg => rfl); (case hr => first | (go_simp; done) | (go_simp; rfl)); intro gb155 hg w111 hbox hb; have n0_ := Aside0.mk (sqM BK154.out hb); have n1_ := Aside0.mk (below_step sqH hb); have n2_ := Aside0.mk (hbox); have n3_ := Aside0.mk ((by rw [hg]; exact (below_size sqH) : w.heap.size ≤ gb155)); have n4_ := Aside0.mk ((by rw [hg]; exact (below_size sqH) : w.heap.size ≤ gb155)); have n5_ := Aside0.mk ((by rw [hg]; exact Nat.ne_of_lt (blk_lt (g := gb154) (o := .cells #[.int .i64 a0_0, .int .i64 a0_1, .int .i64 a0_2, .int .i64 a0_3, .slice A0_4 l0_4.length c0_4, .string a0_5, .string a0_6, .float .f64 a0_7] 25 (0, 0)) (sqK BK154.out)) : gb154 ≠ gb155)); have n6_ := Aside0.mk ((by rw [hg]; exact Nat.ne_of_gt (blk_lt (g := gb154) (o := .cells #[.int .i64 a0_0, .int .i64 a0_1, .int .i64 a0_2, .int .i64 a0_3, .slice A0_4 l0_4.length c0_4, .string a0_5, .string a0_6, .float .f64 a0_7] 25 (0, 0)) (sqK BK154.out)) : gb155 ≠ gb154)); clear BK154; clear HB; have BK154 := n0_; have HB := n1_; have BK155 := n2_; have GW155 := n3_; have GE155 := n4_; have NB154_155 := n5_; have NB155_154 := n6_; clear n0_ n1_ n2_ n3_ n4_ n5_ n6_; clear hb hbox hg) | ((with_reducible refine gate_store (p := 3) rfl ?_); refine rec_event rfl 110 _ _ rfl gb155 110 [.bool false, .bool false, .bool false, .bool false] [.bool true, .bool true, .bool true, .bool true] BK155.out rfl (by kernel_rfl) (by intro q hq; simp only [List.mem_cons, List.not_mem_nil, or_false] at hq; rcases hq with rfl | rfl | rfl | rfl <;> rfl) rfl rfl (fun W_ h1_ h2_ h3_ => ?_); have hx_ : Fx w W_ gb154 gb155 a0_0 a0_1 a0_2 a0_3 A0_4 c0_4 l0_4 a0_5 a0_6 a0_7 #[.bool true, .bool true, .bool true, .bool true] := ⟨(h2_ gb154 NB154_155.out).trans BK154.out, h1_, h3_ _ _ GE155.out HB.out, NB154_155.out, GE155.out⟩; clear BK154 BK155 HB h1_ h2_ h3_; have HX := Aside0.mk hx_; clear hx_; obtain ⟨z0, z1, z2, z3, z4, z5, z6, z7, z8, z9, z10, z11⟩ := HX.out.all))
 go_upto_region 3 with (fail)
 by_cases c2 : a0_0 = 3
 ·rw [if_pos c2] at H
  have c2b0 := beq_iff_eq.mpr c2
  have c2b1 := bne_eq_false_iff_eq.mpr c2
  clear c2
  obtain ⟨t156, A3, H⟩ := sqO H
  try dsimp only at H
  by_cases c4 : t156 = true
  ·subst c4
   rw [if_pos rfl] at H
   obtain ⟨t157, A5, H⟩ := sqO H
   try dsimp only at H
   obtain rfl := Option.some.inj H
   go_wp2_with (first | ((with_reducible refine gate_flag rfl ?_); refine flag_event (s' := #[.bool true, .bool false, .bool true, .bool true]) 1 rfl rfl rfl HX.out rfl (by decide) (by kernel_rfl) ?_; intro W_ hx_; clear HX z0 z1 z2 z3 z4 z5 z6 z7 z8 z9 z10 z11; have HX := Aside0.mk hx_; clear hx_; obtain ⟨z0, z1, z2, z3, z4, z5, z6, z7, z8, z9, z10, z11⟩ := HX.out.all) | ((with_reducible refine gate_callee (f := 72) rfl ?_); refine goesL_ (some 12) rfl rfl Tryz.func72 (by kernel_rfl) rfl #[.agg #[.bool true, .bool false, .bool true, .bool true], .agg #[.int .i64 a0_0, .int .i64 a0_1, .int .i64 a0_2, .int .i64 a0_3, .slice A0_4 l0_4.length c0_4, .string a0_5, .string a0_6, .float .f64 a0_7]] rfl sqA ?_; (with_reducible refine (table_spare_nothing.calls true false true true a0_0 a0_1 a0_2 a0_3 _ _ l0_4 a0_5 a0_6 a0_7 true _ ?side1 ?side2 A3.out).mono ?_); (case side1 => (with_reducible repeat (first | refine Kd.C_drewN ?_ _ | refine Kd.C_drew ?_)); exact Kd.C_below HR0_4.out HX.out.2.2.1); (case side2 => exact HC0_4.out); rintro e W_ ⟨rfl, hb⟩; refine ⟨_, rfl, ?_⟩; have hx_ := HX.out.below (W1 := W_) ⟨hb.os, hb.tape, hb.output, hb.size, hb.block⟩; clear HX hb z0 z1 z2 z3 z4 z5 z6 z7 z8 z9 z10 z11; have HX := Aside0.mk hx_; clear hx_; obtain ⟨z0, z1, z2, z3, z4, z5, z6, z7, z8, z9, z10, z11⟩ := HX.out.all) | (go_at_call 73; (with_reducible refine (table_sound.calls k a0_0 a0_1 a0_2 a0_3 _ _ l0_4 a0_5 a0_6 a0_7 1 24 t157 _ ?side1 ?side2 A5.out).mono ?_); (case side1 => (with_reducible repeat (first | refine Kd.C_drewN ?_ _ | refine Kd.C_drew ?_)); exact Kd.C_below HR0_4.out HX.out.2.2.1); (case side2 => exact HC0_4.out); rintro e W_ ⟨rfl, hb⟩; have hx_ := HX.out.below (W1 := W_) ⟨hb.os, hb.tape, hb.output, hb.size, hb.block⟩; clear HX hb z0 z1 z2 z3 z4 z5 z6 z7 z8 z9 z10 z11; have HX := Aside0.mk hx_; clear hx_; obtain ⟨z0, z1, z2, z3, z4, z5, z6, z7, z8, z9, z10, z11⟩ := HX.out.all))
   go_ret
   exact ⟨sqE', by (with_reducible repeat (first | apply pw_below_drewN | apply below_drew1)); exact HX.out.2.2.1⟩
  replace c4 := Bool.eq_false_iff.mpr c4
  subst c4
  rw [if_neg (show ¬ (false = true) by decide)] at H
  obtain rfl := Option.some.inj H
  go_wp2_with (first | ((with_reducible refine gate_flag rfl ?_); refine flag_event (s' := #[.bool true, .bool false, .bool true, .bool true]) 1 rfl rfl rfl HX.out rfl (by decide) (by kernel_rfl) ?_; intro W_ hx_; clear HX z0 z1 z2 z3 z4 z5 z6 z7 z8 z9 z10 z11; have HX := Aside0.mk hx_; clear hx_; obtain ⟨z0, z1, z2, z3, z4, z5, z6, z7, z8, z9, z10, z11⟩ := HX.out.all) | ((with_reducible refine gate_callee (f := 72) rfl ?_); refine goesL_ (some 12) rfl rfl Tryz.func72 (by kernel_rfl) rfl #[.agg #[.bool true, .bool false, .bool true, .bool true], .agg #[.int .i64 a0_0, .int .i64 a0_1, .int .i64 a0_2, .int .i64 a0_3, .slice A0_4 l0_4.length c0_4, .string a0_5, .string a0_6, .float .f64 a0_7]] rfl sqA ?_; (with_reducible refine (table_spare_nothing.calls true false true true a0_0 a0_1 a0_2 a0_3 _ _ l0_4 a0_5 a0_6 a0_7 false _ ?side1 ?side2 A3.out).mono ?_); (case side1 => (with_reducible repeat (first | refine Kd.C_drewN ?_ _ | refine Kd.C_drew ?_)); exact Kd.C_below HR0_4.out HX.out.2.2.1); (case side2 => exact HC0_4.out); rintro e W_ ⟨rfl, hb⟩; refine ⟨_, rfl, ?_⟩; have hx_ := HX.out.below (W1 := W_) ⟨hb.os, hb.tape, hb.output, hb.size, hb.block⟩; clear HX hb z0 z1 z2 z3 z4 z5 z6 z7 z8 z9 z10 z11; have HX := Aside0.mk hx_; clear hx_; obtain ⟨z0, z1, z2, z3, z4, z5, z6, z7, z8, z9, z10, z11⟩ := HX.out.all))
  go_ret
  exact ⟨sqE', by (with_reducible repeat (first | apply pw_below_drewN | apply below_drew1)); exact HX.out.2.2.1⟩
 rw [if_neg c2] at H
 have c2b0 := beq_eq_false_iff_ne.mpr c2
 have c2b1 := bne_iff_ne.mpr c2
 by_cases c20 : a0_0 = 4
 ·rw [if_pos c20] at H
  have c20b0 := beq_iff_eq.mpr c20
  have c20b1 := bne_eq_false_iff_eq.mpr c20
  clear c20
  obtain ⟨t158, A21, H⟩ := sqO H
  try dsimp only at H
  by_cases c22 : t158 = true
  ·subst c22
   rw [if_pos rfl] at H
   obtain ⟨t159, A23, H⟩ := sqO H
   try dsimp only at H
   obtain rfl := Option.some.inj H
   go_wp2_with (first | ((with_reducible refine gate_flag rfl ?_); refine flag_event (s' := #[.bool false, .bool true, .bool true, .bool true]) 0 rfl rfl rfl HX.out rfl (by decide) (by kernel_rfl) ?_; intro W_ hx_; clear HX z0 z1 z2 z3 z4 z5 z6 z7 z8 z9 z10 z11; have HX := Aside0.mk hx_; clear hx_; obtain ⟨z0, z1, z2, z3, z4, z5, z6, z7, z8, z9, z10, z11⟩ := HX.out.all) | ((with_reducible refine gate_flag rfl ?_); refine flag_event (s' := #[.bool false, .bool false, .bool true, .bool true]) 1 rfl rfl rfl HX.out rfl (by decide) (by kernel_rfl) ?_; intro W_ hx_; clear HX z0 z1 z2 z3 z4 z5 z6 z7 z8 z9 z10 z11; have HX := Aside0.mk hx_; clear hx_; obtain ⟨z0, z1, z2, z3, z4, z5, z6, z7, z8, z9, z10, z11⟩ := HX.out.all) | ((with_reducible refine gate_callee (f := 72) rfl ?_); refine goesL_ (some 23) rfl rfl Tryz.func72 (by kernel_rfl) rfl #[.agg #[.bool false, .bool false, .bool true, .bool true], .agg #[.int .i64 a0_0, .int .i64 a0_1, .int .i64 a0_2, .int .i64 a0_3, .slice A0_4 l0_4.length c0_4, .string a0_5, .string a0_6, .float .f64 a0_7]] rfl sqA ?_; (with_reducible refine (table_spare_nothing.calls false false true true a0_0 a0_1 a0_2 a0_3 _ _ l0_4 a0_5 a0_6 a0_7 true _ ?side1 ?side2 A21.out).mono ?_); (case side1 => (with_reducible repeat (first | refine Kd.C_drewN ?_ _ | refine Kd.C_drew ?_)); exact Kd.C_below HR0_4.out HX.out.2.2.1); (case side2 => exact HC0_4.out); rintro e W_ ⟨rfl, hb⟩; refine ⟨_, rfl, ?_⟩; have hx_ := HX.out.below (W1 := W_) ⟨hb.os, hb.tape, hb.output, hb.size, hb.block⟩; clear HX hb z0 z1 z2 z3 z4 z5 z6 z7 z8 z9 z10 z11; have HX := Aside0.mk hx_; clear hx_; obtain ⟨z0, z1, z2, z3, z4, z5, z6, z7, z8, z9, z10, z11⟩ := HX.out.all) | (go_at_call 74; (with_reducible refine (table_shifts.calls a0_0 a0_1 a0_2 a0_3 _ _ l0_4 a0_5 a0_6 a0_7 t159 _ ?side1 ?side2 A23.out).mono ?_); (case side1 => (with_reducible repeat (first | refine Kd.C_drewN ?_ _ | refine Kd.C_drew ?_)); exact Kd.C_below HR0_4.out HX.out.2.2.1); (case side2 => exact HC0_4.out); rintro e W_ ⟨rfl, hb⟩; have hx_ := HX.out.below (W1 := W_) ⟨hb.os, hb.tape, hb.output, hb.size, hb.block⟩; clear HX hb z0 z1 z2 z3 z4 z5 z6 z7 z8 z9 z10 z11; have HX := Aside0.mk hx_; clear hx_; obtain ⟨z0, z1, z2, z3, z4, z5, z6, z7, z8, z9, z10, z11⟩ := HX.out.all))
   go_ret
   exact ⟨sqE', by (with_reducible repeat (first | apply pw_below_drewN | apply below_drew1)); exact HX.out.2.2.1⟩
  replace c22 := Bool.eq_false_iff.mpr c22
  subst c22
  rw [if_neg (show ¬ (false = true) by decide)] at H
  obtain rfl := Option.some.inj H
  go_wp2_with (first | ((with_reducible refine gate_flag rfl ?_); refine flag_event (s' := #[.bool false, .bool true, .bool true, .bool true]) 0 rfl rfl rfl HX.out rfl (by decide) (by kernel_rfl) ?_; intro W_ hx_; clear HX z0 z1 z2 z3 z4 z5 z6 z7 z8 z9 z10 z11; have HX := Aside0.mk hx_; clear hx_; obtain ⟨z0, z1, z2, z3, z4, z5, z6, z7, z8, z9, z10, z11⟩ := HX.out.all) | ((with_reducible refine gate_flag rfl ?_); refine flag_event (s' := #[.bool false, .bool false, .bool true, .bool true]) 1 rfl rfl rfl HX.out rfl (by decide) (by kernel_rfl) ?_; intro W_ hx_; clear HX z0 z1 z2 z3 z4 z5 z6 z7 z8 z9 z10 z11; have HX := Aside0.mk hx_; clear hx_; obtain ⟨z0, z1, z2, z3, z4, z5, z6, z7, z8, z9, z10, z11⟩ := HX.out.all) | ((with_reducible refine gate_callee (f := 72) rfl ?_); refine goesL_ (some 23) rfl rfl Tryz.func72 (by kernel_rfl) rfl #[.agg #[.bool false, .bool false, .bool true, .bool true], .agg #[.int .i64 a0_0, .int .i64 a0_1, .int .i64 a0_2, .int .i64 a0_3, .slice A0_4 l0_4.length c0_4, .string a0_5, .string a0_6, .float .f64 a0_7]] rfl sqA ?_; (with_reducible refine (table_spare_nothing.calls false false true true a0_0 a0_1 a0_2 a0_3 _ _ l0_4 a0_5 a0_6 a0_7 false _ ?side1 ?side2 A21.out).mono ?_); (case side1 => (with_reducible repeat (first | refine Kd.C_drewN ?_ _ | refine Kd.C_drew ?_)); exact Kd.C_below HR0_4.out HX.out.2.2.1); (case side2 => exact HC0_4.out); rintro e W_ ⟨rfl, hb⟩; refine ⟨_, rfl, ?_⟩; have hx_ := HX.out.below (W1 := W_) ⟨hb.os, hb.tape, hb.output, hb.size, hb.block⟩; clear HX hb z0 z1 z2 z3 z4 z5 z6 z7 z8 z9 z10 z11; have HX := Aside0.mk hx_; clear hx_; obtain ⟨z0, z1, z2, z3, z4, z5, z6, z7, z8, z9, z10, z11⟩ := HX.out.all))
  go_ret
  exact ⟨sqE', by (with_reducible repeat (first | apply pw_below_drewN | apply below_drew1)); exact HX.out.2.2.1⟩
 rw [if_neg c20] at H
 have c20b0 := beq_eq_false_iff_ne.mpr c20
 have c20b1 := bne_iff_ne.mpr c20
 by_cases c38 : a0_0 = 5
 ·rw [if_pos c38] at H
  have c38b0 := beq_iff_eq.mpr c38
  have c38b1 := bne_eq_false_iff_eq.mpr c38
  clear c38
  obtain ⟨t160, A39, H⟩ := sqO H
  try dsimp only at H
  by_cases c40 : t160 = true
  case neg =>
   replace c40 := Bool.eq_false_iff.mpr c40
   subst c40
   rw [if_neg (show ¬ (false = true) by decide)] at H
   obtain rfl := Option.some.inj H
   go_wp2_with (first | ((with_reducible refine gate_flag rfl ?_); refine flag_event (s' := #[.bool true, .bool false, .bool true, .bool true]) 1 rfl rfl rfl HX.out rfl (by decide) (by kernel_rfl) ?_; intro W_ hx_; clear HX z0 z1 z2 z3 z4 z5 z6 z7 z8 z9 z10 z11; have HX := Aside0.mk hx_; clear hx_; obtain ⟨z0, z1, z2, z3, z4, z5, z6, z7, z8, z9, z10, z11⟩ := HX.out.all) | ((with_reducible refine gate_callee (f := 72) rfl ?_); refine goesL_ (some 33) rfl rfl Tryz.func72 (by kernel_rfl) rfl #[.agg #[.bool true, .bool false, .bool true, .bool true], .agg #[.int .i64 a0_0, .int .i64 a0_1, .int .i64 a0_2, .int .i64 a0_3, .slice A0_4 l0_4.length c0_4, .string a0_5, .string a0_6, .float .f64 a0_7]] rfl sqA ?_; (with_reducible refine (table_spare_nothing.calls true false true true a0_0 a0_1 a0_2 a0_3 _ _ l0_4 a0_5 a0_6 a0_7 false _ ?side1 ?side2 A39.out).mono ?_); (case side1 => (with_reducible repeat (first | refine Kd.C_drewN ?_ _ | refine Kd.C_drew ?_)); exact Kd.C_below HR0_4.out HX.out.2.2.1); (case side2 => exact HC0_4.out); rintro e W_ ⟨rfl, hb⟩; refine ⟨_, rfl, ?_⟩; have hx_ := HX.out.below (W1 := W_) ⟨hb.os, hb.tape, hb.output, hb.size, hb.block⟩; clear HX hb z0 z1 z2 z3 z4 z5 z6 z7 z8 z9 z10 z11; have HX := Aside0.mk hx_; clear hx_; obtain ⟨z0, z1, z2, z3, z4, z5, z6, z7, z8, z9, z10, z11⟩ := HX.out.all))
   go_ret
   exact ⟨sqE', by (with_reducible repeat (first | apply pw_below_drewN | apply below_drew1)); exact HX.out.2.2.1⟩
  subst c40
  rw [if_pos rfl] at H
  obtain ⟨t161, A41, H⟩ := sqO H
  try dsimp only at H
  by_cases c42 : t161 = true
  ·subst c42
   rw [if_pos rfl] at H
   obtain ⟨t162, A43, H⟩ := sqO H
   try dsimp only at H
   obtain rfl := Option.some.inj H
   go_wp2_with (first | ((with_reducible refine gate_flag rfl ?_); refine flag_event (s' := #[.bool true, .bool false, .bool true, .bool true]) 1 rfl rfl rfl HX.out rfl (by decide) (by kernel_rfl) ?_; intro W_ hx_; clear HX z0 z1 z2 z3 z4 z5 z6 z7 z8 z9 z10 z11; have HX := Aside0.mk hx_; clear hx_; obtain ⟨z0, z1, z2, z3, z4, z5, z6, z7, z8, z9, z10, z11⟩ := HX.out.all) | ((with_reducible refine gate_callee (f := 72) rfl ?_); refine goesL_ (some 33) rfl rfl Tryz.func72 (by kernel_rfl) rfl #[.agg #[.bool true, .bool false, .bool true, .bool true], .agg #[.int .i64 a0_0, .int .i64 a0_1, .int .i64 a0_2, .int .i64 a0_3, .slice A0_4 l0_4.length c0_4, .string a0_5, .string a0_6, .float .f64 a0_7]] rfl sqA ?_; (with_reducible refine (table_spare_nothing.calls true false true true a0_0 a0_1 a0_2 a0_3 _ _ l0_4 a0_5 a0_6 a0_7 true _ ?side1 ?side2 A39.out).mono ?_); (case side1 => (with_reducible repeat (first | refine Kd.C_drewN ?_ _ | refine Kd.C_drew ?_)); exact Kd.C_below HR0_4.out HX.out.2.2.1); (case side2 => exact HC0_4.out); rintro e W_ ⟨rfl, hb⟩; refine ⟨_, rfl, ?_⟩; have hx_ := HX.out.below (W1 := W_) ⟨hb.os, hb.tape, hb.output, hb.size, hb.block⟩; clear HX hb z0 z1 z2 z3 z4 z5 z6 z7 z8 z9 z10 z11; have HX := Aside0.mk hx_; clear hx_; obtain ⟨z0, z1, z2, z3, z4, z5, z6, z7, z8, z9, z10, z11⟩ := HX.out.all) | (go_at_call 75; (with_reducible refine (table_one.calls a0_0 a0_1 a0_2 a0_3 _ _ l0_4 a0_5 a0_6 a0_7 true _ ?side1 ?side2 A41.out).mono ?_); (case side1 => (with_reducible repeat (first | refine Kd.C_drewN ?_ _ | refine Kd.C_drew ?_)); exact Kd.C_below HR0_4.out HX.out.2.2.1); (case side2 => exact HC0_4.out); rintro e W_ ⟨rfl, hb⟩; have hx_ := HX.out.below (W1 := W_) ⟨hb.os, hb.tape, hb.output, hb.size, hb.block⟩; clear HX hb z0 z1 z2 z3 z4 z5 z6 z7 z8 z9 z10 z11; have HX := Aside0.mk hx_; clear hx_; obtain ⟨z0, z1, z2, z3, z4, z5, z6, z7, z8, z9, z10, z11⟩ := HX.out.all) | (go_at_call 73; (with_reducible refine (table_sound.calls k a0_0 a0_1 a0_2 a0_3 _ _ l0_4 a0_5 a0_6 a0_7 0 24 t162 _ ?side1 ?side2 A43.out).mono ?_); (case side1 => (with_reducible repeat (first | refine Kd.C_drewN ?_ _ | refine Kd.C_drew ?_)); exact Kd.C_below HR0_4.out HX.out.2.2.1); (case side2 => exact HC0_4.out); rintro e W_ ⟨rfl, hb⟩; have hx_ := HX.out.below (W1 := W_) ⟨hb.os, hb.tape, hb.output, hb.size, hb.block⟩; clear HX hb z0 z1 z2 z3 z4 z5 z6 z7 z8 z9 z10 z11; have HX := Aside0.mk hx_; clear hx_; obtain ⟨z0, z1, z2, z3, z4, z5, z6, z7, z8, z9, z10, z11⟩ := HX.out.all))
   go_ret
   exact ⟨sqE', by (with_reducible repeat (first | apply pw_below_drewN | apply below_drew1)); exact HX.out.2.2.1⟩
  replace c42 := Bool.eq_false_iff.mpr c42
  subst c42
  rw [if_neg (show ¬ (false = true) by decide)] at H
  obtain rfl := Option.some.inj H
  go_wp2_with (first | ((with_reducible refine gate_flag rfl ?_); refine flag_event (s' := #[.bool true, .bool false, .bool true, .bool true]) 1 rfl rfl rfl HX.out rfl (by decide) (by kernel_rfl) ?_; intro W_ hx_; clear HX z0 z1 z2 z3 z4 z5 z6 z7 z8 z9 z10 z11; have HX := Aside0.mk hx_; clear hx_; obtain ⟨z0, z1, z2, z3, z4, z5, z6, z7, z8, z9, z10, z11⟩ := HX.out.all) | ((with_reducible refine gate_callee (f := 72) rfl ?_); refine goesL_ (some 33) rfl rfl Tryz.func72 (by kernel_rfl) rfl #[.agg #[.bool true, .bool false, .bool true, .bool true], .agg #[.int .i64 a0_0, .int .i64 a0_1, .int .i64 a0_2, .int .i64 a0_3, .slice A0_4 l0_4.length c0_4, .string a0_5, .string a0_6, .float .f64 a0_7]] rfl sqA ?_; (with_reducible refine (table_spare_nothing.calls true false true true a0_0 a0_1 a0_2 a0_3 _ _ l0_4 a0_5 a0_6 a0_7 true _ ?side1 ?side2 A39.out).mono ?_); (case side1 => (with_reducible repeat (first | refine Kd.C_drewN ?_ _ | refine Kd.C_drew ?_)); exact Kd.C_below HR0_4.out HX.out.2.2.1); (case side2 => exact HC0_4.out); rintro e W_ ⟨rfl, hb⟩; refine ⟨_, rfl, ?_⟩; have hx_ := HX.out.below (W1 := W_) ⟨hb.os, hb.tape, hb.output, hb.size, hb.block⟩; clear HX hb z0 z1 z2 z3 z4 z5 z6 z7 z8 z9 z10 z11; have HX := Aside0.mk hx_; clear hx_; obtain ⟨z0, z1, z2, z3, z4, z5, z6, z7, z8, z9, z10, z11⟩ := HX.out.all) | (go_at_call 75; (with_reducible refine (table_one.calls a0_0 a0_1 a0_2 a0_3 _ _ l0_4 a0_5 a0_6 a0_7 false _ ?side1 ?side2 A41.out).mono ?_); (case side1 => (with_reducible repeat (first | refine Kd.C_drewN ?_ _ | refine Kd.C_drew ?_)); exact Kd.C_below HR0_4.out HX.out.2.2.1); (case side2 => exact HC0_4.out); rintro e W_ ⟨rfl, hb⟩; have hx_ := HX.out.below (W1 := W_) ⟨hb.os, hb.tape, hb.output, hb.size, hb.block⟩; clear HX hb z0 z1 z2 z3 z4 z5 z6 z7 z8 z9 z10 z11; have HX := Aside0.mk hx_; clear hx_; obtain ⟨z0, z1, z2, z3, z4, z5, z6, z7, z8, z9, z10, z11⟩ := HX.out.all))
  go_ret
  exact ⟨sqE', by (with_reducible repeat (first | apply pw_below_drewN | apply below_drew1)); exact HX.out.2.2.1⟩
 rw [if_neg c38] at H
 have c38b0 := beq_eq_false_iff_ne.mpr c38
 have c38b1 := bne_iff_ne.mpr c38
 by_cases c68 : a0_0 = 6
 ·rw [if_pos c68] at H
  have c68b0 := beq_iff_eq.mpr c68
  have c68b1 := bne_eq_false_iff_eq.mpr c68
  clear c68
  obtain ⟨t163, A69, H⟩ := sqO H
  try dsimp only at H
  by_cases c70 : t163 = true
  ·subst c70
   rw [if_pos rfl] at H
   obtain ⟨t164, A71, H⟩ := sqO H
   try dsimp only at H
   obtain rfl := Option.some.inj H
   go_wp2_with (first | ((with_reducible refine gate_flag rfl ?_); refine flag_event (s' := #[.bool false, .bool true, .bool true, .bool true]) 0 rfl rfl rfl HX.out rfl (by decide) (by kernel_rfl) ?_; intro W_ hx_; clear HX z0 z1 z2 z3 z4 z5 z6 z7 z8 z9 z10 z11; have HX := Aside0.mk hx_; clear hx_; obtain ⟨z0, z1, z2, z3, z4, z5, z6, z7, z8, z9, z10, z11⟩ := HX.out.all) | ((with_reducible refine gate_callee (f := 72) rfl ?_); refine goesL_ (some 47) rfl rfl Tryz.func72 (by kernel_rfl) rfl #[.agg #[.bool false, .bool true, .bool true, .bool true], .agg #[.int .i64 a0_0, .int .i64 a0_1, .int .i64 a0_2, .int .i64 a0_3, .slice A0_4 l0_4.length c0_4, .string a0_5, .string a0_6, .float .f64 a0_7]] rfl sqA ?_; (with_reducible refine (table_spare_nothing.calls false true true true a0_0 a0_1 a0_2 a0_3 _ _ l0_4 a0_5 a0_6 a0_7 true _ ?side1 ?side2 A69.out).mono ?_); (case side1 => (with_reducible repeat (first | refine Kd.C_drewN ?_ _ | refine Kd.C_drew ?_)); exact Kd.C_below HR0_4.out HX.out.2.2.1); (case side2 => exact HC0_4.out); rintro e W_ ⟨rfl, hb⟩; refine ⟨_, rfl, ?_⟩; have hx_ := HX.out.below (W1 := W_) ⟨hb.os, hb.tape, hb.output, hb.size, hb.block⟩; clear HX hb z0 z1 z2 z3 z4 z5 z6 z7 z8 z9 z10 z11; have HX := Aside0.mk hx_; clear hx_; obtain ⟨z0, z1, z2, z3, z4, z5, z6, z7, z8, z9, z10, z11⟩ := HX.out.all) | (go_at_call 76; (with_reducible refine (table_between.calls a0_0 a0_1 a0_2 a0_3 _ _ l0_4 a0_5 a0_6 a0_7 1 254 t164 _ ?side1 ?side2 A71.out).mono ?_); (case side1 => (with_reducible repeat (first | refine Kd.C_drewN ?_ _ | refine Kd.C_drew ?_)); exact Kd.C_below HR0_4.out HX.out.2.2.1); (case side2 => exact HC0_4.out); rintro e W_ ⟨rfl, hb⟩; have hx_ := HX.out.below (W1 := W_) ⟨hb.os, hb.tape, hb.output, hb.size, hb.block⟩; clear HX hb z0 z1 z2 z3 z4 z5 z6 z7 z8 z9 z10 z11; have HX := Aside0.mk hx_; clear hx_; obtain ⟨z0, z1, z2, z3, z4, z5, z6, z7, z8, z9, z10, z11⟩ := HX.out.all))
   go_ret
   exact ⟨sqE', by (with_reducible repeat (first | apply pw_below_drewN | apply below_drew1)); exact HX.out.2.2.1⟩
  replace c70 := Bool.eq_false_iff.mpr c70
  subst c70
  rw [if_neg (show ¬ (false = true) by decide)] at H
  obtain rfl := Option.some.inj H
  go_wp2_with (first | ((with_reducible refine gate_flag rfl ?_); refine flag_event (s' := #[.bool false, .bool true, .bool true, .bool true]) 0 rfl rfl rfl HX.out rfl (by decide) (by kernel_rfl) ?_; intro W_ hx_; clear HX z0 z1 z2 z3 z4 z5 z6 z7 z8 z9 z10 z11; have HX := Aside0.mk hx_; clear hx_; obtain ⟨z0, z1, z2, z3, z4, z5, z6, z7, z8, z9, z10, z11⟩ := HX.out.all) | ((with_reducible refine gate_callee (f := 72) rfl ?_); refine goesL_ (some 47) rfl rfl Tryz.func72 (by kernel_rfl) rfl #[.agg #[.bool false, .bool true, .bool true, .bool true], .agg #[.int .i64 a0_0, .int .i64 a0_1, .int .i64 a0_2, .int .i64 a0_3, .slice A0_4 l0_4.length c0_4, .string a0_5, .string a0_6, .float .f64 a0_7]] rfl sqA ?_; (with_reducible refine (table_spare_nothing.calls false true true true a0_0 a0_1 a0_2 a0_3 _ _ l0_4 a0_5 a0_6 a0_7 false _ ?side1 ?side2 A69.out).mono ?_); (case side1 => (with_reducible repeat (first | refine Kd.C_drewN ?_ _ | refine Kd.C_drew ?_)); exact Kd.C_below HR0_4.out HX.out.2.2.1); (case side2 => exact HC0_4.out); rintro e W_ ⟨rfl, hb⟩; refine ⟨_, rfl, ?_⟩; have hx_ := HX.out.below (W1 := W_) ⟨hb.os, hb.tape, hb.output, hb.size, hb.block⟩; clear HX hb z0 z1 z2 z3 z4 z5 z6 z7 z8 z9 z10 z11; have HX := Aside0.mk hx_; clear hx_; obtain ⟨z0, z1, z2, z3, z4, z5, z6, z7, z8, z9, z10, z11⟩ := HX.out.all))
  go_ret
  exact ⟨sqE', by (with_reducible repeat (first | apply pw_below_drewN | apply below_drew1)); exact HX.out.2.2.1⟩
 rw [if_neg c68] at H
 have c68b0 := beq_eq_false_iff_ne.mpr c68
 have c68b1 := bne_iff_ne.mpr c68
 by_cases c86 : a0_0 = 7
 ·rw [if_pos c86] at H
  have c86b0 := beq_iff_eq.mpr c86
  have c86b1 := bne_eq_false_iff_eq.mpr c86
  clear c86
  obtain ⟨t165, A87, H⟩ := sqO H
  try dsimp only at H
  by_cases c88 : t165 = true
  case neg =>
   replace c88 := Bool.eq_false_iff.mpr c88
   subst c88
   rw [if_neg (show ¬ (false = true) by decide)] at H
   obtain rfl := Option.some.inj H
   go_wp2_with (first | ((with_reducible refine gate_flag rfl ?_); refine flag_event (s' := #[.bool true, .bool false, .bool true, .bool true]) 1 rfl rfl rfl HX.out rfl (by decide) (by kernel_rfl) ?_; intro W_ hx_; clear HX z0 z1 z2 z3 z4 z5 z6 z7 z8 z9 z10 z11; have HX := Aside0.mk hx_; clear hx_; obtain ⟨z0, z1, z2, z3, z4, z5, z6, z7, z8, z9, z10, z11⟩ := HX.out.all) | ((with_reducible refine gate_callee (f := 72) rfl ?_); refine goesL_ (some 57) rfl rfl Tryz.func72 (by kernel_rfl) rfl #[.agg #[.bool true, .bool false, .bool true, .bool true], .agg #[.int .i64 a0_0, .int .i64 a0_1, .int .i64 a0_2, .int .i64 a0_3, .slice A0_4 l0_4.length c0_4, .string a0_5, .string a0_6, .float .f64 a0_7]] rfl sqA ?_; (with_reducible refine (table_spare_nothing.calls true false true true a0_0 a0_1 a0_2 a0_3 _ _ l0_4 a0_5 a0_6 a0_7 false _ ?side1 ?side2 A87.out).mono ?_); (case side1 => (with_reducible repeat (first | refine Kd.C_drewN ?_ _ | refine Kd.C_drew ?_)); exact Kd.C_below HR0_4.out HX.out.2.2.1); (case side2 => exact HC0_4.out); rintro e W_ ⟨rfl, hb⟩; refine ⟨_, rfl, ?_⟩; have hx_ := HX.out.below (W1 := W_) ⟨hb.os, hb.tape, hb.output, hb.size, hb.block⟩; clear HX hb z0 z1 z2 z3 z4 z5 z6 z7 z8 z9 z10 z11; have HX := Aside0.mk hx_; clear hx_; obtain ⟨z0, z1, z2, z3, z4, z5, z6, z7, z8, z9, z10, z11⟩ := HX.out.all))
   go_ret
   exact ⟨sqE', by (with_reducible repeat (first | apply pw_below_drewN | apply below_drew1)); exact HX.out.2.2.1⟩
  subst c88
  rw [if_pos rfl] at H
  obtain ⟨t166, A89, H⟩ := sqO H
  try dsimp only at H
  by_cases c90 : t166 = true
  ·subst c90
   rw [if_pos rfl] at H
   obtain ⟨t167, A91, H⟩ := sqO H
   try dsimp only at H
   obtain rfl := Option.some.inj H
   go_wp2_with (first | ((with_reducible refine gate_flag rfl ?_); refine flag_event (s' := #[.bool true, .bool false, .bool true, .bool true]) 1 rfl rfl rfl HX.out rfl (by decide) (by kernel_rfl) ?_; intro W_ hx_; clear HX z0 z1 z2 z3 z4 z5 z6 z7 z8 z9 z10 z11; have HX := Aside0.mk hx_; clear hx_; obtain ⟨z0, z1, z2, z3, z4, z5, z6, z7, z8, z9, z10, z11⟩ := HX.out.all) | ((with_reducible refine gate_callee (f := 72) rfl ?_); refine goesL_ (some 57) rfl rfl Tryz.func72 (by kernel_rfl) rfl #[.agg #[.bool true, .bool false, .bool true, .bool true], .agg #[.int .i64 a0_0, .int .i64 a0_1, .int .i64 a0_2, .int .i64 a0_3, .slice A0_4 l0_4.length c0_4, .string a0_5, .string a0_6, .float .f64 a0_7]] rfl sqA ?_; (with_reducible refine (table_spare_nothing.calls true false true true a0_0 a0_1 a0_2 a0_3 _ _ l0_4 a0_5 a0_6 a0_7 true _ ?side1 ?side2 A87.out).mono ?_); (case side1 => (with_reducible repeat (first | refine Kd.C_drewN ?_ _ | refine Kd.C_drew ?_)); exact Kd.C_below HR0_4.out HX.out.2.2.1); (case side2 => exact HC0_4.out); rintro e W_ ⟨rfl, hb⟩; refine ⟨_, rfl, ?_⟩; have hx_ := HX.out.below (W1 := W_) ⟨hb.os, hb.tape, hb.output, hb.size, hb.block⟩; clear HX hb z0 z1 z2 z3 z4 z5 z6 z7 z8 z9 z10 z11; have HX := Aside0.mk hx_; clear hx_; obtain ⟨z0, z1, z2, z3, z4, z5, z6, z7, z8, z9, z10, z11⟩ := HX.out.all) | (go_at_call 75; (with_reducible refine (table_one.calls a0_0 a0_1 a0_2 a0_3 _ _ l0_4 a0_5 a0_6 a0_7 true _ ?side1 ?side2 A89.out).mono ?_); (case side1 => (with_reducible repeat (first | refine Kd.C_drewN ?_ _ | refine Kd.C_drew ?_)); exact Kd.C_below HR0_4.out HX.out.2.2.1); (case side2 => exact HC0_4.out); rintro e W_ ⟨rfl, hb⟩; have hx_ := HX.out.below (W1 := W_) ⟨hb.os, hb.tape, hb.output, hb.size, hb.block⟩; clear HX hb z0 z1 z2 z3 z4 z5 z6 z7 z8 z9 z10 z11; have HX := Aside0.mk hx_; clear hx_; obtain ⟨z0, z1, z2, z3, z4, z5, z6, z7, z8, z9, z10, z11⟩ := HX.out.all) | (go_at_call 73; (with_reducible refine (table_sound.calls k a0_0 a0_1 a0_2 a0_3 _ _ l0_4 a0_5 a0_6 a0_7 2 2 t167 _ ?side1 ?side2 A91.out).mono ?_); (case side1 => (with_reducible repeat (first | refine Kd.C_drewN ?_ _ | refine Kd.C_drew ?_)); exact Kd.C_below HR0_4.out HX.out.2.2.1); (case side2 => exact HC0_4.out); rintro e W_ ⟨rfl, hb⟩; have hx_ := HX.out.below (W1 := W_) ⟨hb.os, hb.tape, hb.output, hb.size, hb.block⟩; clear HX hb z0 z1 z2 z3 z4 z5 z6 z7 z8 z9 z10 z11; have HX := Aside0.mk hx_; clear hx_; obtain ⟨z0, z1, z2, z3, z4, z5, z6, z7, z8, z9, z10, z11⟩ := HX.out.all))
   go_ret
   exact ⟨sqE', by (with_reducible repeat (first | apply pw_below_drewN | apply below_drew1)); exact HX.out.2.2.1⟩
  replace c90 := Bool.eq_false_iff.mpr c90
  subst c90
  rw [if_neg (show ¬ (false = true) by decide)] at H
  obtain rfl := Option.some.inj H
  go_wp2_with (first | ((with_reducible refine gate_flag rfl ?_); refine flag_event (s' := #[.bool true, .bool false, .bool true, .bool true]) 1 rfl rfl rfl HX.out rfl (by decide) (by kernel_rfl) ?_; intro W_ hx_; clear HX z0 z1 z2 z3 z4 z5 z6 z7 z8 z9 z10 z11; have HX := Aside0.mk hx_; clear hx_; obtain ⟨z0, z1, z2, z3, z4, z5, z6, z7, z8, z9, z10, z11⟩ := HX.out.all) | ((with_reducible refine gate_callee (f := 72) rfl ?_); refine goesL_ (some 57) rfl rfl Tryz.func72 (by kernel_rfl) rfl #[.agg #[.bool true, .bool false, .bool true, .bool true], .agg #[.int .i64 a0_0, .int .i64 a0_1, .int .i64 a0_2, .int .i64 a0_3, .slice A0_4 l0_4.length c0_4, .string a0_5, .string a0_6, .float .f64 a0_7]] rfl sqA ?_; (with_reducible refine (table_spare_nothing.calls true false true true a0_0 a0_1 a0_2 a0_3 _ _ l0_4 a0_5 a0_6 a0_7 true _ ?side1 ?side2 A87.out).mono ?_); (case side1 => (with_reducible repeat (first | refine Kd.C_drewN ?_ _ | refine Kd.C_drew ?_)); exact Kd.C_below HR0_4.out HX.out.2.2.1); (case side2 => exact HC0_4.out); rintro e W_ ⟨rfl, hb⟩; refine ⟨_, rfl, ?_⟩; have hx_ := HX.out.below (W1 := W_) ⟨hb.os, hb.tape, hb.output, hb.size, hb.block⟩; clear HX hb z0 z1 z2 z3 z4 z5 z6 z7 z8 z9 z10 z11; have HX := Aside0.mk hx_; clear hx_; obtain ⟨z0, z1, z2, z3, z4, z5, z6, z7, z8, z9, z10, z11⟩ := HX.out.all) | (go_at_call 75; (with_reducible refine (table_one.calls a0_0 a0_1 a0_2 a0_3 _ _ l0_4 a0_5 a0_6 a0_7 false _ ?side1 ?side2 A89.out).mono ?_); (case side1 => (with_reducible repeat (first | refine Kd.C_drewN ?_ _ | refine Kd.C_drew ?_)); exact Kd.C_below HR0_4.out HX.out.2.2.1); (case side2 => exact HC0_4.out); rintro e W_ ⟨rfl, hb⟩; have hx_ := HX.out.below (W1 := W_) ⟨hb.os, hb.tape, hb.output, hb.size, hb.block⟩; clear HX hb z0 z1 z2 z3 z4 z5 z6 z7 z8 z9 z10 z11; have HX := Aside0.mk hx_; clear hx_; obtain ⟨z0, z1, z2, z3, z4, z5, z6, z7, z8, z9, z10, z11⟩ := HX.out.all))
  go_ret
  exact ⟨sqE', by (with_reducible repeat (first | apply pw_below_drewN | apply below_drew1)); exact HX.out.2.2.1⟩
 rw [if_neg c86] at H
 have c86b0 := beq_eq_false_iff_ne.mpr c86
 have c86b1 := bne_iff_ne.mpr c86
 by_cases c116 : a0_0 = 8
 ·rw [if_pos c116] at H
  have c116b0 := beq_iff_eq.mpr c116
  have c116b1 := bne_eq_false_iff_eq.mpr c116
  clear c116
  obtain ⟨t168, A117, H⟩ := sqO H
  try dsimp only at H
  by_cases c118 : t168 = true
  case neg =>
   replace c118 := Bool.eq_false_iff.mpr c118
   subst c118
   rw [if_neg (show ¬ (false = true) by decide)] at H
   obtain rfl := Option.some.inj H
   go_wp2_with (first | ((with_reducible refine gate_flag rfl ?_); refine flag_event (s' := #[.bool true, .bool false, .bool true, .bool true]) 1 rfl rfl rfl HX.out rfl (by decide) (by kernel_rfl) ?_; intro W_ hx_; clear HX z0 z1 z2 z3 z4 z5 z6 z7 z8 z9 z10 z11; have HX := Aside0.mk hx_; clear hx_; obtain ⟨z0, z1, z2, z3, z4, z5, z6, z7, z8, z9, z10, z11⟩ := HX.out.all) | ((with_reducible refine gate_callee (f := 72) rfl ?_); refine goesL_ (some 71) rfl rfl Tryz.func72 (by kernel_rfl) rfl #[.agg #[.bool true, .bool false, .bool true, .bool true], .agg #[.int .i64 a0_0, .int .i64 a0_1, .int .i64 a0_2, .int .i64 a0_3, .slice A0_4 l0_4.length c0_4, .string a0_5, .string a0_6, .float .f64 a0_7]] rfl sqA ?_; (with_reducible refine (table_spare_nothing.calls true false true true a0_0 a0_1 a0_2 a0_3 _ _ l0_4 a0_5 a0_6 a0_7 false _ ?side1 ?side2 A117.out).mono ?_); (case side1 => (with_reducible repeat (first | refine Kd.C_drewN ?_ _ | refine Kd.C_drew ?_)); exact Kd.C_below HR0_4.out HX.out.2.2.1); (case side2 => exact HC0_4.out); rintro e W_ ⟨rfl, hb⟩; refine ⟨_, rfl, ?_⟩; have hx_ := HX.out.below (W1 := W_) ⟨hb.os, hb.tape, hb.output, hb.size, hb.block⟩; clear HX hb z0 z1 z2 z3 z4 z5 z6 z7 z8 z9 z10 z11; have HX := Aside0.mk hx_; clear hx_; obtain ⟨z0, z1, z2, z3, z4, z5, z6, z7, z8, z9, z10, z11⟩ := HX.out.all))
   go_ret
   exact ⟨sqE', by (with_reducible repeat (first | apply pw_below_drewN | apply below_drew1)); exact HX.out.2.2.1⟩
  subst c118
  rw [if_pos rfl] at H
  obtain ⟨t169, A119, H⟩ := sqO H
  try dsimp only at H
  by_cases c120 : t169 = true
  ·subst c120
   rw [if_pos rfl] at H
   obtain ⟨t170, A121, H⟩ := sqO H
   try dsimp only at H
   obtain rfl := Option.some.inj H
   go_wp2_with (first | ((with_reducible refine gate_flag rfl ?_); refine flag_event (s' := #[.bool true, .bool false, .bool true, .bool true]) 1 rfl rfl rfl HX.out rfl (by decide) (by kernel_rfl) ?_; intro W_ hx_; clear HX z0 z1 z2 z3 z4 z5 z6 z7 z8 z9 z10 z11; have HX := Aside0.mk hx_; clear hx_; obtain ⟨z0, z1, z2, z3, z4, z5, z6, z7, z8, z9, z10, z11⟩ := HX.out.all) | ((with_reducible refine gate_callee (f := 72) rfl ?_); refine goesL_ (some 71) rfl rfl Tryz.func72 (by kernel_rfl) rfl #[.agg #[.bool true, .bool false, .bool true, .bool true], .agg #[.int .i64 a0_0, .int .i64 a0_1, .int .i64 a0_2, .int .i64 a0_3, .slice A0_4 l0_4.length c0_4, .string a0_5, .string a0_6, .float .f64 a0_7]] rfl sqA ?_; (with_reducible refine (table_spare_nothing.calls true false true true a0_0 a0_1 a0_2 a0_3 _ _ l0_4 a0_5 a0_6 a0_7 true _ ?side1 ?side2 A117.out).mono ?_); (case side1 => (with_reducible repeat (first | refine Kd.C_drewN ?_ _ | refine Kd.C_drew ?_)); exact Kd.C_below HR0_4.out HX.out.2.2.1); (case side2 => exact HC0_4.out); rintro e W_ ⟨rfl, hb⟩; refine ⟨_, rfl, ?_⟩; have hx_ := HX.out.below (W1 := W_) ⟨hb.os, hb.tape, hb.output, hb.size, hb.block⟩; clear HX hb z0 z1 z2 z3 z4 z5 z6 z7 z8 z9 z10 z11; have HX := Aside0.mk hx_; clear hx_; obtain ⟨z0, z1, z2, z3, z4, z5, z6, z7, z8, z9, z10, z11⟩ := HX.out.all) | (go_at_call 75; (with_reducible refine (table_one.calls a0_0 a0_1 a0_2 a0_3 _ _ l0_4 a0_5 a0_6 a0_7 true _ ?side1 ?side2 A119.out).mono ?_); (case side1 => (with_reducible repeat (first | refine Kd.C_drewN ?_ _ | refine Kd.C_drew ?_)); exact Kd.C_below HR0_4.out HX.out.2.2.1); (case side2 => exact HC0_4.out); rintro e W_ ⟨rfl, hb⟩; have hx_ := HX.out.below (W1 := W_) ⟨hb.os, hb.tape, hb.output, hb.size, hb.block⟩; clear HX hb z0 z1 z2 z3 z4 z5 z6 z7 z8 z9 z10 z11; have HX := Aside0.mk hx_; clear hx_; obtain ⟨z0, z1, z2, z3, z4, z5, z6, z7, z8, z9, z10, z11⟩ := HX.out.all) | (go_at_call 73; (with_reducible refine (table_sound.calls k a0_0 a0_1 a0_2 a0_3 _ _ l0_4 a0_5 a0_6 a0_7 1 2 t170 _ ?side1 ?side2 A121.out).mono ?_); (case side1 => (with_reducible repeat (first | refine Kd.C_drewN ?_ _ | refine Kd.C_drew ?_)); exact Kd.C_below HR0_4.out HX.out.2.2.1); (case side2 => exact HC0_4.out); rintro e W_ ⟨rfl, hb⟩; have hx_ := HX.out.below (W1 := W_) ⟨hb.os, hb.tape, hb.output, hb.size, hb.block⟩; clear HX hb z0 z1 z2 z3 z4 z5 z6 z7 z8 z9 z10 z11; have HX := Aside0.mk hx_; clear hx_; obtain ⟨z0, z1, z2, z3, z4, z5, z6, z7, z8, z9, z10, z11⟩ := HX.out.all))
   go_ret
   exact ⟨sqE', by (with_reducible repeat (first | apply pw_below_drewN | apply below_drew1)); exact HX.out.2.2.1⟩
  replace c120 := Bool.eq_false_iff.mpr c120
  subst c120
  rw [if_neg (show ¬ (false = true) by decide)] at H
  obtain rfl := Option.some.inj H
  go_wp2_with (first | ((with_reducible refine gate_flag rfl ?_); refine flag_event (s' := #[.bool true, .bool false, .bool true, .bool true]) 1 rfl rfl rfl HX.out rfl (by decide) (by kernel_rfl) ?_; intro W_ hx_; clear HX z0 z1 z2 z3 z4 z5 z6 z7 z8 z9 z10 z11; have HX := Aside0.mk hx_; clear hx_; obtain ⟨z0, z1, z2, z3, z4, z5, z6, z7, z8, z9, z10, z11⟩ := HX.out.all) | ((with_reducible refine gate_callee (f := 72) rfl ?_); refine goesL_ (some 71) rfl rfl Tryz.func72 (by kernel_rfl) rfl #[.agg #[.bool true, .bool false, .bool true, .bool true], .agg #[.int .i64 a0_0, .int .i64 a0_1, .int .i64 a0_2, .int .i64 a0_3, .slice A0_4 l0_4.length c0_4, .string a0_5, .string a0_6, .float .f64 a0_7]] rfl sqA ?_; (with_reducible refine (table_spare_nothing.calls true false true true a0_0 a0_1 a0_2 a0_3 _ _ l0_4 a0_5 a0_6 a0_7 true _ ?side1 ?side2 A117.out).mono ?_); (case side1 => (with_reducible repeat (first | refine Kd.C_drewN ?_ _ | refine Kd.C_drew ?_)); exact Kd.C_below HR0_4.out HX.out.2.2.1); (case side2 => exact HC0_4.out); rintro e W_ ⟨rfl, hb⟩; refine ⟨_, rfl, ?_⟩; have hx_ := HX.out.below (W1 := W_) ⟨hb.os, hb.tape, hb.output, hb.size, hb.block⟩; clear HX hb z0 z1 z2 z3 z4 z5 z6 z7 z8 z9 z10 z11; have HX := Aside0.mk hx_; clear hx_; obtain ⟨z0, z1, z2, z3, z4, z5, z6, z7, z8, z9, z10, z11⟩ := HX.out.all) | (go_at_call 75; (with_reducible refine (table_one.calls a0_0 a0_1 a0_2 a0_3 _ _ l0_4 a0_5 a0_6 a0_7 false _ ?side1 ?side2 A119.out).mono ?_); (case side1 => (with_reducible repeat (first | refine Kd.C_drewN ?_ _ | refine Kd.C_drew ?_)); exact Kd.C_below HR0_4.out HX.out.2.2.1); (case side2 => exact HC0_4.out); rintro e W_ ⟨rfl, hb⟩; have hx_ := HX.out.below (W1 := W_) ⟨hb.os, hb.tape, hb.output, hb.size, hb.block⟩; clear HX hb z0 z1 z2 z3 z4 z5 z6 z7 z8 z9 z10 z11; have HX := Aside0.mk hx_; clear hx_; obtain ⟨z0, z1, z2, z3, z4, z5, z6, z7, z8, z9, z10, z11⟩ := HX.out.all))
  go_ret
  exact ⟨sqE', by (with_reducible repeat (first | apply pw_below_drewN | apply below_drew1)); exact HX.out.2.2.1⟩
 rw [if_neg c116] at H
 have c116b0 := beq_eq_false_iff_ne.mpr c116
 have c116b1 := bne_iff_ne.mpr c116
 by_cases c146 : a0_0 = 9
 ·rw [if_pos c146] at H
  have c146b0 := beq_iff_eq.mpr c146
  have c146b1 := bne_eq_false_iff_eq.mpr c146
  clear c146
  obtain ⟨t171, A147, H⟩ := sqO H
  try dsimp only at H
  by_cases c148 : t171 = true
  ·subst c148
   rw [if_pos rfl] at H
   obtain ⟨t172, A149, H⟩ := sqO H
   try dsimp only at H
   obtain rfl := Option.some.inj H
   go_wp2_with (first | ((with_reducible refine gate_flag rfl ?_); refine flag_event (s' := #[.bool false, .bool true, .bool true, .bool true]) 0 rfl rfl rfl HX.out rfl (by decide) (by kernel_rfl) ?_; intro W_ hx_; clear HX z0 z1 z2 z3 z4 z5 z6 z7 z8 z9 z10 z11; have HX := Aside0.mk hx_; clear hx_; obtain ⟨z0, z1, z2, z3, z4, z5, z6, z7, z8, z9, z10, z11⟩ := HX.out.all) | ((with_reducible refine gate_callee (f := 72) rfl ?_); refine goesL_ (some 85) rfl rfl Tryz.func72 (by kernel_rfl) rfl #[.agg #[.bool false, .bool true, .bool true, .bool true], .agg #[.int .i64 a0_0, .int .i64 a0_1, .int .i64 a0_2, .int .i64 a0_3, .slice A0_4 l0_4.length c0_4, .string a0_5, .string a0_6, .float .f64 a0_7]] rfl sqA ?_; (with_reducible refine (table_spare_nothing.calls false true true true a0_0 a0_1 a0_2 a0_3 _ _ l0_4 a0_5 a0_6 a0_7 true _ ?side1 ?side2 A147.out).mono ?_); (case side1 => (with_reducible repeat (first | refine Kd.C_drewN ?_ _ | refine Kd.C_drew ?_)); exact Kd.C_below HR0_4.out HX.out.2.2.1); (case side2 => exact HC0_4.out); rintro e W_ ⟨rfl, hb⟩; refine ⟨_, rfl, ?_⟩; have hx_ := HX.out.below (W1 := W_) ⟨hb.os, hb.tape, hb.output, hb.size, hb.block⟩; clear HX hb z0 z1 z2 z3 z4 z5 z6 z7 z8 z9 z10 z11; have HX := Aside0.mk hx_; clear hx_; obtain ⟨z0, z1, z2, z3, z4, z5, z6, z7, z8, z9, z10, z11⟩ := HX.out.all) | (go_at_call 76; (with_reducible refine (table_between.calls a0_0 a0_1 a0_2 a0_3 _ _ l0_4 a0_5 a0_6 a0_7 0 10 t172 _ ?side1 ?side2 A149.out).mono ?_); (case side1 => (with_reducible repeat (first | refine Kd.C_drewN ?_ _ | refine Kd.C_drew ?_)); exact Kd.C_below HR0_4.out HX.out.2.2.1); (case side2 => exact HC0_4.out); rintro e W_ ⟨rfl, hb⟩; have hx_ := HX.out.below (W1 := W_) ⟨hb.os, hb.tape, hb.output, hb.size, hb.block⟩; clear HX hb z0 z1 z2 z3 z4 z5 z6 z7 z8 z9 z10 z11; have HX := Aside0.mk hx_; clear hx_; obtain ⟨z0, z1, z2, z3, z4, z5, z6, z7, z8, z9, z10, z11⟩ := HX.out.all))
   go_ret
   exact ⟨sqE', by (with_reducible repeat (first | apply pw_below_drewN | apply below_drew1)); exact HX.out.2.2.1⟩
  replace c148 := Bool.eq_false_iff.mpr c148
  subst c148
  rw [if_neg (show ¬ (false = true) by decide)] at H
  obtain rfl := Option.some.inj H
  go_wp2_with (first | ((with_reducible refine gate_flag rfl ?_); refine flag_event (s' := #[.bool false, .bool true, .bool true, .bool true]) 0 rfl rfl rfl HX.out rfl (by decide) (by kernel_rfl) ?_; intro W_ hx_; clear HX z0 z1 z2 z3 z4 z5 z6 z7 z8 z9 z10 z11; have HX := Aside0.mk hx_; clear hx_; obtain ⟨z0, z1, z2, z3, z4, z5, z6, z7, z8, z9, z10, z11⟩ := HX.out.all) | ((with_reducible refine gate_callee (f := 72) rfl ?_); refine goesL_ (some 85) rfl rfl Tryz.func72 (by kernel_rfl) rfl #[.agg #[.bool false, .bool true, .bool true, .bool true], .agg #[.int .i64 a0_0, .int .i64 a0_1, .int .i64 a0_2, .int .i64 a0_3, .slice A0_4 l0_4.length c0_4, .string a0_5, .string a0_6, .float .f64 a0_7]] rfl sqA ?_; (with_reducible refine (table_spare_nothing.calls false true true true a0_0 a0_1 a0_2 a0_3 _ _ l0_4 a0_5 a0_6 a0_7 false _ ?side1 ?side2 A147.out).mono ?_); (case side1 => (with_reducible repeat (first | refine Kd.C_drewN ?_ _ | refine Kd.C_drew ?_)); exact Kd.C_below HR0_4.out HX.out.2.2.1); (case side2 => exact HC0_4.out); rintro e W_ ⟨rfl, hb⟩; refine ⟨_, rfl, ?_⟩; have hx_ := HX.out.below (W1 := W_) ⟨hb.os, hb.tape, hb.output, hb.size, hb.block⟩; clear HX hb z0 z1 z2 z3 z4 z5 z6 z7 z8 z9 z10 z11; have HX := Aside0.mk hx_; clear hx_; obtain ⟨z0, z1, z2, z3, z4, z5, z6, z7, z8, z9, z10, z11⟩ := HX.out.all))
  go_ret
  exact ⟨sqE', by (with_reducible repeat (first | apply pw_below_drewN | apply below_drew1)); exact HX.out.2.2.1⟩
 rw [if_neg c146] at H
 have c146b0 := beq_eq_false_iff_ne.mpr c146
 have c146b1 := bne_iff_ne.mpr c146
 by_cases c164 : a0_0 = 10
 ·rw [if_pos c164] at H
  have c164b0 := beq_iff_eq.mpr c164
  have c164b1 := bne_eq_false_iff_eq.mpr c164
  clear c164
  obtain ⟨t173, A165, H⟩ := sqO H
  try dsimp only at H
  by_cases c166 : t173 = true
  ·subst c166
   rw [if_pos rfl] at H
   obtain ⟨t174, A167, H⟩ := sqO H
   try dsimp only at H
   obtain rfl := Option.some.inj H
   go_wp2_with (first | ((with_reducible refine gate_flag rfl ?_); refine flag_event (s' := #[.bool false, .bool true, .bool true, .bool true]) 0 rfl rfl rfl HX.out rfl (by decide) (by kernel_rfl) ?_; intro W_ hx_; clear HX z0 z1 z2 z3 z4 z5 z6 z7 z8 z9 z10 z11; have HX := Aside0.mk hx_; clear hx_; obtain ⟨z0, z1, z2, z3, z4, z5, z6, z7, z8, z9, z10, z11⟩ := HX.out.all) | ((with_reducible refine gate_callee (f := 72) rfl ?_); refine goesL_ (some 95) rfl rfl Tryz.func72 (by kernel_rfl) rfl #[.agg #[.bool false, .bool true, .bool true, .bool true], .agg #[.int .i64 a0_0, .int .i64 a0_1, .int .i64 a0_2, .int .i64 a0_3, .slice A0_4 l0_4.length c0_4, .string a0_5, .string a0_6, .float .f64 a0_7]] rfl sqA ?_; (with_reducible refine (table_spare_nothing.calls false true true true a0_0 a0_1 a0_2 a0_3 _ _ l0_4 a0_5 a0_6 a0_7 true _ ?side1 ?side2 A165.out).mono ?_); (case side1 => (with_reducible repeat (first | refine Kd.C_drewN ?_ _ | refine Kd.C_drew ?_)); exact Kd.C_below HR0_4.out HX.out.2.2.1); (case side2 => exact HC0_4.out); rintro e W_ ⟨rfl, hb⟩; refine ⟨_, rfl, ?_⟩; have hx_ := HX.out.below (W1 := W_) ⟨hb.os, hb.tape, hb.output, hb.size, hb.block⟩; clear HX hb z0 z1 z2 z3 z4 z5 z6 z7 z8 z9 z10 z11; have HX := Aside0.mk hx_; clear hx_; obtain ⟨z0, z1, z2, z3, z4, z5, z6, z7, z8, z9, z10, z11⟩ := HX.out.all) | (go_at_call 76; (with_reducible refine (table_between.calls a0_0 a0_1 a0_2 a0_3 _ _ l0_4 a0_5 a0_6 a0_7 0 5 t174 _ ?side1 ?side2 A167.out).mono ?_); (case side1 => (with_reducible repeat (first | refine Kd.C_drewN ?_ _ | refine Kd.C_drew ?_)); exact Kd.C_below HR0_4.out HX.out.2.2.1); (case side2 => exact HC0_4.out); rintro e W_ ⟨rfl, hb⟩; have hx_ := HX.out.below (W1 := W_) ⟨hb.os, hb.tape, hb.output, hb.size, hb.block⟩; clear HX hb z0 z1 z2 z3 z4 z5 z6 z7 z8 z9 z10 z11; have HX := Aside0.mk hx_; clear hx_; obtain ⟨z0, z1, z2, z3, z4, z5, z6, z7, z8, z9, z10, z11⟩ := HX.out.all))
   go_ret
   exact ⟨sqE', by (with_reducible repeat (first | apply pw_below_drewN | apply below_drew1)); exact HX.out.2.2.1⟩
  replace c166 := Bool.eq_false_iff.mpr c166
  subst c166
  rw [if_neg (show ¬ (false = true) by decide)] at H
  obtain rfl := Option.some.inj H
  go_wp2_with (first | ((with_reducible refine gate_flag rfl ?_); refine flag_event (s' := #[.bool false, .bool true, .bool true, .bool true]) 0 rfl rfl rfl HX.out rfl (by decide) (by kernel_rfl) ?_; intro W_ hx_; clear HX z0 z1 z2 z3 z4 z5 z6 z7 z8 z9 z10 z11; have HX := Aside0.mk hx_; clear hx_; obtain ⟨z0, z1, z2, z3, z4, z5, z6, z7, z8, z9, z10, z11⟩ := HX.out.all) | ((with_reducible refine gate_callee (f := 72) rfl ?_); refine goesL_ (some 95) rfl rfl Tryz.func72 (by kernel_rfl) rfl #[.agg #[.bool false, .bool true, .bool true, .bool true], .agg #[.int .i64 a0_0, .int .i64 a0_1, .int .i64 a0_2, .int .i64 a0_3, .slice A0_4 l0_4.length c0_4, .string a0_5, .string a0_6, .float .f64 a0_7]] rfl sqA ?_; (with_reducible refine (table_spare_nothing.calls false true true true a0_0 a0_1 a0_2 a0_3 _ _ l0_4 a0_5 a0_6 a0_7 false _ ?side1 ?side2 A165.out).mono ?_); (case side1 => (with_reducible repeat (first | refine Kd.C_drewN ?_ _ | refine Kd.C_drew ?_)); exact Kd.C_below HR0_4.out HX.out.2.2.1); (case side2 => exact HC0_4.out); rintro e W_ ⟨rfl, hb⟩; refine ⟨_, rfl, ?_⟩; have hx_ := HX.out.below (W1 := W_) ⟨hb.os, hb.tape, hb.output, hb.size, hb.block⟩; clear HX hb z0 z1 z2 z3 z4 z5 z6 z7 z8 z9 z10 z11; have HX := Aside0.mk hx_; clear hx_; obtain ⟨z0, z1, z2, z3, z4, z5, z6, z7, z8, z9, z10, z11⟩ := HX.out.all))
  go_ret
  exact ⟨sqE', by (with_reducible repeat (first | apply pw_below_drewN | apply below_drew1)); exact HX.out.2.2.1⟩
 rw [if_neg c164] at H
 have c164b0 := beq_eq_false_iff_ne.mpr c164
 have c164b1 := bne_iff_ne.mpr c164
 by_cases c182 : a0_0 = 12
 ·rw [if_pos c182] at H
  have c182b0 := beq_iff_eq.mpr c182
  have c182b1 := bne_eq_false_iff_eq.mpr c182
  clear c182
  obtain ⟨t175, A183, H⟩ := sqO H
  try dsimp only at H
  by_cases c184 : t175 = true
  ·subst c184
   rw [if_pos rfl] at H
   obtain ⟨t176, A185, H⟩ := sqO H
   try dsimp only at H
   obtain rfl := Option.some.inj H
   go_wp2_with (first | ((with_reducible refine gate_flag rfl ?_); refine flag_event (s' := #[.bool true, .bool true, .bool false, .bool true]) 2 rfl rfl rfl HX.out rfl (by decide) (by kernel_rfl) ?_; intro W_ hx_; clear HX z0 z1 z2 z3 z4 z5 z6 z7 z8 z9 z10 z11; have HX := Aside0.mk hx_; clear hx_; obtain ⟨z0, z1, z2, z3, z4, z5, z6, z7, z8, z9, z10, z11⟩ := HX.out.all) | ((with_reducible refine gate_callee (f := 72) rfl ?_); refine goesL_ (some 105) rfl rfl Tryz.func72 (by kernel_rfl) rfl #[.agg #[.bool true, .bool true, .bool false, .bool true], .agg #[.int .i64 a0_0, .int .i64 a0_1, .int .i64 a0_2, .int .i64 a0_3, .slice A0_4 l0_4.length c0_4, .string a0_5, .string a0_6, .float .f64 a0_7]] rfl sqA ?_; (with_reducible refine (table_spare_nothing.calls true true false true a0_0 a0_1 a0_2 a0_3 _ _ l0_4 a0_5 a0_6 a0_7 true _ ?side1 ?side2 A183.out).mono ?_); (case side1 => (with_reducible repeat (first | refine Kd.C_drewN ?_ _ | refine Kd.C_drew ?_)); exact Kd.C_below HR0_4.out HX.out.2.2.1); (case side2 => exact HC0_4.out); rintro e W_ ⟨rfl, hb⟩; refine ⟨_, rfl, ?_⟩; have hx_ := HX.out.below (W1 := W_) ⟨hb.os, hb.tape, hb.output, hb.size, hb.block⟩; clear HX hb z0 z1 z2 z3 z4 z5 z6 z7 z8 z9 z10 z11; have HX := Aside0.mk hx_; clear hx_; obtain ⟨z0, z1, z2, z3, z4, z5, z6, z7, z8, z9, z10, z11⟩ := HX.out.all) | (go_at_call 77; (with_reducible refine (scan_Name.calls k a0_5 t176 _ A185.out).mono ?_); rintro e w' ⟨rfl, ⟨nd, rfl⟩⟩))
   go_ret
   exact ⟨sqE', by (with_reducible repeat (first | apply pw_below_drewN | apply below_drew1)); exact HX.out.2.2.1⟩
  replace c184 := Bool.eq_false_iff.mpr c184
  subst c184
  rw [if_neg (show ¬ (false = true) by decide)] at H
  obtain rfl := Option.some.inj H
  go_wp2_with (first | ((with_reducible refine gate_flag rfl ?_); refine flag_event (s' := #[.bool true, .bool true, .bool false, .bool true]) 2 rfl rfl rfl HX.out rfl (by decide) (by kernel_rfl) ?_; intro W_ hx_; clear HX z0 z1 z2 z3 z4 z5 z6 z7 z8 z9 z10 z11; have HX := Aside0.mk hx_; clear hx_; obtain ⟨z0, z1, z2, z3, z4, z5, z6, z7, z8, z9, z10, z11⟩ := HX.out.all) | ((with_reducible refine gate_callee (f := 72) rfl ?_); refine goesL_ (some 105) rfl rfl Tryz.func72 (by kernel_rfl) rfl #[.agg #[.bool true, .bool true, .bool false, .bool true], .agg #[.int .i64 a0_0, .int .i64 a0_1, .int .i64 a0_2, .int .i64 a0_3, .slice A0_4 l0_4.length c0_4, .string a0_5, .string a0_6, .float .f64 a0_7]] rfl sqA ?_; (with_reducible refine (table_spare_nothing.calls true true false true a0_0 a0_1 a0_2 a0_3 _ _ l0_4 a0_5 a0_6 a0_7 false _ ?side1 ?side2 A183.out).mono ?_); (case side1 => (with_reducible repeat (first | refine Kd.C_drewN ?_ _ | refine Kd.C_drew ?_)); exact Kd.C_below HR0_4.out HX.out.2.2.1); (case side2 => exact HC0_4.out); rintro e W_ ⟨rfl, hb⟩; refine ⟨_, rfl, ?_⟩; have hx_ := HX.out.below (W1 := W_) ⟨hb.os, hb.tape, hb.output, hb.size, hb.block⟩; clear HX hb z0 z1 z2 z3 z4 z5 z6 z7 z8 z9 z10 z11; have HX := Aside0.mk hx_; clear hx_; obtain ⟨z0, z1, z2, z3, z4, z5, z6, z7, z8, z9, z10, z11⟩ := HX.out.all))
  go_ret
  exact ⟨sqE', by (with_reducible repeat (first | apply pw_below_drewN | apply below_drew1)); exact HX.out.2.2.1⟩
 rw [if_neg c182] at H
 have c182b0 := beq_eq_false_iff_ne.mpr c182
 have c182b1 := bne_iff_ne.mpr c182
 by_cases c199 : a0_0 = 13
 ·rw [if_pos c199] at H
  have c199b0 := beq_iff_eq.mpr c199
  have c199b1 := bne_eq_false_iff_eq.mpr c199
  clear c199
  obtain ⟨t177, A200, H⟩ := sqO H
  try dsimp only at H
  by_cases c201 : t177 = true
  case neg =>
   replace c201 := Bool.eq_false_iff.mpr c201
   subst c201
   rw [if_neg (show ¬ (false = true) by decide)] at H
   obtain rfl := Option.some.inj H
   go_wp2_with (first | ((with_reducible refine gate_flag rfl ?_); refine flag_event (s' := #[.bool true, .bool false, .bool true, .bool true]) 1 rfl rfl rfl HX.out rfl (by decide) (by kernel_rfl) ?_; intro W_ hx_; clear HX z0 z1 z2 z3 z4 z5 z6 z7 z8 z9 z10 z11; have HX := Aside0.mk hx_; clear hx_; obtain ⟨z0, z1, z2, z3, z4, z5, z6, z7, z8, z9, z10, z11⟩ := HX.out.all) | ((with_reducible refine gate_callee (f := 72) rfl ?_); refine goesL_ (some 116) rfl rfl Tryz.func72 (by kernel_rfl) rfl #[.agg #[.bool true, .bool false, .bool true, .bool true], .agg #[.int .i64 a0_0, .int .i64 a0_1, .int .i64 a0_2, .int .i64 a0_3, .slice A0_4 l0_4.length c0_4, .string a0_5, .string a0_6, .float .f64 a0_7]] rfl sqA ?_; (with_reducible refine (table_spare_nothing.calls true false true true a0_0 a0_1 a0_2 a0_3 _ _ l0_4 a0_5 a0_6 a0_7 false _ ?side1 ?side2 A200.out).mono ?_); (case side1 => (with_reducible repeat (first | refine Kd.C_drewN ?_ _ | refine Kd.C_drew ?_)); exact Kd.C_below HR0_4.out HX.out.2.2.1); (case side2 => exact HC0_4.out); rintro e W_ ⟨rfl, hb⟩; refine ⟨_, rfl, ?_⟩; have hx_ := HX.out.below (W1 := W_) ⟨hb.os, hb.tape, hb.output, hb.size, hb.block⟩; clear HX hb z0 z1 z2 z3 z4 z5 z6 z7 z8 z9 z10 z11; have HX := Aside0.mk hx_; clear hx_; obtain ⟨z0, z1, z2, z3, z4, z5, z6, z7, z8, z9, z10, z11⟩ := HX.out.all))
   go_ret
   exact ⟨sqE', by (with_reducible repeat (first | apply pw_below_drewN | apply below_drew1)); exact HX.out.2.2.1⟩
  subst c201
  rw [if_pos rfl] at H
  obtain ⟨t178, A202, H⟩ := sqO H
  try dsimp only at H
  by_cases c203 : t178 = true
  ·subst c203
   rw [if_pos rfl] at H
   obtain ⟨t179, A204, H⟩ := sqO H
   try dsimp only at H
   obtain rfl := Option.some.inj H
   go_wp2_with (first | ((with_reducible refine gate_flag rfl ?_); refine flag_event (s' := #[.bool true, .bool false, .bool true, .bool true]) 1 rfl rfl rfl HX.out rfl (by decide) (by kernel_rfl) ?_; intro W_ hx_; clear HX z0 z1 z2 z3 z4 z5 z6 z7 z8 z9 z10 z11; have HX := Aside0.mk hx_; clear hx_; obtain ⟨z0, z1, z2, z3, z4, z5, z6, z7, z8, z9, z10, z11⟩ := HX.out.all) | ((with_reducible refine gate_callee (f := 72) rfl ?_); refine goesL_ (some 116) rfl rfl Tryz.func72 (by kernel_rfl) rfl #[.agg #[.bool true, .bool false, .bool true, .bool true], .agg #[.int .i64 a0_0, .int .i64 a0_1, .int .i64 a0_2, .int .i64 a0_3, .slice A0_4 l0_4.length c0_4, .string a0_5, .string a0_6, .float .f64 a0_7]] rfl sqA ?_; (with_reducible refine (table_spare_nothing.calls true false true true a0_0 a0_1 a0_2 a0_3 _ _ l0_4 a0_5 a0_6 a0_7 true _ ?side1 ?side2 A200.out).mono ?_); (case side1 => (with_reducible repeat (first | refine Kd.C_drewN ?_ _ | refine Kd.C_drew ?_)); exact Kd.C_below HR0_4.out HX.out.2.2.1); (case side2 => exact HC0_4.out); rintro e W_ ⟨rfl, hb⟩; refine ⟨_, rfl, ?_⟩; have hx_ := HX.out.below (W1 := W_) ⟨hb.os, hb.tape, hb.output, hb.size, hb.block⟩; clear HX hb z0 z1 z2 z3 z4 z5 z6 z7 z8 z9 z10 z11; have HX := Aside0.mk hx_; clear hx_; obtain ⟨z0, z1, z2, z3, z4, z5, z6, z7, z8, z9, z10, z11⟩ := HX.out.all) | (go_at_call 75; (with_reducible refine (table_one.calls a0_0 a0_1 a0_2 a0_3 _ _ l0_4 a0_5 a0_6 a0_7 true _ ?side1 ?side2 A202.out).mono ?_); (case side1 => (with_reducible repeat (first | refine Kd.C_drewN ?_ _ | refine Kd.C_drew ?_)); exact Kd.C_below HR0_4.out HX.out.2.2.1); (case side2 => exact HC0_4.out); rintro e W_ ⟨rfl, hb⟩; have hx_ := HX.out.below (W1 := W_) ⟨hb.os, hb.tape, hb.output, hb.size, hb.block⟩; clear HX hb z0 z1 z2 z3 z4 z5 z6 z7 z8 z9 z10 z11; have HX := Aside0.mk hx_; clear hx_; obtain ⟨z0, z1, z2, z3, z4, z5, z6, z7, z8, z9, z10, z11⟩ := HX.out.all) | (go_at_call 73; (with_reducible refine (table_sound.calls k a0_0 a0_1 a0_2 a0_3 _ _ l0_4 a0_5 a0_6 a0_7 1 24 t179 _ ?side1 ?side2 A204.out).mono ?_); (case side1 => (with_reducible repeat (first | refine Kd.C_drewN ?_ _ | refine Kd.C_drew ?_)); exact Kd.C_below HR0_4.out HX.out.2.2.1); (case side2 => exact HC0_4.out); rintro e W_ ⟨rfl, hb⟩; have hx_ := HX.out.below (W1 := W_) ⟨hb.os, hb.tape, hb.output, hb.size, hb.block⟩; clear HX hb z0 z1 z2 z3 z4 z5 z6 z7 z8 z9 z10 z11; have HX := Aside0.mk hx_; clear hx_; obtain ⟨z0, z1, z2, z3, z4, z5, z6, z7, z8, z9, z10, z11⟩ := HX.out.all))
   go_ret
   exact ⟨sqE', by (with_reducible repeat (first | apply pw_below_drewN | apply below_drew1)); exact HX.out.2.2.1⟩
  replace c203 := Bool.eq_false_iff.mpr c203
  subst c203
  rw [if_neg (show ¬ (false = true) by decide)] at H
  obtain rfl := Option.some.inj H
  go_wp2_with (first | ((with_reducible refine gate_flag rfl ?_); refine flag_event (s' := #[.bool true, .bool false, .bool true, .bool true]) 1 rfl rfl rfl HX.out rfl (by decide) (by kernel_rfl) ?_; intro W_ hx_; clear HX z0 z1 z2 z3 z4 z5 z6 z7 z8 z9 z10 z11; have HX := Aside0.mk hx_; clear hx_; obtain ⟨z0, z1, z2, z3, z4, z5, z6, z7, z8, z9, z10, z11⟩ := HX.out.all) | ((with_reducible refine gate_callee (f := 72) rfl ?_); refine goesL_ (some 116) rfl rfl Tryz.func72 (by kernel_rfl) rfl #[.agg #[.bool true, .bool false, .bool true, .bool true], .agg #[.int .i64 a0_0, .int .i64 a0_1, .int .i64 a0_2, .int .i64 a0_3, .slice A0_4 l0_4.length c0_4, .string a0_5, .string a0_6, .float .f64 a0_7]] rfl sqA ?_; (with_reducible refine (table_spare_nothing.calls true false true true a0_0 a0_1 a0_2 a0_3 _ _ l0_4 a0_5 a0_6 a0_7 true _ ?side1 ?side2 A200.out).mono ?_); (case side1 => (with_reducible repeat (first | refine Kd.C_drewN ?_ _ | refine Kd.C_drew ?_)); exact Kd.C_below HR0_4.out HX.out.2.2.1); (case side2 => exact HC0_4.out); rintro e W_ ⟨rfl, hb⟩; refine ⟨_, rfl, ?_⟩; have hx_ := HX.out.below (W1 := W_) ⟨hb.os, hb.tape, hb.output, hb.size, hb.block⟩; clear HX hb z0 z1 z2 z3 z4 z5 z6 z7 z8 z9 z10 z11; have HX := Aside0.mk hx_; clear hx_; obtain ⟨z0, z1, z2, z3, z4, z5, z6, z7, z8, z9, z10, z11⟩ := HX.out.all) | (go_at_call 75; (with_reducible refine (table_one.calls a0_0 a0_1 a0_2 a0_3 _ _ l0_4 a0_5 a0_6 a0_7 false _ ?side1 ?side2 A202.out).mono ?_); (case side1 => (with_reducible repeat (first | refine Kd.C_drewN ?_ _ | refine Kd.C_drew ?_)); exact Kd.C_below HR0_4.out HX.out.2.2.1); (case side2 => exact HC0_4.out); rintro e W_ ⟨rfl, hb⟩; have hx_ := HX.out.below (W1 := W_) ⟨hb.os, hb.tape, hb.output, hb.size, hb.block⟩; clear HX hb z0 z1 z2 z3 z4 z5 z6 z7 z8 z9 z10 z11; have HX := Aside0.mk hx_; clear hx_; obtain ⟨z0, z1, z2, z3, z4, z5, z6, z7, z8, z9, z10, z11⟩ := HX.out.all))
  go_ret
  exact ⟨sqE', by (with_reducible repeat (first | apply pw_below_drewN | apply below_drew1)); exact HX.out.2.2.1⟩
 rw [if_neg c199] at H
 have c199b0 := beq_eq_false_iff_ne.mpr c199
 have c199b1 := bne_iff_ne.mpr c199
 by_cases c229 : a0_0 = 14
 ·rw [if_pos c229] at H
  have c229b0 := beq_iff_eq.mpr c229
  have c229b1 := bne_eq_false_iff_eq.mpr c229
  clear c229
  obtain ⟨t180, A230, H⟩ := sqO H
  try dsimp only at H
  by_cases c231 : t180 = true
  ·subst c231
   rw [if_pos rfl] at H
   obtain ⟨t181, A232, H⟩ := sqO H
   try dsimp only at H
   obtain rfl := Option.some.inj H
   go_wp2_with (first | ((with_reducible refine gate_flag rfl ?_); refine flag_event (s' := #[.bool true, .bool true, .bool true, .bool false]) 3 rfl rfl rfl HX.out rfl (by decide) (by kernel_rfl) ?_; intro W_ hx_; clear HX z0 z1 z2 z3 z4 z5 z6 z7 z8 z9 z10 z11; have HX := Aside0.mk hx_; clear hx_; obtain ⟨z0, z1, z2, z3, z4, z5, z6, z7, z8, z9, z10, z11⟩ := HX.out.all) | ((with_reducible refine gate_callee (f := 72) rfl ?_); refine goesL_ (some 130) rfl rfl Tryz.func72 (by kernel_rfl) rfl #[.agg #[.bool true, .bool true, .bool true, .bool false], .agg #[.int .i64 a0_0, .int .i64 a0_1, .int .i64 a0_2, .int .i64 a0_3, .slice A0_4 l0_4.length c0_4, .string a0_5, .string a0_6, .float .f64 a0_7]] rfl sqA ?_; (with_reducible refine (table_spare_nothing.calls true true true false a0_0 a0_1 a0_2 a0_3 _ _ l0_4 a0_5 a0_6 a0_7 true _ ?side1 ?side2 A230.out).mono ?_); (case side1 => (with_reducible repeat (first | refine Kd.C_drewN ?_ _ | refine Kd.C_drew ?_)); exact Kd.C_below HR0_4.out HX.out.2.2.1); (case side2 => exact HC0_4.out); rintro e W_ ⟨rfl, hb⟩; refine ⟨_, rfl, ?_⟩; have hx_ := HX.out.below (W1 := W_) ⟨hb.os, hb.tape, hb.output, hb.size, hb.block⟩; clear HX hb z0 z1 z2 z3 z4 z5 z6 z7 z8 z9 z10 z11; have HX := Aside0.mk hx_; clear hx_; obtain ⟨z0, z1, z2, z3, z4, z5, z6, z7, z8, z9, z10, z11⟩ := HX.out.all) | (go_at_call 78; (with_reducible refine (table_weighs.calls a0_0 a0_1 a0_2 a0_3 _ _ l0_4 a0_5 a0_6 a0_7 t181 _ ?side1 ?side2 A232.out).mono ?_); (case side1 => (with_reducible repeat (first | refine Kd.C_drewN ?_ _ | refine Kd.C_drew ?_)); exact Kd.C_below HR0_4.out HX.out.2.2.1); (case side2 => exact HC0_4.out); rintro e W_ ⟨rfl, hb⟩; have hx_ := HX.out.below (W1 := W_) ⟨hb.os, hb.tape, hb.output, hb.size, hb.block⟩; clear HX hb z0 z1 z2 z3 z4 z5 z6 z7 z8 z9 z10 z11; have HX := Aside0.mk hx_; clear hx_; obtain ⟨z0, z1, z2, z3, z4, z5, z6, z7, z8, z9, z10, z11⟩ := HX.out.all))
   go_ret
   exact ⟨sqE', by (with_reducible repeat (first | apply pw_below_drewN | apply below_drew1)); exact HX.out.2.2.1⟩
  replace c231 := Bool.eq_false_iff.mpr c231
  subst c231
  rw [if_neg (show ¬ (false = true) by decide)] at H
  obtain rfl := Option.some.inj H
  go_wp2_with (first | ((with_reducible refine gate_flag rfl ?_); refine flag_event (s' := #[.bool true, .bool true, .bool true, .bool false]) 3 rfl rfl rfl HX.out rfl (by decide) (by kernel_rfl) ?_; intro W_ hx_; clear HX z0 z1 z2 z3 z4 z5 z6 z7 z8 z9 z10 z11; have HX := Aside0.mk hx_; clear hx_; obtain ⟨z0, z1, z2, z3, z4, z5, z6, z7, z8, z9, z10, z11⟩ := HX.out.all) | ((with_reducible refine gate_callee (f := 72) rfl ?_); refine goesL_ (some 130) rfl rfl Tryz.func72 (by kernel_rfl) rfl #[.agg #[.bool true, .bool true, .bool true, .bool false], .agg #[.int .i64 a0_0, .int .i64 a0_1, .int .i64 a0_2, .int .i64 a0_3, .slice A0_4 l0_4.length c0_4, .string a0_5, .string a0_6, .float .f64 a0_7]] rfl sqA ?_; (with_reducible refine (table_spare_nothing.calls true true true false a0_0 a0_1 a0_2 a0_3 _ _ l0_4 a0_5 a0_6 a0_7 false _ ?side1 ?side2 A230.out).mono ?_); (case side1 => (with_reducible repeat (first | refine Kd.C_drewN ?_ _ | refine Kd.C_drew ?_)); exact Kd.C_below HR0_4.out HX.out.2.2.1); (case side2 => exact HC0_4.out); rintro e W_ ⟨rfl, hb⟩; refine ⟨_, rfl, ?_⟩; have hx_ := HX.out.below (W1 := W_) ⟨hb.os, hb.tape, hb.output, hb.size, hb.block⟩; clear HX hb z0 z1 z2 z3 z4 z5 z6 z7 z8 z9 z10 z11; have HX := Aside0.mk hx_; clear hx_; obtain ⟨z0, z1, z2, z3, z4, z5, z6, z7, z8, z9, z10, z11⟩ := HX.out.all))
  go_ret
  exact ⟨sqE', by (with_reducible repeat (first | apply pw_below_drewN | apply below_drew1)); exact HX.out.2.2.1⟩
 rw [if_neg c229] at H
 have c229b0 := beq_eq_false_iff_ne.mpr c229
 have c229b1 := bne_iff_ne.mpr c229
 by_cases c247 : a0_0 = 15
 case neg =>
  rw [if_neg c247] at H
  have c247b0 := beq_eq_false_iff_ne.mpr c247
  have c247b1 := bne_iff_ne.mpr c247
  obtain ⟨t186, A291, H⟩ := sqO H
  try dsimp only at H
  obtain rfl := Option.some.inj H
  go_wp2_with (first | ((with_reducible refine gate_callee (f := 72) rfl ?_); refine goesL_ (some 165) rfl rfl Tryz.func72 (by kernel_rfl) rfl #[.agg #[.bool true, .bool true, .bool true, .bool true], .agg #[.int .i64 a0_0, .int .i64 a0_1, .int .i64 a0_2, .int .i64 a0_3, .slice A0_4 l0_4.length c0_4, .string a0_5, .string a0_6, .float .f64 a0_7]] rfl sqA ?_; (with_reducible refine (table_spare_nothing.calls true true true true a0_0 a0_1 a0_2 a0_3 _ _ l0_4 a0_5 a0_6 a0_7 t186 _ ?side1 ?side2 A291.out).mono ?_); (case side1 => (with_reducible repeat (first | refine Kd.C_drewN ?_ _ | refine Kd.C_drew ?_)); exact Kd.C_below HR0_4.out HX.out.2.2.1); (case side2 => exact HC0_4.out); rintro e W_ ⟨rfl, hb⟩; refine ⟨_, rfl, ?_⟩; have hx_ := HX.out.below (W1 := W_) ⟨hb.os, hb.tape, hb.output, hb.size, hb.block⟩; clear HX hb z0 z1 z2 z3 z4 z5 z6 z7 z8 z9 z10 z11; have HX := Aside0.mk hx_; clear hx_; obtain ⟨z0, z1, z2, z3, z4, z5, z6, z7, z8, z9, z10, z11⟩ := HX.out.all))
  go_ret
  exact ⟨sqE', by (with_reducible repeat (first | apply pw_below_drewN | apply below_drew1)); exact HX.out.2.2.1⟩
 rw [if_pos c247] at H
 have c247b0 := beq_iff_eq.mpr c247
 have c247b1 := bne_eq_false_iff_eq.mpr c247
 clear c247
 obtain ⟨t182, A248, H⟩ := sqO H
 try dsimp only at H
 by_cases c249 : t182 = true
 case neg =>
  replace c249 := Bool.eq_false_iff.mpr c249
  subst c249
  rw [if_neg (show ¬ (false = true) by decide)] at H
  obtain rfl := Option.some.inj H
  go_wp2_with (first | ((with_reducible refine gate_flag rfl ?_); refine flag_event (s' := #[.bool true, .bool true, .bool false, .bool true]) 2 rfl rfl rfl HX.out rfl (by decide) (by kernel_rfl) ?_; intro W_ hx_; clear HX z0 z1 z2 z3 z4 z5 z6 z7 z8 z9 z10 z11; have HX := Aside0.mk hx_; clear hx_; obtain ⟨z0, z1, z2, z3, z4, z5, z6, z7, z8, z9, z10, z11⟩ := HX.out.all) | ((with_reducible refine gate_flag rfl ?_); refine flag_event (s' := #[.bool true, .bool true, .bool false, .bool false]) 3 rfl rfl rfl HX.out rfl (by decide) (by kernel_rfl) ?_; intro W_ hx_; clear HX z0 z1 z2 z3 z4 z5 z6 z7 z8 z9 z10 z11; have HX := Aside0.mk hx_; clear hx_; obtain ⟨z0, z1, z2, z3, z4, z5, z6, z7, z8, z9, z10, z11⟩ := HX.out.all) | ((with_reducible refine gate_callee (f := 72) rfl ?_); refine goesL_ (some 141) rfl rfl Tryz.func72 (by kernel_rfl) rfl #[.agg #[.bool true, .bool true, .bool false, .bool false], .agg #[.int .i64 a0_0, .int .i64 a0_1, .int .i64 a0_2, .int .i64 a0_3, .slice A0_4 l0_4.length c0_4, .string a0_5, .string a0_6, .float .f64 a0_7]] rfl sqA ?_; (with_reducible refine (table_spare_nothing.calls true true false false a0_0 a0_1 a0_2 a0_3 _ _ l0_4 a0_5 a0_6 a0_7 false _ ?side1 ?side2 A248.out).mono ?_); (case side1 => (with_reducible repeat (first | refine Kd.C_drewN ?_ _ | refine Kd.C_drew ?_)); exact Kd.C_below HR0_4.out HX.out.2.2.1); (case side2 => exact HC0_4.out); rintro e W_ ⟨rfl, hb⟩; refine ⟨_, rfl, ?_⟩; have hx_ := HX.out.below (W1 := W_) ⟨hb.os, hb.tape, hb.output, hb.size, hb.block⟩; clear HX hb z0 z1 z2 z3 z4 z5 z6 z7 z8 z9 z10 z11; have HX := Aside0.mk hx_; clear hx_; obtain ⟨z0, z1, z2, z3, z4, z5, z6, z7, z8, z9, z10, z11⟩ := HX.out.all))
  go_ret
  exact ⟨sqE', by (with_reducible repeat (first | apply pw_below_drewN | apply below_drew1)); exact HX.out.2.2.1⟩
 subst c249
 rw [if_pos rfl] at H
 obtain ⟨t183, A250, H⟩ := sqO H
 try dsimp only at H
 by_cases c251 : t183 = true
 case neg =>
  replace c251 := Bool.eq_false_iff.mpr c251
  subst c251
  rw [if_neg (show ¬ (false = true) by decide)] at H
  obtain rfl := Option.some.inj H
  go_wp2_with (first | ((with_reducible refine gate_flag rfl ?_); refine flag_event (s' := #[.bool true, .bool true, .bool false, .bool true]) 2 rfl rfl rfl HX.out rfl (by decide) (by kernel_rfl) ?_; intro W_ hx_; clear HX z0 z1 z2 z3 z4 z5 z6 z7 z8 z9 z10 z11; have HX := Aside0.mk hx_; clear hx_; obtain ⟨z0, z1, z2, z3, z4, z5, z6, z7, z8, z9, z10, z11⟩ := HX.out.all) | ((with_reducible refine gate_flag rfl ?_); refine flag_event (s' := #[.bool true, .bool true, .bool false, .bool false]) 3 rfl rfl rfl HX.out rfl (by decide) (by kernel_rfl) ?_; intro W_ hx_; clear HX z0 z1 z2 z3 z4 z5 z6 z7 z8 z9 z10 z11; have HX := Aside0.mk hx_; clear hx_; obtain ⟨z0, z1, z2, z3, z4, z5, z6, z7, z8, z9, z10, z11⟩ := HX.out.all) | ((with_reducible refine gate_callee (f := 72) rfl ?_); refine goesL_ (some 141) rfl rfl Tryz.func72 (by kernel_rfl) rfl #[.agg #[.bool true, .bool true, .bool false, .bool false], .agg #[.int .i64 a0_0, .int .i64 a0_1, .int .i64 a0_2, .int .i64 a0_3, .slice A0_4 l0_4.length c0_4, .string a0_5, .string a0_6, .float .f64 a0_7]] rfl sqA ?_; (with_reducible refine (table_spare_nothing.calls true true false false a0_0 a0_1 a0_2 a0_3 _ _ l0_4 a0_5 a0_6 a0_7 true _ ?side1 ?side2 A248.out).mono ?_); (case side1 => (with_reducible repeat (first | refine Kd.C_drewN ?_ _ | refine Kd.C_drew ?_)); exact Kd.C_below HR0_4.out HX.out.2.2.1); (case side2 => exact HC0_4.out); rintro e W_ ⟨rfl, hb⟩; refine ⟨_, rfl, ?_⟩; have hx_ := HX.out.below (W1 := W_) ⟨hb.os, hb.tape, hb.output, hb.size, hb.block⟩; clear HX hb z0 z1 z2 z3 z4 z5 z6 z7 z8 z9 z10 z11; have HX := Aside0.mk hx_; clear hx_; obtain ⟨z0, z1, z2, z3, z4, z5, z6, z7, z8, z9, z10, z11⟩ := HX.out.all) | (go_at_call 77; (with_reducible refine (scan_Name.calls k a0_5 false _ A250.out).mono ?_); rintro e w' ⟨rfl, ⟨nd, rfl⟩⟩))
  go_ret
  exact ⟨sqE', by (with_reducible repeat (first | apply pw_below_drewN | apply below_drew1)); exact HX.out.2.2.1⟩
 subst c251
 rw [if_pos rfl] at H
 obtain ⟨t184, A252, H⟩ := sqO H
 try dsimp only at H
 by_cases c253 : t184 = true
 case neg =>
  replace c253 := Bool.eq_false_iff.mpr c253
  subst c253
  rw [if_neg (show ¬ (false = true) by decide)] at H
  obtain rfl := Option.some.inj H
  go_wp2_with (first | ((with_reducible refine gate_flag rfl ?_); refine flag_event (s' := #[.bool true, .bool true, .bool false, .bool true]) 2 rfl rfl rfl HX.out rfl (by decide) (by kernel_rfl) ?_; intro W_ hx_; clear HX z0 z1 z2 z3 z4 z5 z6 z7 z8 z9 z10 z11; have HX := Aside0.mk hx_; clear hx_; obtain ⟨z0, z1, z2, z3, z4, z5, z6, z7, z8, z9, z10, z11⟩ := HX.out.all) | ((with_reducible refine gate_flag rfl ?_); refine flag_event (s' := #[.bool true, .bool true, .bool false, .bool false]) 3 rfl rfl rfl HX.out rfl (by decide) (by kernel_rfl) ?_; intro W_ hx_; clear HX z0 z1 z2 z3 z4 z5 z6 z7 z8 z9 z10 z11; have HX := Aside0.mk hx_; clear hx_; obtain ⟨z0, z1, z2, z3, z4, z5, z6, z7, z8, z9, z10, z11⟩ := HX.out.all) | ((with_reducible refine gate_callee (f := 72) rfl ?_); refine goesL_ (some 141) rfl rfl Tryz.func72 (by kernel_rfl) rfl #[.agg #[.bool true, .bool true, .bool false, .bool false], .agg #[.int .i64 a0_0, .int .i64 a0_1, .int .i64 a0_2, .int .i64 a0_3, .slice A0_4 l0_4.length c0_4, .string a0_5, .string a0_6, .float .f64 a0_7]] rfl sqA ?_; (with_reducible refine (table_spare_nothing.calls true true false false a0_0 a0_1 a0_2 a0_3 _ _ l0_4 a0_5 a0_6 a0_7 true _ ?side1 ?side2 A248.out).mono ?_); (case side1 => (with_reducible repeat (first | refine Kd.C_drewN ?_ _ | refine Kd.C_drew ?_)); exact Kd.C_below HR0_4.out HX.out.2.2.1); (case side2 => exact HC0_4.out); rintro e W_ ⟨rfl, hb⟩; refine ⟨_, rfl, ?_⟩; have hx_ := HX.out.below (W1 := W_) ⟨hb.os, hb.tape, hb.output, hb.size, hb.block⟩; clear HX hb z0 z1 z2 z3 z4 z5 z6 z7 z8 z9 z10 z11; have HX := Aside0.mk hx_; clear hx_; obtain ⟨z0, z1, z2, z3, z4, z5, z6, z7, z8, z9, z10, z11⟩ := HX.out.all) | (go_at_call 77; (with_reducible refine (scan_Name.calls k a0_5 true _ A250.out).mono ?_); rintro e w' ⟨rfl, ⟨nd, rfl⟩⟩) | (go_at_call 77; (with_reducible refine (scan_Name.calls k a0_6 false _ A252.out).mono ?_); rintro e w' ⟨rfl, ⟨nd, rfl⟩⟩))
  go_ret
  exact ⟨sqE', by (with_reducible repeat (first | apply pw_below_drewN | apply below_drew1)); exact HX.out.2.2.1⟩
 subst c253
 rw [if_pos rfl] at H
 by_cases c254 : a0_5.toList = a0_6.toList
 ·rw [if_pos c254] at H
  have c254b0 := beq_iff_eq.mpr c254
  have c254b1 := bne_eq_false_iff_eq.mpr c254
  clear c254
  obtain rfl := Option.some.inj H
  go_wp2_with (first | ((with_reducible refine gate_flag rfl ?_); refine flag_event (s' := #[.bool true, .bool true, .bool false, .bool true]) 2 rfl rfl rfl HX.out rfl (by decide) (by kernel_rfl) ?_; intro W_ hx_; clear HX z0 z1 z2 z3 z4 z5 z6 z7 z8 z9 z10 z11; have HX := Aside0.mk hx_; clear hx_; obtain ⟨z0, z1, z2, z3, z4, z5, z6, z7, z8, z9, z10, z11⟩ := HX.out.all) | ((with_reducible refine gate_flag rfl ?_); refine flag_event (s' := #[.bool true, .bool true, .bool false, .bool false]) 3 rfl rfl rfl HX.out rfl (by decide) (by kernel_rfl) ?_; intro W_ hx_; clear HX z0 z1 z2 z3 z4 z5 z6 z7 z8 z9 z10 z11; have HX := Aside0.mk hx_; clear hx_; obtain ⟨z0, z1, z2, z3, z4, z5, z6, z7, z8, z9, z10, z11⟩ := HX.out.all) | ((with_reducible refine gate_callee (f := 72) rfl ?_); refine goesL_ (some 141) rfl rfl Tryz.func72 (by kernel_rfl) rfl #[.agg #[.bool true, .bool true, .bool false, .bool false], .agg #[.int .i64 a0_0, .int .i64 a0_1, .int .i64 a0_2, .int .i64 a0_3, .slice A0_4 l0_4.length c0_4, .string a0_5, .string a0_6, .float .f64 a0_7]] rfl sqA ?_; (with_reducible refine (table_spare_nothing.calls true true false false a0_0 a0_1 a0_2 a0_3 _ _ l0_4 a0_5 a0_6 a0_7 true _ ?side1 ?side2 A248.out).mono ?_); (case side1 => (with_reducible repeat (first | refine Kd.C_drewN ?_ _ | refine Kd.C_drew ?_)); exact Kd.C_below HR0_4.out HX.out.2.2.1); (case side2 => exact HC0_4.out); rintro e W_ ⟨rfl, hb⟩; refine ⟨_, rfl, ?_⟩; have hx_ := HX.out.below (W1 := W_) ⟨hb.os, hb.tape, hb.output, hb.size, hb.block⟩; clear HX hb z0 z1 z2 z3 z4 z5 z6 z7 z8 z9 z10 z11; have HX := Aside0.mk hx_; clear hx_; obtain ⟨z0, z1, z2, z3, z4, z5, z6, z7, z8, z9, z10, z11⟩ := HX.out.all) | (go_at_call 77; (with_reducible refine (scan_Name.calls k a0_5 true _ A250.out).mono ?_); rintro e w' ⟨rfl, ⟨nd, rfl⟩⟩) | (go_at_call 77; (with_reducible refine (scan_Name.calls k a0_6 true _ A252.out).mono ?_); rintro e w' ⟨rfl, ⟨nd, rfl⟩⟩))
  go_ret
  exact ⟨sqE', by (with_reducible repeat (first | apply pw_below_drewN | apply below_drew1)); exact HX.out.2.2.1⟩
 rw [if_neg c254] at H
 have c254b0 := beq_eq_false_iff_ne.mpr c254
 have c254b1 := bne_iff_ne.mpr c254
 obtain ⟨t185, A262, H⟩ := sqO H
 try dsimp only at H
 obtain rfl := Option.some.inj H
 go_wp2_with (first | ((with_reducible refine gate_flag rfl ?_); refine flag_event (s' := #[.bool true, .bool true, .bool false, .bool true]) 2 rfl rfl rfl HX.out rfl (by decide) (by kernel_rfl) ?_; intro W_ hx_; clear HX z0 z1 z2 z3 z4 z5 z6 z7 z8 z9 z10 z11; have HX := Aside0.mk hx_; clear hx_; obtain ⟨z0, z1, z2, z3, z4, z5, z6, z7, z8, z9, z10, z11⟩ := HX.out.all) | ((with_reducible refine gate_flag rfl ?_); refine flag_event (s' := #[.bool true, .bool true, .bool false, .bool false]) 3 rfl rfl rfl HX.out rfl (by decide) (by kernel_rfl) ?_; intro W_ hx_; clear HX z0 z1 z2 z3 z4 z5 z6 z7 z8 z9 z10 z11; have HX := Aside0.mk hx_; clear hx_; obtain ⟨z0, z1, z2, z3, z4, z5, z6, z7, z8, z9, z10, z11⟩ := HX.out.all) | ((with_reducible refine gate_callee (f := 72) rfl ?_); refine goesL_ (some 141) rfl rfl Tryz.func72 (by kernel_rfl) rfl #[.agg #[.bool true, .bool true, .bool false, .bool false], .agg #[.int .i64 a0_0, .int .i64 a0_1, .int .i64 a0_2, .int .i64 a0_3, .slice A0_4 l0_4.length c0_4, .string a0_5, .string a0_6, .float .f64 a0_7]] rfl sqA ?_; (with_reducible refine (table_spare_nothing.calls true true false false a0_0 a0_1 a0_2 a0_3 _ _ l0_4 a0_5 a0_6 a0_7 true _ ?side1 ?side2 A248.out).mono ?_); (case side1 => (with_reducible repeat (first | refine Kd.C_drewN ?_ _ | refine Kd.C_drew ?_)); exact Kd.C_below HR0_4.out HX.out.2.2.1); (case side2 => exact HC0_4.out); rintro e W_ ⟨rfl, hb⟩; refine ⟨_, rfl, ?_⟩; have hx_ := HX.out.below (W1 := W_) ⟨hb.os, hb.tape, hb.output, hb.size, hb.block⟩; clear HX hb z0 z1 z2 z3 z4 z5 z6 z7 z8 z9 z10 z11; have HX := Aside0.mk hx_; clear hx_; obtain ⟨z0, z1, z2, z3, z4, z5, z6, z7, z8, z9, z10, z11⟩ := HX.out.all) | (go_at_call 77; (with_reducible refine (scan_Name.calls k a0_5 true _ A250.out).mono ?_); rintro e w' ⟨rfl, ⟨nd, rfl⟩⟩) | (go_at_call 77; (with_reducible refine (scan_Name.calls k a0_6 true _ A252.out).mono ?_); rintro e w' ⟨rfl, ⟨nd, rfl⟩⟩) | (go_at_call 78; (with_reducible refine (table_weighs.calls a0_0 a0_1 a0_2 a0_3 _ _ l0_4 a0_5 a0_6 a0_7 t185 _ ?side1 ?side2 A262.out).mono ?_); (case side1 => (with_reducible repeat (first | refine Kd.C_drewN ?_ _ | refine Kd.C_drew ?_)); exact Kd.C_below HR0_4.out HX.out.2.2.1); (case side2 => exact HC0_4.out); rintro e W_ ⟨rfl, hb⟩; have hx_ := HX.out.below (W1 := W_) ⟨hb.os, hb.tape, hb.output, hb.size, hb.block⟩; clear HX hb z0 z1 z2 z3 z4 z5 z6 z7 z8 z9 z10 z11; have HX := Aside0.mk hx_; clear hx_; obtain ⟨z0, z1, z2, z3, z4, z5, z6, z7, z8, z9, z10, z11⟩ := HX.out.all))
 go_ret
 exact ⟨sqE', by (with_reducible repeat (first | apply pw_below_drewN | apply below_drew1)); exact HX.out.2.2.1⟩
end Go.Proofs.YtnoppeocbfapdaaGreatDoor.T
