import Derived.Test.YtnoppeocbfapdaaGreatDoorWAll
/-! Steps inside a region that draws its order, under short names. -/
namespace Go.Proofs.YtnoppeocbfapdaaGreatDoor.T
open Go.RowKit Go.Proofs.YtnoppeocbfapdaaGreatDoorW.PrintWords Go.Proofs.YtnoppeocbfapdaaGreatDoorW.PrintLast Go.Proofs.YtnoppeocbfapdaaGreatDoorW.PrintMore
/-- which operations have been taken -/
def bm (n m : Nat) : Array Bool := ((List.range n).map fun i => Nat.testBit m i).toArray
section
variable {P : Program} {md : Region.Mode} {ops : Array Oper} {Q : Exit → Act → World → Prop} {S : World → Prop} {ds : List Nat} {fuel : Nat} {l : Array Bool} {a : Act} {w : World}
theorem sqP (i : Nat) (N : Option Tmp) (l' : Array Bool) {oi : Oper} {v : Value} {a' : Act} (h : wpAnyLast P md ops Q S ds fuel l' a' w) (hi : ops[i]? = some oi := by rfl) (hN : oi.dst = N := by rfl) (hc : anyB md ops l l' i = true := by exact any_of HT_.out (by kernel_rfl))
    (hQ : ∀ c a w, Q (.panic c) (a.put oi.dst v) w → Q (.panic c) a w := by exact fun _ _ _ h => h) (hw : Region.wanted oi (yielded ops a.tmps) = true := by rfl) (hy : ∀ w, (execOp a.eval oi).run P w = .ok (.value v) w := by intro w'; go_simp; with_reducible rfl)
    (ha : a.put N v = a' := by simp only [Act.put, List.setIfInBounds_toArray, List.set_cons_zero, List.set_cons_succ, i64_w, i32_w]; rfl) : wpAnyLast P md ops Q S ds (fuel + 1) l a w := pure_ l' hi hN hc hQ (Or.inl ⟨hw, hy⟩) ha h
theorem sqU (i : Nat) (N : Option Tmp) (l' : Array Bool) {oi : Oper} {a' : Act} (h : wpAnyLast P md ops Q S ds fuel l' a' w) (hi : ops[i]? = some oi := by rfl) (hN : oi.dst = N := by rfl) (hc : anyB md ops l l' i = true := by exact any_of HT_.out (by kernel_rfl))
    (hQ : ∀ c a w, Q (.panic c) (a.put oi.dst undef) w → Q (.panic c) a w := by exact fun _ _ _ h => h) (hw : Region.wanted oi (yielded ops a.tmps) = false := by rfl)
    (ha : a.put N undef = a' := by simp only [Act.put, List.setIfInBounds_toArray, List.set_cons_zero, List.set_cons_succ, i64_w, i32_w]; rfl) : wpAnyLast P md ops Q S ds (fuel + 1) l a w := pure_ l' hi hN hc hQ (Or.inr ⟨hw, rfl⟩) ha h
theorem sqT (i : Nat) (N : Option Tmp) (l' : Array Bool) {oi : Oper} {v : Value} {a' : Act} (h : wpAnyLast P md ops Q S ds fuel l' a' w) (hi : ops[i]? = some oi := by rfl) (hN : oi.dst = N := by rfl) (hc : takeB md ops ds l l' i = true := by exact take_ofW HT_.out HW_.out (by kernel_rfl))
    (hQ : ∀ c a w, Q (.panic c) (a.put oi.dst v) w → Q (.panic c) a w := by exact fun _ _ _ h => h) (hw : Region.wanted oi (yielded ops a.tmps) = true := by rfl) (hy : ∀ w, S w → (execOp a.eval oi).run P w = .ok (.value v) w := by intro w' hs_; (repeat (obtain ⟨_, hs_⟩ := hs_)); go_simp; with_reducible rfl) (hS : S w := by exact hHeld)
    (ha : a.put N v = a' := by simp only [Act.put, List.setIfInBounds_toArray, List.set_cons_zero, List.set_cons_succ, i64_w, i32_w]; rfl) : wpAnyLast P md ops Q S ds (fuel + 1) l a w := take_ l' hi hN hc hQ (Or.inl ⟨hw, hy⟩) hS ha h
theorem sqN (N : Tmp) {b a' : Act} {v : Value} (h : wpAnyLast P md ops Q S ds fuel l a' w) (h0 : a = b.put (some N) v := by rfl) (ha : b.put (some N) v = a' := by simp only [Act.put, List.setIfInBounds_toArray, List.set_cons_zero, List.set_cons_succ, i64_w, i32_w]; rfl) : wpAnyLast P md ops Q S ds fuel l a w := norm_ (h0.trans ha) h
theorem sqI (i : Nat) (N : Option Tmp) (l' : Array Bool) {oi : Oper} (h : ∀ K : Act → World → Prop, Shut (∀ a' w', S w' → (S w' → wpAnyLast P md ops Q S ds fuel l' a' w') → K a' w') → if Region.wanted oi (yielded ops a.tmps) = true then Oper.wp P oi a w K Q else K (a.put N undef) w)
    (hi : ops[i]? = some oi := by rfl) (hN : oi.dst = N := by rfl) (hc : readyB md ops l l' i = true := by exact one_of HT_.out (by kernel_rfl)) (hd : i ∉ ds := by decide) : wpAnyLast P md ops Q S ds (fuel + 1) l a w := one_ l' hi hN hc hd h
end
theorem sqG {w : World} {A : Addr} {u : Value} {g : Nat} {p : Prop} (h : w.cell? A = some u) (hg : w.heap.size ≤ g) (k : A.block ≠ g → p := by intro h0; first | exact h0 | (rw [add_block]; exact h0) | (rw [add_block] at h0; exact h0) | (show (Addr.add _ _).block ≠ _; rw [add_block]; exact h0) | (dsimp only; exact h0)) : p := k (Nat.ne_of_lt (Nat.lt_of_lt_of_le (World.block_lt_of_cell? _ _ h) hg))
theorem far8 {w : World} {q : Addr} {g i0 i1 i2 i3 i4 i5 i6 i7 : Nat} {u0 u1 u2 u3 u4 u5 u6 u7 : Value} (h : q.block ≠ g) :
    ((((((((w.setCell ⟨g, i0, none⟩ u0).setCell ⟨g, i1, none⟩ u1).setCell ⟨g, i2, none⟩ u2).setCell ⟨g, i3, none⟩ u3).setCell ⟨g, i4, none⟩ u4).setCell ⟨g, i5, none⟩ u5).setCell ⟨g, i6, none⟩ u6).setCell ⟨g, i7, none⟩ u7).cell? q = w.cell? q :=
  (((((((cell_far (p := ⟨g, i7, none⟩) h u7).trans (cell_far (p := ⟨g, i6, none⟩) h u6)).trans (cell_far (p := ⟨g, i5, none⟩) h u5)).trans (cell_far (p := ⟨g, i4, none⟩) h u4)).trans (cell_far (p := ⟨g, i3, none⟩) h u3)).trans (cell_far (p := ⟨g, i2, none⟩) h u2)).trans (cell_far (p := ⟨g, i1, none⟩) h u1)).trans (cell_far (p := ⟨g, i0, none⟩) h u0)
theorem cell_of {w W : World} {A : Addr} {u : Value} {g : Nat} (h : ∀ k, k ≠ g → W.heap[k]? = w.heap[k]?) (hA : A.block ≠ g) (hu : w.cell? A = some u) : W.cell? A = some u := by
  rw [← hu]
  obtain ⟨b, o, s⟩ := A
  unfold World.cell?
  rw [h b hA]
theorem setCells_blk {g : Nat} {e : TypeId} : ∀ (vs : List Value) (o : Nat) (cs : List Value) (w : World), w.heap[g]? = some (.cells cs.toArray e (0, 0)) → o + vs.length = cs.length → (w.setCells g o vs).heap[g]? = some (.cells (cs.take o ++ vs).toArray e (0, 0))
  | [], o, cs, w, h, hl => by
    rw [World.setCells, h, List.append_nil, List.take_of_length_le (by simp at hl; omega)]
  | v :: r, o, cs, w, h, hl => by
    rw [World.setCells, setCells_blk r (o + 1) (cs.set o v) _ (blk_put h o v (by simp)) (by simp at hl ⊢; omega)]
    have ho : o < cs.length := by simp at hl; omega
    have hlt : (List.take o cs).length = o := by rw [List.length_take]; omega
    have e : (List.take o cs ++ [cs[o]]).set o v = List.take o cs ++ [v] := by rw [List.set_append]; simp [hlt]
    rw [List.take_set, List.take_succ_eq_append_getElem ho, e, List.append_assoc]
    rfl
/-- A record stored into a block of its own: what stands behind it is shown in a world that is only told by its blocks. -/
theorem recStore {P : Program} {md : Region.Mode} {ops : Array Oper} {Q : Exit → Act → World → Prop} {S : World → Prop} {ds : List Nat} {fuel : Nat} {l : Array Bool} {a : Act} {w : World} (i : Nat) (l' : Array Bool) (t : TypeId) (p x : Operand) (g e : Nat) (cs seg : List Value) {oi : Oper}
    (hb : w.heap[g]? = some (.cells cs.toArray e (0, 0))) (hl : seg.length = cs.length) (ht : (P.info? t).map (·.size) = some seg.length) (h1 : ∀ q ∈ seg, q.oneCell' = true) (hS : ∀ W : World, (∀ k, k ≠ g → W.heap[k]? = w.heap[k]?) → S W)
    (h : ∀ W : World, W.heap[g]? = some (.cells seg.toArray e (0, 0)) → (∀ k, k ≠ g → W.heap[k]? = w.heap[k]?) → (∀ (B : Nat) (w0 : World), B ≤ g → Below B w0 w → Below B w0 W) → S W → wpAnyLast P md ops Q S ds fuel l' a W)
    (hi : ops[i]? = some oi := by rfl) (hN : oi.dst = none := by rfl) (ho : oi.op = .store t p x := by rfl) (hw : Region.wanted oi (yielded ops a.tmps) = true := by rfl) (hc : readyB md ops l l' i = true := by exact one_of HT_.out (by kernel_rfl)) (hd : i ∉ ds := by decide)
    (hp : a.eval p = .pointer (some ⟨g, 0, none⟩) := by rfl) (hx : (a.eval x).cells.toList = seg := by rfl) : wpAnyLast P md ops Q S ds (fuel + 1) l a w := by
  refine one_ l' hi hN hc hd (fun K hK => ?_)
  have hrun : (execOp a.eval oi).run P w = .ok .skip (w.setCells g 0 seg) := by
    have := run_store_run (P := P) (o := 0) t (a.eval x) seg hb hx ht (by simp; omega) h1
    unfold execOp
    simp only [ho, hp, Sem.run_bind, Sem.run_pure, Result.andThen_ok, this]
  have hf : ∀ k, k ≠ g → (w.setCells g 0 seg).heap[k]? = w.heap[k]? := fun k hk => setCells_far seg 0 k hk
  have hg := setCells_blk seg 0 cs w hb (by omega)
  rw [List.take_zero, List.nil_append] at hg
  obtain ⟨s1, s2, s3, s4⟩ := setCells_same g seg 0 w
  refine skip_ hw hN hrun (hK.out _ _ (hS _ hf) (fun hHeld => h _ hg hf (fun B w0 hBg hB => ?_) hHeld))
  exact ⟨s1.trans hB.os, s2.trans hB.tape, s3.trans hB.output, by rw [s4]; exact hB.size, fun k hk => (hf k (by omega)).trans (hB.block k hk)⟩
end Go.Proofs.YtnoppeocbfapdaaGreatDoor.T
