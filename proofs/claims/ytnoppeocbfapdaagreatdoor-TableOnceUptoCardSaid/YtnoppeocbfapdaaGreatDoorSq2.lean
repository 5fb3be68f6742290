import Derived.Test.YtnoppeocbfapdaaGreatDoorWAll
/-! Steps inside a region that draws its order, under short names. -/
namespace Go.Proofs.YtnoppeocbfapdaaGreatDoor.T
open Go.RowKit Go.Proofs.YtnoppeocbfapdaaGreatDoorW.PrintWords Go.Proofs.YtnoppeocbfapdaaGreatDoorW.PrintLast Go.Proofs.YtnoppeocbfapdaaGreatDoorW.PrintMore
/-- which operations have been taken -/
def bm (n m : Nat) : Array Bool := ((List.range n).map fun i => Nat.testBit m i).toArray
section
variable {P : Program} {md : Region.Mode} {ops : Array Oper} {Q : Exit → Act → World → Prop} {S : World → Prop} {ds : List Nat} {fuel : Nat} {l : Array Bool} {a : Act} {w : World}
theorem sqP (i : Nat) (N : Option Tmp) (l' : Array Bool) {oi : Oper} {v : Value} {a' : Act} (h : wpAnyLast P md ops Q S ds fuel l' a' w) (hi : ops[i]? = some oi := by rfl) (hN : oi.dst = N := by rfl) (hc : anyB md ops l l' i = true := by exact any_of HT_.out (by kernel_rfl))
    (hQ : ∀ c a w, Q (.panic c) (a.put oi.dst v) w → Q (.panic c) a w := by exact fun _ _ _ h => h) (hw : Region.wanted oi (yielded ops a.tmps) = true := by rfl) (hy : ∀ w, (execOp a.eval oi).run P w = .ok (.value v) w := by intro w'; go_simp; with_reducible rfl)
    (ha : a.put N v = a' := by simp only [Act.put, List.setIfInBounds_toArray, List.set_cons_zero, List.set_cons_succ, i64_w, i32_w]; rfl) : wpAnyLast P md ops Q S ds (fuel + 1) l a w := pure_ l' hi hN hc hQ (Or.inl ⟨hw, hy⟩) ha h
theorem sqT (i : Nat) (N : Option Tmp) (l' : Array Bool) {oi : Oper} {v : Value} {a' : Act} (h : wpAnyLast P md ops Q S ds fuel l' a' w) (hi : ops[i]? = some oi := by rfl) (hN : oi.dst = N := by rfl) (hc : takeB md ops ds l l' i = true := by exact take_ofW HT_.out HW_.out (by kernel_rfl))
    (hQ : ∀ c a w, Q (.panic c) (a.put oi.dst v) w → Q (.panic c) a w := by exact fun _ _ _ h => h) (hw : Region.wanted oi (yielded ops a.tmps) = true := by rfl) (hy : ∀ w, S w → (execOp a.eval oi).run P w = .ok (.value v) w := by intro w' hs_; (repeat (obtain ⟨_, hs_⟩ := hs_)); go_simp; with_reducible rfl) (hS : S w := by exact hHeld)
    (ha : a.put N v = a' := by simp only [Act.put, List.setIfInBounds_toArray, List.set_cons_zero, List.set_cons_succ, i64_w, i32_w]; rfl) : wpAnyLast P md ops Q S ds (fuel + 1) l a w := take_ l' hi hN hc hQ (Or.inl ⟨hw, hy⟩) hS ha h
theorem sqN (N : Tmp) {b a' : Act} {v : Value} (h : wpAnyLast P md ops Q S ds fuel l a' w) (h0 : a = b.put (some N) v := by rfl) (ha : b.put (some N) v = a' := by simp only [Act.put, List.setIfInBounds_toArray, List.set_cons_zero, List.set_cons_succ, i64_w, i32_w]; rfl) : wpAnyLast P md ops Q S ds fuel l a w := norm_ (h0.trans ha) h
theorem sqI (i : Nat) (N : Option Tmp) (l' : Array Bool) {oi : Oper} (h : ∀ K : Act → World → Prop, Shut (∀ a' w', S w' → (S w' → wpAnyLast P md ops Q S ds fuel l' a' w') → K a' w') → if Region.wanted oi (yielded ops a.tmps) = true then Oper.wp P oi a w K Q else K (a.put N undef) w)
    (hi : ops[i]? = some oi := by rfl) (hN : oi.dst = N := by rfl) (hc : readyB md ops l l' i = true := by exact one_of HT_.out (by kernel_rfl)) (hd : i ∉ ds := by decide) : wpAnyLast P md ops Q S ds (fuel + 1) l a w := one_ l' hi hN hc hd h
end
theorem setCells_blk {g : Nat} {e : TypeId} : ∀ (vs : List Value) (o : Nat) (cs : List Value) (w : World), w.heap[g]? = some (.cells cs.toArray e (0, 0)) → o + vs.length = cs.length → (w.setCells g o vs).heap[g]? = some (.cells (cs.take o ++ vs).toArray e (0, 0))
  | [], o, cs, w, h, hl => by
    rw [World.setCells, h, List.append_nil, List.take_of_length_le (by simp at hl; omega)]
  | v :: r, o, cs, w, h, hl => by
    rw [World.setCells, setCells_blk r (o + 1) (cs.set o v) _ (blk_put h o v (by simp)) (by simp at hl ⊢; omega)]
    have ho : o < cs.length := by simp at hl; omega
    have hlt : (List.take o cs).length = o := by rw [List.length_take]; omega
    have e : (List.take o cs ++ [cs[o]]).set o v = List.take o cs ++ [v] := by rw [List.set_append]; simp [hlt]
    rw [List.take_set, List.take_succ_eq_append_getElem ho, e, List.append_assoc]
    rfl
end Go.Proofs.YtnoppeocbfapdaaGreatDoor.T
