/- Some blocks are kept while others are written: of two rows of rows of one type one is written into, the other stays. Conditions: none beyond each theorem's own. -/
import Derived.Test.YtkgapabnokmkeaaWWords
import Derived.Test.YtkgapabnokmkeaaWMore
import Derived.Test.YtkgapabnokmkeaaWApart
import Derived.Test.YtkgapabnokmkeaaRoom
import Derived.Below
namespace Go.Proofs.Ytkgapabnokmkeaa.Rm
open Go.RowKit Go.Proofs.YtkgapabnokmkeaaW.PrintWords
set_option linter.unusedVariables false
structure Keep (KS : Nat → Prop) (w w1 : World) : Prop where
 lt : ∀ k, KS k → k < w.heap.size
 size : w.heap.size ≤ w1.heap.size
 block : ∀ k, KS k → w1.heap[k]? = w.heap[k]?
section
variable {KS : Nat → Prop} {w W W1 : World}
theorem Keep.below (h : Keep KS w W) (hb : Below W.heap.size W W1) : Keep KS w W1 :=
 ⟨h.lt, Nat.le_trans h.size hb.size, fun k hk => (hb.block k (Nat.lt_of_lt_of_le (h.lt k hk) h.size)).trans (h.block k hk)⟩
theorem Keep.alloc (h : Keep KS w W) (o : Obj) : Keep KS w (W.alloc o) := h.below (below_alloc (Below.refl _ _) o)
theorem Keep.drew (h : Keep KS w W) : Keep KS w W.drew := h.below (below_drew (Below.refl _ _))
theorem Keep.drewN (h : Keep KS w W) (m : Nat) : Keep KS w (W.drewN m) := h.below (pw_below_drewN (Below.refl _ _) m)
theorem Keep.grown (h : Keep KS w W) {row : Option Nat} (hg : W.grownBy W1 row) (hr : ∀ k, row = some k → ¬ KS k) : Keep KS w W1 :=
 ⟨h.lt, Nat.le_trans h.size hg.size, fun k hk => (hg.block k (Nat.lt_of_lt_of_le (h.lt k hk) h.size) (fun e => hr k e.symm hk)).trans (h.block k hk)⟩
theorem Keep.fresh (h : Keep KS w W) (k : Nat) (hk : W.heap.size ≤ k) : ¬ KS k := fun e => by
 have := h.lt k e
 have := h.size
 omega
theorem Room.keep {v : Value} {n : Nat} {ex : List Value} (h : Room w v n ex) (hK : Keep KS w W) (hv : ∀ k, v.ownBlock = some k → KS k) : Room W v n ex := by
 obtain ⟨g, c, e, hc, hx⟩ := h
 have hg := hK.block g (hv g (by rw [e]; rfl))
 refine ⟨g, c, e, hc, fun j u hu => ?_⟩
 have h1 := hx j u hu
 unfold World.cell? at h1 ⊢
 rw [hg]
 exact h1
end
def Ap (W : World) (base : Nat) (vi vl vw : Value) (l w : List (List Int)) : Prop :=
 ∃ N, N ≤ W.heap.size ∧ Kd.S (Kd.slice 21 (Kd.int .i32)) 22 W base (fun k => (some k ≠ vi.ownBlock ∧ some k ≠ vw.ownBlock) ∧ k < N) vl l ∧ Kd.S (Kd.slice 21 (Kd.int .i32)) 22 W base (fun k => (some k ≠ vi.ownBlock ∧ some k ≠ vl.ownBlock) ∧ N ≤ k) vw w ∧ ∀ k, vi.ownBlock = some k → k < N
section
variable {W W1 : World} {base : Nat} {vi vl vw : Value} {l w : List (List Int)}
theorem Ap.below (h : Ap W base vi vl vw l w) (hb : Below W.heap.size W W1) : Ap W1 base vi vl vw l w := by
 obtain ⟨N, h1, h2, h3, h4⟩ := h
 exact ⟨N, Nat.le_trans h1 hb.size, Kd.S_below h2 hb, Kd.S_below h3 hb, h4⟩
theorem Ap.alloc (h : Ap W base vi vl vw l w) (o : Obj) : Ap (W.alloc o) base vi vl vw l w := h.below (below_alloc (Below.refl _ _) o)
theorem Ap.drew (h : Ap W base vi vl vw l w) : Ap W.drew base vi vl vw l w := h.below (below_drew (Below.refl _ _))
theorem Ap.drewN (h : Ap W base vi vl vw l w) (m : Nat) : Ap (W.drewN m) base vi vl vw l w := h.below (pw_below_drewN (Below.refl _ _) m)
theorem Ap.made {ok : Nat → Prop} (hi : ∀ k, vi.ownBlock = some k → k < W.heap.size) (hl : Kd.S (Kd.slice 21 (Kd.int .i32)) 22 W base ok vl l) (hok : ∀ k, ok k → some k ≠ vi.ownBlock)
  (hw : Kd.S (Kd.slice 21 (Kd.int .i32)) 22 W1 W.heap.size (fun _ => True) vw w) (hb : Below W.heap.size W W1) (hbase : base ≤ W.heap.size) : Ap W1 base vi vl vw l w := by
 refine ⟨W.heap.size, hb.size, Kd.S_mono (Kd.S_old hl hb) fun k hk => ⟨⟨hok k hk.1, fun e => ?_⟩, hk.2⟩, Kd.S_lower (Kd.S_mono (Kd.S_bound hw) fun k hk => ⟨⟨fun e => ?_, fun e => ?_⟩, hk.2.1⟩) hbase, hi⟩
 ·have := Kd.S_base hw k e.symm
  have := hk.2
  omega
 ·have := hi k e.symm
  have := hk.2.1
  omega
 ·have := Kd.S_lt hl k e.symm
  have := hk.2.1
  omega
theorem Ap.keep (h : Ap W base vi vl vw l w) : ∃ KS : Nat → Prop, Keep KS W W ∧ (∀ k, vi.ownBlock = some k → KS k) ∧ (∀ k, vw.ownBlock = some k → KS k) ∧ Kd.S (Kd.slice 21 (Kd.int .i32)) 22 W base (fun k => ¬ KS k) vl l ∧ Kd.S (Kd.slice 21 (Kd.int .i32)) 22 W base (fun k => KS k ∧ (some k ≠ vi.ownBlock ∧ some k ≠ vl.ownBlock)) vw w := by
 obtain ⟨N, h1, h2, h3, h4⟩ := h
 refine ⟨fun k => vi.ownBlock = some k ∨ (N ≤ k ∧ k < W.heap.size), ⟨fun k hk => ?_, Nat.le_refl _, fun _ _ => rfl⟩, fun k hk => .inl hk, fun k hk => .inr ⟨?_, Kd.S_lt h3 k hk⟩, Kd.S_mono h2 fun k hk he => ?_, Kd.S_mono (Kd.S_bound h3) fun k hk => ⟨.inr ⟨hk.1.2, hk.2.2.1⟩, hk.1.1⟩⟩
 ·rcases hk with hk | hk
  ·have := h4 k hk
   omega
  ·exact hk.2
 ·exact ((Kd.S_R h3).1 k hk).2
 ·rcases he with he | he
  ·exact hk.1.1 he.symm
  ·have := hk.2
   omega
theorem keep_R {KS : Nat → Prop} {v : Value} {xs : List Int} (h : Kd.R (Kd.int .i32) 21 W base (fun _ => True) v xs) (hK : Keep KS W W1) (hv : ∀ k, v.ownBlock = some k → KS k) : Kd.R (Kd.int .i32) 21 W1 base (fun _ => True) v xs :=
 Kd.R_mono (Kd.R_move (Kd.R_tight rfl h) fun k hk => hK.block k (hv k hk.symm)) fun _ _ => trivial
theorem keep_S {KS ok : Nat → Prop} (h : Kd.S (Kd.slice 21 (Kd.int .i32)) 22 W base (fun k => KS k ∧ ok k) vw w) (hK : Keep KS W W1) : Kd.S (Kd.slice 21 (Kd.int .i32)) 22 W1 base ok vw w :=
 Kd.S_mono (Kd.S_move h fun k hk => hK.block k hk.1) fun _ hk => hk.2
end
end Go.Proofs.Ytkgapabnokmkeaa.Rm
