import Derived.Test.YtkgapabnokmkeaaWWords
import Derived.Test.YtkgapabnokmkeaaWMore
import Derived.Test.YtkgapabnokmkeaaWApart
import Derived.Below
/-! A slice with cells known in the room behind it. -/
namespace Go.Proofs.Ytkgapabnokmkeaa.Rm
open Go.RowKit Go.Proofs.YtkgapabnokmkeaaW.PrintWords
set_option linter.unusedVariables false
/-- Behind the n elements of v (elements of one cell) stand these. -/
def Room (w : World) (v : Value) (n : Nat) (ex : List Value) : Prop :=
  ∃ g c, v = .slice (some ⟨g, 0, none⟩) n c ∧ (n + ex.length ≤ c ∧ n + ex.length ≤ 9223372036854775807) ∧ ∀ j u, ex[j]? = some u → w.cell? ⟨g, n + j, none⟩ = some u
theorem Room.below {w w1 : World} {v : Value} {n : Nat} {ex : List Value} (h : Room w v n ex) (hb : Below w.heap.size w w1) : Room w1 v n ex := by
  obtain ⟨ad, c, e, hc, hx⟩ := h
  exact ⟨ad, c, e, hc, fun j u hu => (hb.cell (World.block_lt_of_cell? w _ (hx j u hu))).trans (hx j u hu)⟩
theorem Room.alloc {w : World} {v : Value} {n : Nat} {ex : List Value} (h : Room w v n ex) (o : Obj) : Room (w.alloc o) v n ex := h.below (below_alloc (Below.refl _ _) o)
theorem Room.drew {w : World} {v : Value} {n : Nat} {ex : List Value} (h : Room w v n ex) : Room w.drew v n ex := h.below (below_drew (Below.refl _ _))
theorem Room.drewN {w : World} {v : Value} {n : Nat} {ex : List Value} (h : Room w v n ex) (m : Nat) : Room (w.drewN m) v n ex := h.below (pw_below_drewN (Below.refl _ _) m)
/-- What is cut off the end of an own row of numbers stays behind as room. -/
theorem room_of_R {k : IntKind} {e : Nat} {w : World} {base : Nat} {ok : Nat → Prop} {A : Option Addr} {n c : Nat} {xs ys : List Int} (h : (Kd.int k).R e w base ok (.slice A n c) (xs ++ ys)) (hy : ys ≠ []) (v : Value) (hv : v = .slice A xs.length c) :
    Room w v xs.length (ys.map (Value.int k)) := by
  obtain ⟨h1, h2, h3⟩ := Kd.R_reads' h
  have hpos : 0 < (xs ++ ys).length := by
    have : 0 < ys.length := List.length_pos_iff.2 hy
    simp; omega
  obtain ⟨ad, rfl, hcell⟩ := h3.2.2 hpos
  obtain ⟨g, rfl⟩ := Kd.R_head h
  refine ⟨g, c, hv, ⟨by simp at h1 ⊢; omega, by have := h3.2.1; simp at this ⊢; omega⟩, fun j u hu => ?_⟩
  rw [List.getElem?_map] at hu
  obtain ⟨y, hy2, rfl⟩ := Option.map_eq_some_iff.1 hu
  have hj : (xs ++ ys)[xs.length + j]? = some y := by rw [List.getElem?_append_right (by omega)]; simpa using hy2
  obtain ⟨cs, hcs, hK, hc⟩ := hcell _ y hj
  obtain rfl : cs = [Value.int k y] := hK
  have := hc 0 (.int k y) rfl
  rw [show (Kd.int k).sz = 1 from rfl, Nat.mul_one, Nat.add_zero, add_plain] at this
  exact this
end Go.Proofs.Ytkgapabnokmkeaa.Rm
