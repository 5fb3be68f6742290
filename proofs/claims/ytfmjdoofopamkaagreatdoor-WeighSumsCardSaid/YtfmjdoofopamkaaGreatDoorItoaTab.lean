import Derived.Test.YtfmjdoofopamkaaGreatDoorRows
import Derived.Test.YtfmjdoofopamkaaGreatDoorShelf
import Derived.Shelf.Strconv.Itoa3
import Derived.Lib.LaidTab
import Derived.Below
import Derived.Test.YtfmjdoofopamkaaGreatDoorWAll
/-! strconv.Itoa's contract off the shelf, at this program; the table it reads stays where it lies. -/
namespace Go.Proofs.YtfmjdoofopamkaaGreatDoor.Rm
open Go.RowKit Go.Proofs.YtfmjdoofopamkaaGreatDoorW.PrintWords
def Tab (w : World) : Prop := Lib.TabIs Tryz.prog w "internal/strconv.uint64pow10" .u64 Lib.pow10Tab
theorem Tab.below {w w' : World} (h : Tab w) (hb : Below w.heap.size w w') : Tab w' := by
  unfold Tab Lib.TabIs World.var? at h ⊢
  cases hg : Tryz.prog.globalNamed "internal/strconv.uint64pow10" with
  | none => rw [hg] at h; exact h
  | some g =>
    rw [hg] at h
    simp only [Option.bind_some] at h ⊢
    have hlt : g < w.heap.size := by
      by_cases hl : g < w.heap.size
      · exact hl
      · rw [Array.getElem?_eq_none (by omega)] at h
        exact absurd h (by simp)
    rw [hb.block g hlt]
    exact h
theorem below_grow {w0 w : World} (h : Below w0.heap.size w0 w) (os : Array Obj) : Below w0.heap.size w0 (Go.Sort.grow w os) :=
  ⟨h.os, h.tape, h.output, by have := h.size; simp only [Go.Sort.grow, Array.size_append]; omega, fun k hk => by
    have h2 := h.block k hk
    have := h.size
    rw [← h2]
    simp only [Go.Sort.grow]
    rw [Array.getElem?_append_left (by omega)]⟩
theorem itoa_calls (n : Int) (h0 : -9223372036854775808 ≤ n) (h1 : n ≤ 9223372036854775807) (w : World) (htab : Tab w) :
    Calls Tryz.prog (Tryz.lays171_ren.f 171) #[.int .i64 n] w fun e w' => e = .returned (.string ⟨(Lib.itoa n).toArray⟩) ∧ Below w.heap.size w w' := by
  refine (Any.strconv_Itoa Tryz.lays171 n h0 h1 w htab).mono ?_
  rintro e w' ⟨rfl, k, os, rfl⟩
  exact ⟨rfl, below_grow (pw_below_drewN (Below.refl _ _) k) os⟩
end Go.Proofs.YtfmjdoofopamkaaGreatDoor.Rm
