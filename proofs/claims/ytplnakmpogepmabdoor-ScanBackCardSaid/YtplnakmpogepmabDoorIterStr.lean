import Derived.Test.YtplnakmpogepmabDoorWWords
import Derived.Test.YtplnakmpogepmabDoorWMore
import Derived.Test.YtplnakmpogepmabDoorWApart
import Derived.Laws.RangeAny
import Derived.Below
/-! A text gone through by its runes: the place where it stands is an object of the heap. -/
namespace Go.Proofs.YtplnakmpogepmabDoor.Rm
open Go.RowKit Go.Proofs.YtplnakmpogepmabDoorW.PrintWords
set_option linter.unusedVariables false
set_option linter.unusedSimpArgs false
/-- The rune at a place, and where the next one begins. -/
def drune (s : ByteArray) (i : Int) : Int := ((Utf8.decode s i.toNat).1 : Int)
def dnext (s : ByteArray) (i : Int) : Int := i + ((Utf8.decode s i.toNat).2 : Int)
def iterAt (w : World) (B : Nat) (o : Obj) : World := { w with heap := w.heap.setIfInBounds B o }
theorem iterAt_at (w : World) (B : Nat) (o : Obj) (h : B < w.heap.size) : (iterAt w B o).heap[B]? = some o := by simp [iterAt, h]
theorem iterAt_ne (w : World) (B : Nat) (o : Obj) (k : Nat) (h : k ≠ B) : (iterAt w B o).heap[k]? = w.heap[k]? := by simp [iterAt, Array.getElem?_setIfInBounds, Ne.symm h]
theorem iterAt_size (w : World) (B : Nat) (o : Obj) : (iterAt w B o).heap.size = w.heap.size := by simp [iterAt]
theorem lt_of_block {w : World} {B : Nat} {o : Obj} (h : w.heap[B]? = some o) : B < w.heap.size := (Array.getElem?_eq_some_iff.1 h).1
theorem run_next_go {P : Program} (w : World) (B : Nat) (s : ByteArray) (p : Nat) (ty : TypeId) (h : w.heap[B]? = some (.stringIter s p)) (hp : p < s.size) :
    (Instr.next (.pointer (some ⟨B, 0, none⟩)) true ty).run P w = .ok (.tuple #[.bool true, .int .i64 p, .int .i32 (Utf8.decode s p).1]) (iterAt w B (.stringIter s (p + (Utf8.decode s p).2))) := by
  have hb : w.heap.size > B := lt_of_block h
  simp only [Instr.next, getObj, setObj, Sem.run_bind, Sem.run, h, Result.andThen, hp, if_true]
  simp [goInt, iterAt]
theorem run_next_stop {P : Program} (w : World) (B : Nat) (s : ByteArray) (p : Nat) (ty : TypeId) (h : w.heap[B]? = some (.stringIter s p)) (hp : ¬ p < s.size) :
    (Instr.next (.pointer (some ⟨B, 0, none⟩)) true ty).run P w = .ok (.tuple #[.bool false]) w := by
  simp [Instr.next, getObj, Sem.run, h, hp]
theorem below_iterAt {w0 w : World} {B : Nat} {o : Obj} (h : Below w0.heap.size w0 w) (hB : w0.heap.size ≤ B) : Below w0.heap.size w0 (iterAt w B o) :=
  ⟨h.os, h.tape, h.output, by rw [iterAt_size]; exact h.size, fun k hk => (iterAt_ne w B o k (by omega)).trans (h.block k hk)⟩
theorem next_some {α : Type} {d : Kd α} {e : Nat} {P : Program} {w0 w : World} {s : ByteArray} {x : Int} {v : Value} {xs : List α} (ty : TypeId)
    (HB : Below w0.heap.size w0 w) (HO : d.R e w w0.heap.size (fun k => k ≠ w0.heap.size) v xs) (HI : 0 ≤ x ∧ w.heap[w0.heap.size]? = some (.stringIter s x.toNat)) (hx : x < (s.size : Int)) :
    ∃ w2, (Instr.next (.pointer (some ⟨w0.heap.size, 0, none⟩)) true ty).run P w = .ok (.tuple #[.bool true, .int .i64 x, .int .i32 (drune s x)]) w2 ∧ Below w0.heap.size w0 w2 ∧ d.R e w2 w0.heap.size (fun k => k ≠ w0.heap.size) v xs ∧
      (0 ≤ dnext s x ∧ w2.heap[w0.heap.size]? = some (.stringIter s (dnext s x).toNat)) := by
  obtain ⟨h0, h1⟩ := HI
  obtain ⟨p, rfl⟩ := Int.eq_ofNat_of_zero_le h0
  rw [Int.toNat_natCast] at h1
  have hd : (dnext s (p : Int)).toNat = p + (Utf8.decode s p).2 := by unfold dnext; rw [Int.toNat_natCast]; omega
  refine ⟨iterAt w w0.heap.size (.stringIter s (p + (Utf8.decode s p).2)), ?_, below_iterAt HB (Nat.le_refl _), Kd.R_move HO (fun k hk => iterAt_ne _ _ _ _ hk), by unfold dnext; omega, ?_⟩
  · have := run_next_go (P := P) w w0.heap.size s p ty h1 (by omega)
    simpa [drune] using this
  · rw [hd]; exact iterAt_at _ _ _ (lt_of_block h1)
theorem next_none {P : Program} {w0 w : World} {s : ByteArray} {x : Int} (ty : TypeId) (HI : 0 ≤ x ∧ w.heap[w0.heap.size]? = some (.stringIter s x.toNat)) (hx : ¬ x < (s.size : Int)) :
    (Instr.next (.pointer (some ⟨w0.heap.size, 0, none⟩)) true ty).run P w = .ok (.tuple #[.bool false]) w := run_next_stop w _ s x.toNat ty HI.2 (by omega)
/-- The place stays behind what is made and what is written to a row of cells. -/
theorem iter_grown {w w1 : World} {B : Nat} {o : Obj} {row : Option Nat} (h : w.heap[B]? = some o) (hg : w.grownBy w1 row) (hr : some B ≠ row) : w1.heap[B]? = some o := (hg.block B (lt_of_block h) hr).trans h
theorem iter_alloc {w : World} {B : Nat} {o : Obj} (h : w.heap[B]? = some o) (o2 : Obj) : (w.alloc o2).heap[B]? = some o := ((below_alloc (Below.refl _ _) o2).block B (lt_of_block h)).trans h
theorem iter_below {w w1 : World} {B : Nat} {o : Obj} (h : w.heap[B]? = some o) (hb : Below w.heap.size w w1) : w1.heap[B]? = some o := (hb.block B (lt_of_block h)).trans h
theorem wsz (n : Nat) (hn : n + 2 ≤ 9223372036854775807) : wrap64 ((n : Int) + 1) = (n : Int) + 1 := by unfold wrap64; omega
end Go.Proofs.YtplnakmpogepmabDoor.Rm
