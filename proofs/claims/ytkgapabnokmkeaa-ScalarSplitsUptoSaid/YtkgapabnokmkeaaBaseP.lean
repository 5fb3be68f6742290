import Derived.Test.YtkgapabnokmkeaaWWords
import Derived.Test.YtkgapabnokmkeaaWMore
import Derived.RowKit
import Derived.Laws.BitsLemmas
import Derived.Laws.Strings
import Derived.Laws.BytesArg
import Derived.Laws.Closers25b
namespace Go.Proofs.Ytkgapabnokmkeaa.Plain
open Go.RowKit Go.Proofs.YtkgapabnokmkeaaW.PrintWords Go.Proofs.YtkgapabnokmkeaaW.PrintLast Go.Proofs.YtkgapabnokmkeaaW.PrintMore
set_option linter.unusedVariables false
set_option linter.unusedSimpArgs false

theorem w64 {x : Int} (h0 : -9223372036854775808 ≤ x) (h1 : x ≤ 9223372036854775807) : wrap64 x = x := by unfold wrap64; omega
theorem w32 {x : Int} (h0 : -2147483648 ≤ x) (h1 : x ≤ 2147483647) : wrap32 x = x := by unfold wrap32; omega
theorem wu64 {x : Int} (h0 : 0 ≤ x) (h1 : x ≤ 18446744073709551615) : IntKind.u64.wrap x = x := by
 simp [IntKind.wrap, IntKind.bits, IntKind.signed]; omega
theorem rd_nat (l : List Int) (i : Nat) (h : i < l.length) : rd l (i : Int) = l[i] := by
 simp [rd, List.getD_eq_getElem?_getD, List.getElem?_eq_getElem h]
theorem drop_rd (l : List Int) (i : Nat) (h : i < l.length) : l.drop i = rd l (i : Int) :: l.drop (i + 1) := by
 rw [rd_nat l i h]; exact List.drop_eq_getElem_cons h
theorem take_rd (l : List Int) (i : Nat) (h : i < l.length) : l.take (i + 1) = l.take i ++ [rd l (i : Int)] := by
 rw [rd_nat l i h]; exact (List.take_append_getElem h).symm
theorem drop_all {α : Type} (l : List α) (i : Nat) (h : l.length ≤ i) : l.drop i = [] := List.drop_eq_nil_of_le h
theorem sz (s : ByteArray) : s.size = (bytesOf s).length := (bytesOf_length s).symm
theorem bt_rd (s : ByteArray) (i : Int) : bt s i = rd (bytesOf s) i := (rd_bytesOf s i).symm
theorem byte_mem (s : ByteArray) : ∀ b ∈ bytesOf s, 0 ≤ b ∧ b ≤ 255 := by
 intro b hb
 obtain ⟨c, _, rfl⟩ := List.mem_map.1 hb
 have := c.toNat_lt
 omega
theorem bytesOf_append (s t : ByteArray) : bytesOf (s ++ t) = bytesOf s ++ bytesOf t := by
 simp [bytesOf]
theorem bytesOf_extract (s : ByteArray) (i j : Nat) : bytesOf (s.extract i j) = ((bytesOf s).take j).drop i := by
 simp only [bytesOf, ByteArray.data_extract, Array.toList_extract, List.extract_eq_take_drop, List.map_take, List.map_drop]
 rw [List.drop_take]
theorem bytesOf_inj {s t : ByteArray} (h : bytesOf s = bytesOf t) : s = t := by
 have h2 : s.data.toList = t.data.toList := by
  refine List.map_inj_right (f := fun b : UInt8 => (b.toNat : Int)) ?_ |>.1 h
  intro a b e
  exact UInt8.toNat_inj.1 (by exact_mod_cast e)
 cases s; cases t; congr 1; exact Array.toList_inj.1 h2
theorem bytesOf_toList {s t : ByteArray} : s.toList = t.toList ↔ bytesOf s = bytesOf t := by
 constructor
 ·intro h
  rw [ByteArray.toList_eq, ByteArray.toList_eq] at h
  unfold bytesOf
  rw [h]
 ·intro h; rw [bytesOf_inj h]
theorem bytesOf_strOfNums (xs : List Int) (h : ∀ x ∈ xs, 0 ≤ x ∧ x ≤ 255) : bytesOf (strOfNums xs) = xs := by
 unfold bytesOf
 rw [strOfNums_data, List.map_map]
 conv => rhs; rw [← List.map_id xs]
 apply List.map_congr_left
 intro x hx
 have := h x hx
 simp only [Function.comp, id]
 rw [UInt8.toNat_ofNat']
 omega
theorem ev_of {α : Type} {g : Nat → Option α} {r : α} (K : Nat) (h : ∀ k, K ≤ k → g k = some r) : Ev g r := ⟨K, h⟩
end Go.Proofs.Ytkgapabnokmkeaa.Plain
