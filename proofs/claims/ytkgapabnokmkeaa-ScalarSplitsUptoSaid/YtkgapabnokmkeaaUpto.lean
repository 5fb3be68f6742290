import Derived.Test.YtkgapabnokmkeaaRows
import Derived.Test.YtkgapabnokmkeaaWWords
import Derived.OpenShut
import Derived.SliceStrings
import Derived.Deep.Matrix
import Derived.JoinedCond
import Derived.ProofKit
import Derived.WalkKit
import Derived.Carry
import Derived.ShutString
/-! Arguments of a row whose bulk is bounded: read as lists, with the bound. -/
namespace Go.Proofs.Ytkgapabnokmkeaa.Upto
open Go.ChangeShapes Go.WideShapes Go.ChangeAt Go.RowKit Go.Proofs.YtkgapabnokmkeaaW.PrintWords
set_option linter.unusedVariables false
set_option linter.unusedSimpArgs false
variable {H : Type} {enc : TypeId × Value → H} {P : Program} {W : World}

theorem bulkAll_append (l r : List (DataW H)) : Rows.uptoBulkAll (l ++ r) = Rows.uptoBulkAll l + Rows.uptoBulkAll r := by
  induction l with
  | nil => simp [Rows.uptoBulkAll]
  | cons x l ih => simp only [List.cons_append, Rows.uptoBulkAll, ih]; omega
theorem bulkAll_lits (k : IntKind) (zs : List Int) : Rows.uptoBulkAll (lits (H := H) k zs) = zs.length := by
  induction zs with
  | nil => simp [lits, Rows.uptoBulkAll]
  | cons x l ih => simp only [lits, List.map_cons, Rows.uptoBulkAll, Rows.uptoBulk, List.length_cons] at ih ⊢; omega
theorem bulkAll_strs (ss : List ByteArray) : Rows.uptoBulkAll (strs (H := H) ss) = (ss.map fun s => s.size + 1).sum := by
  induction ss with
  | nil => simp [strs, Rows.uptoBulkAll]
  | cons x l ih =>
    have e : x.data.toList.length = x.size := by rw [Array.length_toList]; rfl
    simp only [strs, List.map_cons, Rows.uptoBulkAll, Rows.uptoBulk, List.sum_cons, e] at ih ⊢
    omega
theorem bound {l : List (DataW H)} (hk : Rows.uptoSmall H l = true) : Rows.uptoBulkAll l ≤ 1048576 := of_decide_eq_true hk
theorem bulk_string (s : ByteArray) : Rows.uptoBulk (DataW.lit (H := H) (.string s.data.toList)) = s.size + 1 := by
  have e : s.data.toList.length = s.size := by rw [Array.length_toList]; rfl
  simp only [Rows.uptoBulk, e]
theorem getD_take {α : Type} (l : List α) (n j : Nat) (d : α) (h : j < n) : (l.take n).getD j d = l.getD j d := by
  rw [List.getD_eq_getElem?_getD, List.getElem?_take, if_pos h, List.getD_eq_getElem?_getD]
theorem ints {t e : TypeId} {k : IntKind} {fuel : Nat} {a : Option Addr} {len cap : Nat} {d : DataW H} {p : List MemPlace} (ht : P.underlying t = some (.slice e)) (he : P.underlying e = some (.int k)) (hc : P.cellsOf e = 1)
    (hf : DataW.trod enc P W 0 (fun _ => true) true fuel t (Value.slice a len cap).cells.toList = some (d, p)) :
    ∃ l : List Int, len = l.length ∧ Kd.C (Kd.int k) W a l.length l ∧ l.length ≤ cap ∧ (∀ x ∈ l, (Lit.int k x).wf = true) ∧ cap + 1 ≤ Rows.uptoBulk d := by
  rcases open_ints ht he hc hf with ⟨hcs, hx⟩ | ⟨x, l, c, zs, hcs, _, hl, hm, hz, hx, hcell, hwz⟩
  · simp [Value.cells] at hcs
    obtain ⟨rfl, rfl, rfl⟩ := hcs
    cases hx
    exact ⟨[], rfl, ⟨rfl, by simp, fun h => absurd h (by simp)⟩, by simp, by simp, by simp [Rows.uptoBulk]⟩
  · simp [Value.cells] at hcs
    obtain ⟨rfl, rfl, rfl⟩ := hcs
    cases hx
    simp only [if_true] at hz
    have hlen : (zs.take len).length = len := by rw [List.length_take, hz]; omega
    refine ⟨zs.take len, hlen.symm, ?_, by rw [hlen]; exact hl, fun y hy => hwz y (List.mem_of_mem_take hy), ?_⟩
    · refine Kd.C_of_reads (d := (0 : Int)) ⟨rfl, by rw [hlen]; unfold maxLen at hm; omega, fun _ => ⟨x, rfl, fun j hj => ?_⟩⟩
      rw [hlen] at hj
      rw [getD_take _ _ _ _ hj]
      exact hcell j (by omega)
    · simp only [Rows.uptoBulk, bulkAll_lits, hlen, List.length_drop]
      omega
theorem strings {t e : TypeId} {fuel : Nat} {a : Option Addr} {len cap : Nat} {d : DataW H} {p : List MemPlace} (ht : P.underlying t = some (.slice e)) (he : P.underlying e = some .string) (hc : P.cellsOf e = 1)
    (hf : DataW.trod enc P W 0 (fun _ => true) true fuel t (Value.slice a len cap).cells.toList = some (d, p)) :
    ∃ l : List ByteArray, len = l.length ∧ Kd.C Kd.string W a l.length l ∧ l.length ≤ cap ∧ (l.map fun s => s.size + 1).sum + 1 ≤ Rows.uptoBulk d := by
  rcases open_strings ht he hc hf with ⟨hcs, hx⟩ | ⟨x, l, c, zs, hcs, _, hl, hm, hz, hx, hcell, hwz⟩
  · simp [Value.cells] at hcs
    obtain ⟨rfl, rfl, rfl⟩ := hcs
    cases hx
    exact ⟨[], rfl, ⟨rfl, by simp, fun h => absurd h (by simp)⟩, by simp, by simp [Rows.uptoBulk]⟩
  · simp [Value.cells] at hcs
    obtain ⟨rfl, rfl, rfl⟩ := hcs
    cases hx
    simp only [if_true] at hz
    have hlen : (zs.take len).length = len := by rw [List.length_take, hz]; omega
    refine ⟨zs.take len, hlen.symm, ?_, by rw [hlen]; exact hl, ?_⟩
    · refine Kd.C_of_reads (d := ByteArray.empty) ⟨rfl, by rw [hlen]; unfold maxLen at hm; omega, fun _ => ⟨x, rfl, fun j hj => ?_⟩⟩
      rw [hlen] at hj
      rw [getD_take _ _ _ _ hj]
      exact hcell j (by omega)
    · simp only [Rows.uptoBulk, bulkAll_strs]
      omega
open Go.Deep in
theorem bulk_intRow (k : IntKind) (A : Option Addr) (L : Nat) (zs : List Int) (hA : A = none → zs = []) : (zs.take L).length + 1 ≤ Rows.uptoBulk (intRow (H := H) k A L zs) := by
  unfold intRow
  cases A with
  | none => simp [hA rfl, Rows.uptoBulk]
  | some a =>
    simp only [Rows.uptoBulk, bulkAll_lits]
    omega
theorem bulkAll_map_le {α : Type} (f : α → DataW H) (g : α → Nat) : ∀ l : List α, (∀ x ∈ l, g x ≤ Rows.uptoBulk (f x)) → (l.map g).sum ≤ Rows.uptoBulkAll (l.map f)
  | [], _ => by simp [Rows.uptoBulkAll]
  | x :: r, h => by
    have h1 := h x (by simp)
    have h2 := bulkAll_map_le f g r (fun y hy => h y (by simp [hy]))
    simp only [List.map_cons, List.sum_cons, Rows.uptoBulkAll]
    omega
open Go.Deep in
theorem rows {t e q : TypeId} {k : IntKind} {fuel : Nat} {a : Option Addr} {len cap : Nat} {d : DataW H} {p : List MemPlace} (ht : P.underlying t = some (.slice e)) (he : P.underlying e = some (.slice q)) (hq : P.underlying q = some (.int k))
    (ce : P.cellsOf e = 1) (cq : P.cellsOf q = 1)
    (hf : DataW.trod enc P W 0 (fun _ => true) true fuel t (Value.slice a len cap).cells.toList = some (d, p)) :
    ∃ l : List (List Int), len = l.length ∧ Kd.C (Kd.slice q (Kd.int k)) W a l.length l ∧ l.length ≤ cap ∧ (∀ r ∈ l, ∀ x ∈ r, (Lit.int k x).wf = true) ∧ (l.map fun r => r.length + 1).sum + 1 ≤ Rows.uptoBulk d := by
  rcases open_int_rows ht he hq ce cq hf with ⟨hcs, hx⟩ | ⟨x, l, c, A, L, C, Z, hcs, _, hl, hm, hx, hrow⟩
  · simp [Value.cells] at hcs
    obtain ⟨rfl, rfl, rfl⟩ := hcs
    cases hx
    exact ⟨[], rfl, ⟨rfl, by simp, fun h => absurd h (by simp)⟩, by simp, by simp, by simp [Rows.uptoBulk]⟩
  · simp [Value.cells] at hcs
    obtain ⟨rfl, rfl, rfl⟩ := hcs
    cases hx
    refine ⟨(List.range len).map fun r => (Z r).take (L r), by simp, ?_, by simpa using hl, ?_, ?_⟩
    · refine ⟨rfl, by simp; unfold maxLen at hm; omega, fun _ => ⟨x, rfl, fun j p hj => ?_⟩⟩
      obtain ⟨hjl, hp⟩ := List.getElem?_eq_some_iff.1 hj
      simp only [List.length_map, List.length_range] at hjl
      simp only [List.getElem_map, List.getElem_range] at hp
      subst hp
      obtain ⟨hc, h1, h2, h3, h4, h5, h6⟩ := hrow j (by omega)
      have hlen : ((Z j).take (L j)).length = L j := by rw [List.length_take, h3]; omega
      refine ⟨[.slice (A j) (L j) (C j)], rfl, ⟨A j, C j, by rw [hlen], by rw [hlen]; exact h1, ?_⟩, fun i u hu => ?_⟩
      · refine Kd.C_of_reads (d := (0 : Int)) ⟨rfl, by rw [hlen]; unfold maxLen at h2; omega, fun hpos => ?_⟩
        rw [hlen] at hpos
        cases hA : A j with
        | none => have := h5 hA; omega
        | some a' =>
          refine ⟨a', rfl, fun i hi => ?_⟩
          rw [hlen] at hi
          rw [getD_take _ _ _ _ hi]
          exact (h6 a' hA).2 i (by omega)
      · cases i with
        | zero =>
          simp at hu
          subst hu
          simpa [Kd.slice] using hc
        | succ i => simp at hu
    · intro r hr y hy
      obtain ⟨j, hj, rfl⟩ := List.mem_map.1 hr
      obtain ⟨hc, h1, h2, h3, h4, h5, h6⟩ := hrow j (by have := List.mem_range.1 hj; omega)
      exact h4 y (List.mem_of_mem_take hy)
    · simp only [Rows.uptoBulk, List.map_map]
      have h := bulkAll_map_le (H := H) (fun r => intRow k (A r) (L r) (Z r)) (fun r => ((Z r).take (L r)).length + 1) (List.range len) (fun j hj => by
        obtain ⟨hc, h1, h2, h3, h4, h5, h6⟩ := hrow j (by have := List.mem_range.1 hj; omega)
        exact bulk_intRow k (A j) (L j) (Z j) (fun hA => by have := h5 hA; rw [this] at h3; exact List.length_eq_zero_iff.1 h3))
      have e : ((fun r : List Int => r.length + 1) ∘ fun r => List.take (L r) (Z r)) = fun r => (List.take (L r) (Z r)).length + 1 := rfl
      rw [e]
      omega
end Go.Proofs.Ytkgapabnokmkeaa.Upto
