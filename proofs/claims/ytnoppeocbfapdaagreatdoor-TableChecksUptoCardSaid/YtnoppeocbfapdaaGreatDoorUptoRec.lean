import Derived.Test.YtnoppeocbfapdaaGreatDoorUpto
import Derived.Test.YtnoppeocbfapdaaGreatDoorTx0
import Derived.Deep.Slices
import Derived.ChangeArms
namespace Go.Proofs.YtnoppeocbfapdaaGreatDoor.Upto
open Go.ChangeShapes Go.WideShapes Go.ChangeAt Go.RowKit Go.Proofs.YtnoppeocbfapdaaGreatDoorW.PrintWords Go.Proofs.YtnoppeocbfapdaaGreatDoor.T
set_option linter.unusedVariables false
set_option linter.unusedSimpArgs false
set_option maxRecDepth 100000
variable {H : Type} {enc : TypeId × Value → H} {W : World}
structure WfRec (x : S25) : Prop where
 f0 : (Lit.int .i64 x.f0).wf = true
 f1 : (Lit.int .i64 x.f1).wf = true
 f2 : (Lit.int .i64 x.f2).wf = true
 f3 : (Lit.int .i64 x.f3).wf = true
 f4 : ∀ y ∈ x.f4, (Lit.int .i32 y).wf = true
 f7 : (Lit.float .f64 x.f7).wf = true
theorem trod_float {P : Program} {t : TypeId} {k : FloatKind} {base fuel : Nat} {sp : Nat → Bool} {held : Bool} {cs : List Value} {x : DataW H × List MemPlace} (ht : P.underlying t = some (.float k)) (h : DataW.trod enc P W base sp held fuel t cs = some x) : ∃ b, cs = [.float k b] ∧ x = (.lit (.float k b), []) ∧ (Lit.float k b).wf = true := by
 cases fuel with
 | zero => simp [DataW.trod] at h
 | succ n =>
  unfold DataW.trod at h
  rw [ht] at h
  split at h <;> simp_all
theorem ints1 {P : Program} {t e : TypeId} {k : IntKind} {fuel : Nat} {cs : List Value} {x : DataW H × List MemPlace} (ht : P.underlying t = some (.slice e)) (he : P.underlying e = some (.int k)) (hc : P.cellsOf e = 1)
  (hf : DataW.trod enc P W 0 (fun _ => true) true fuel t cs = some x) :
  ∃ (a : Option Addr) (l : List Int) (cap : Nat), cs = [.slice a l.length cap] ∧ Kd.C (Kd.int k) W a l.length l ∧ l.length ≤ cap ∧ (∀ y ∈ l, (Lit.int k y).wf = true) ∧ l.length + 1 ≤ Rows.uptoBulk x.1 := by
 rcases open_ints ht he hc hf with ⟨rfl, rfl⟩ | ⟨a, l, c, zs, rfl, hb, hl, hm, hz, rfl, hcell, hwz⟩
 ·exact ⟨none, [], 0, rfl, ⟨rfl, by simp, fun h => absurd h (by simp)⟩, by simp, by simp, by simp [Rows.uptoBulk]⟩
 ·have e : (Value.slice (some a) l c).cells.toList = [Value.slice (some a) l c] := by simp [Value.cells]
  rw [← e] at hf
  obtain ⟨l', rfl, h1, h2, h3, h4⟩ := ints ht he hc hf
  exact ⟨some a, l', c, rfl, h1, h2, h3, Nat.le_trans (Nat.succ_le_succ h2) h4⟩
instance : Inhabited S25 := ⟨z25⟩
theorem rec1 {fuel : Nat} {cs : List Value} {y : DataW H × List MemPlace} (h : DataW.trod enc Tryz.prog W 0 (fun _ => true) true fuel 25 cs = some y) :
  ∃ x : S25, k25.K W x cs ∧ WfRec x ∧ x.f4.length + x.f5.size + x.f6.size + 1 ≤ Rows.uptoBulk y.1 := by
 obtain ⟨xs, n, rfl, rfl, hlen, hxl, hf⟩ := DataW.trod_struct Tryz.underlying25 h
 have c3 : Tryz.prog.cellsOf 3 = 1 := by kernel_rfl
 have c22 : Tryz.prog.cellsOf 22 = 1 := by kernel_rfl
 have c9 : Tryz.prog.cellsOf 9 = 1 := by kernel_rfl
 have c23 : Tryz.prog.cellsOf 23 = 1 := by kernel_rfl
 have c25 : Tryz.prog.cellsOf 25 = 8 := by kernel_rfl
 have c21 : Tryz.prog.cellsOf 21 = 1 := by kernel_rfl
 rw [c25] at hlen
 match xs, hxl, cs, hlen with
 | [y0, y1, y2, y3, y4, y5, y6, y7], _, [v0, v1, v2, v3, v4, v5, v6, v7], _ =>
  have g0 := hf 0 { name := "Kind", type := 3, offset := 0, embedded := false, tag := "", pkgPath := "", byteOffset := 0 } rfl
  simp only [c3] at g0
  have g1 := hf 1 { name := "Lo", type := 3, offset := 1, embedded := false, tag := "", pkgPath := "", byteOffset := 8 } rfl
  simp only [c3] at g1
  have g2 := hf 2 { name := "Hi", type := 3, offset := 2, embedded := false, tag := "", pkgPath := "", byteOffset := 16 } rfl
  simp only [c3] at g2
  have g3 := hf 3 { name := "N", type := 3, offset := 3, embedded := false, tag := "", pkgPath := "", byteOffset := 24 } rfl
  simp only [c3] at g3
  have g4 := hf 4 { name := "To", type := 22, offset := 4, embedded := false, tag := "", pkgPath := "", byteOffset := 32 } rfl
  simp only [c22] at g4
  have g5 := hf 5 { name := "Name", type := 9, offset := 5, embedded := false, tag := "", pkgPath := "", byteOffset := 56 } rfl
  simp only [c9] at g5
  have g6 := hf 6 { name := "Other", type := 9, offset := 6, embedded := false, tag := "", pkgPath := "", byteOffset := 72 } rfl
  simp only [c9] at g6
  have g7 := hf 7 { name := "Weight", type := 23, offset := 7, embedded := false, tag := "", pkgPath := "", byteOffset := 88 } rfl
  simp only [c23] at g7
  obtain ⟨n0, e0, q0, w0⟩ := DataW.trod_int Tryz.underlying3 g0
  obtain ⟨n1, e1, q1, w1⟩ := DataW.trod_int Tryz.underlying3 g1
  obtain ⟨n2, e2, q2, w2⟩ := DataW.trod_int Tryz.underlying3 g2
  obtain ⟨n3, e3, q3, w3⟩ := DataW.trod_int Tryz.underlying3 g3
  obtain ⟨a4, l4, p4, e4, hC, hl, w4, hb4⟩ := ints1 Tryz.underlying22 Tryz.underlying21 c21 g4
  obtain ⟨s5, e5, q5, _⟩ := DataW.trod_string Tryz.underlying9 g5
  obtain ⟨s6, e6, q6, _⟩ := DataW.trod_string Tryz.underlying9 g6
  obtain ⟨b7, e7, q7, w7⟩ := trod_float Tryz.underlying23 g7
  obtain rfl : v0 = _ := by simpa using e0
  obtain rfl : v1 = _ := by simpa using e1
  obtain rfl : v2 = _ := by simpa using e2
  obtain rfl : v3 = _ := by simpa using e3
  obtain rfl : v4 = _ := by simpa using e4
  obtain rfl : v5 = _ := by simpa using e5
  obtain rfl : v6 = _ := by simpa using e6
  obtain rfl : v7 = _ := by simpa using e7
  refine ⟨⟨n0, n1, n2, n3, l4, s5, s6, b7⟩, k25_mk W ⟨n0, n1, n2, n3, l4, s5, s6, b7⟩ hl hC, ⟨w0, w1, w2, w3, w4, w7⟩, ?_⟩
  have r5 : Rows.uptoBulk y5.1 = s5.size + 1 := by rw [q5]; exact bulk_string s5
  have r6 : Rows.uptoBulk y6.1 = s6.size + 1 := by rw [q6]; exact bulk_string s6
  simp only [List.map_cons, List.map_nil, Rows.uptoBulk, Rows.uptoBulkAll, r5, r6]
  omega
theorem recs {fuel : Nat} {a : Option Addr} {len cap : Nat} {d : DataW H} {p : List MemPlace}
  (hf : DataW.trod enc Tryz.prog W 0 (fun _ => true) true fuel 26 (Value.slice a len cap).cells.toList = some (d, p)) :
  ∃ l : List S25, len = l.length ∧ Kd.C k25 W a l.length l ∧ l.length ≤ cap ∧ (∀ x ∈ l, WfRec x) ∧ (l.map fun x => x.f4.length + x.f5.size + x.f6.size + 1).sum + 1 ≤ Rows.uptoBulk d := by
 have c25 : Tryz.prog.cellsOf 25 = 8 := by kernel_rfl
 rcases Go.Deep.open_slice Tryz.underlying26 hf with ⟨hcs, hx⟩ | ⟨ad, len', cap', m, n, D, Pl, hcs, hb, hl, hm, hmm, hx, hrow⟩
 ·simp [Value.cells] at hcs
  obtain ⟨rfl, rfl, rfl⟩ := hcs
  cases hx
  exact ⟨[], rfl, ⟨rfl, by simp, fun h => absurd h (by simp)⟩, by simp, by simp, by simp [Rows.uptoBulk]⟩
 ·simp [Value.cells] at hcs
  obtain ⟨rfl, rfl, rfl⟩ := hcs
  cases hx
  simp only [if_true] at hmm
  subst hmm
  obtain ⟨X, hX⟩ := Go.Deep.choose_lt (α := S25) (n := len) (p := fun i x => ∃ cs', W.cells? 0 (ad.add (i * 8)) 8 = some cs' ∧ k25.K W x cs' ∧ WfRec x ∧ x.f4.length + x.f5.size + x.f6.size + 1 ≤ Rows.uptoBulk (D i)) (fun i hi => by
   obtain ⟨cs', h1, h2⟩ := hrow i (by omega)
   rw [c25] at h1
   obtain ⟨x, h3, h4, h5⟩ := rec1 h2
   exact ⟨x, cs', h1, h3, h4, h5⟩)
  refine ⟨(List.range len).map X, by simp, ⟨rfl, by simp; unfold maxLen at hm; omega, fun _ => ⟨ad, rfl, fun j q hj => ?_⟩⟩, by simpa using hl, fun x hx => ?_, ?_⟩
  ·obtain ⟨hjl, hp⟩ := List.getElem?_eq_some_iff.1 hj
   simp only [List.length_map, List.length_range] at hjl
   simp only [List.getElem_map, List.getElem_range] at hp
   subst hp
   obtain ⟨cs', h1, h2, _, _⟩ := hX j hjl
   obtain ⟨_, h3, h4⟩ := World.cells?_some h1
   refine ⟨cs', h3, h2, fun i u hu => ?_⟩
   have hi : i < 8 := by rw [← h3]; exact (List.getElem?_eq_some_iff.1 hu).1
   have := h4 i hi
   rw [Go.Deep.add_add] at this
   rw [show k25.sz = 8 from rfl, this, hu]
  ·obtain ⟨j, hj, rfl⟩ := List.mem_map.1 hx
   obtain ⟨_, _, _, h3, _⟩ := hX j (List.mem_range.1 hj)
   exact h3
  ·simp only [Rows.uptoBulk, List.map_map]
   have h := bulkAll_map_le (H := H) D (fun i => (X i).f4.length + (X i).f5.size + (X i).f6.size + 1) (List.range len) (fun i hi => by
    obtain ⟨_, _, _, _, h4⟩ := hX i (List.mem_range.1 hi)
    exact h4)
   have e : ((fun x : S25 => x.f4.length + x.f5.size + x.f6.size + 1) ∘ X) = fun i => (X i).f4.length + (X i).f5.size + (X i).f6.size + 1 := rfl
   rw [e]
   omega
end Go.Proofs.YtnoppeocbfapdaaGreatDoor.Upto
