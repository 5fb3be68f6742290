import Derived.Test.YtnoppeocbfapdaaGreatDoorUptoRec
namespace Go.Proofs.YtnoppeocbfapdaaGreatDoor.Upto
open Go.ChangeShapes Go.WideShapes Go.ChangeAt Go.RowKit Go.Proofs.YtnoppeocbfapdaaGreatDoorW.PrintWords Go.Proofs.YtnoppeocbfapdaaGreatDoor.T
set_option maxRecDepth 100000
variable {H : Type} {enc : TypeId × Value → H} {W : World}
theorem recOne {fuel base : Nat} {v : Value} {d : DataW H} {p : List MemPlace} (hok : Value.okWide Tryz.prog W .any base 25 v)
  (hf : DataW.trod enc Tryz.prog W 0 (fun _ => true) true fuel 25 v.cells.toList = some (d, p)) :
  ∃ (x : S25) (A : Option Addr) (c : Nat), v = .agg #[.int .i64 x.f0, .int .i64 x.f1, .int .i64 x.f2, .int .i64 x.f3, .slice A x.f4.length c, .string x.f5, .string x.f6, .float .f64 x.f7] ∧ (Kd.int .i32).C W A x.f4.length x.f4 ∧ x.f4.length ≤ c ∧ WfRec x ∧ x.f4.length + x.f5.size + x.f6.size + 1 ≤ Rows.uptoBulk d := by
 simp only [Value.okWide, Tryz.underlying25] at hok
 obtain ⟨cs, rfl, _, _⟩ := hok
 obtain ⟨x, hK, hw, hb⟩ := rec1 hf
 obtain ⟨A, c, e, hl, hC⟩ := k25_open hK
 refine ⟨x, A, c, ?_, hC, hl, hw, hb⟩
 have e2 : cs.toList = [.int .i64 x.f0, .int .i64 x.f1, .int .i64 x.f2, .int .i64 x.f3, .slice A x.f4.length c, .string x.f5, .string x.f6, .float .f64 x.f7] := e
 rw [show cs = cs.toList.toArray from rfl, e2]
theorem intsV {A : Option Addr} {c : Nat} {l : List Int} {k : IntKind} {e base : Nat} (hC : (Kd.int k).C W A l.length l) (hl : l.length ≤ c) : Kd.V (Kd.int k) e W base (fun b => b < W.heap.size) (.slice A l.length c) l := by
 refine Kd.V_mk hl fun W' hW => ?_
 obtain ⟨h1, h2, h3⟩ := hC
 refine ⟨h1, h2, fun hn => ?_⟩
 obtain ⟨ad, ha, hc⟩ := h3 hn
 refine ⟨ad, ha, fun j q hj => ?_⟩
 obtain ⟨cs, hcl, hk, hcell⟩ := hc j q hj
 refine ⟨cs, hcl, hk, fun i u hu => ?_⟩
 have hg := hcell i u hu
 have hb := World.block_lt_of_cell? W _ hg
 rw [← hg]
 unfold World.cell?
 rw [hW _ hb hb]
end Go.Proofs.YtnoppeocbfapdaaGreatDoor.Upto
