import Derived.Test.YtfbadcjojkgibaaDoorNameL5
namespace Go.Proofs.YtfbadcjojkgibaaDoor.Pure
open Go.RowKit Go.Proofs.YtfbadcjojkgibaaDoor.N Go.Proofs.YtfbadcjojkgibaaDoorW.PrintWords Go.Proofs.YtfbadcjojkgibaaDoorW.PrintLast
theorem byte_wf {x : Int} (h : (Lit.int .u8 x).wf = true) : 0 ≤ x ∧ x ≤ 255 := by
  simpa only [Lit.wf, Bool.and_eq_true, decide_eq_true_eq, show IntKind.u8.min = 0 from by decide, show IntKind.u8.max = 255 from by decide] using h
theorem NameBack (a0 : ByteArray) (l1 : List Int) (a2 : Int) (l3 : List Int) (l4 : List Int) (w1 : ∀ x ∈ l1, (Lit.int .u8 x).wf = true) (w2 : (Lit.int .i64 a2).wf = true) (w3 : ∀ x ∈ l3, (Lit.int .u8 x).wf = true) (w4 : ∀ x ∈ l4, (Lit.int .u8 x).wf = true) (hb : a0.size + l1.length + l3.length + l4.length ≤ 1048576) : ∃ k, endonymlaw20_NameBack.f k a0 l1 a2 l3 l4 = some true :=
  Plain.NameBack_ok a0 l1 a2 l3 l4 (by omega) (by omega) (by omega) (by omega) (fun x hx => byte_wf (w1 x hx)) (fun x hx => byte_wf (w3 x hx)) (fun x hx => byte_wf (w4 x hx))
end Go.Proofs.YtfbadcjojkgibaaDoor.Pure
