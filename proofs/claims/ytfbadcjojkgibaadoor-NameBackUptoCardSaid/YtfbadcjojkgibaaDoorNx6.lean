-- written by wip/pp.py of this session (the kit's print with patches); checked by Lean alone
import Derived.Test.YtfbadcjojkgibaaDoorNx0
import Derived.Test.YtfbadcjojkgibaaDoorNx2
import Derived.Test.YtfbadcjojkgibaaDoorNx5
namespace Go.Proofs.YtfbadcjojkgibaaDoor.N
open Go.RowKit Go.Proofs.YtfbadcjojkgibaaDoorW.PrintWords Go.Proofs.YtfbadcjojkgibaaDoorW.PrintLast Go.Proofs.YtfbadcjojkgibaaDoorW.PrintMore
attribute [local go_sem] max2_int min2_int max_two min_two max_three min_three max_four min_four   -- for this text's walks alone
set_option linter.unusedVariables false
set_option linter.unusedSimpArgs false

/-! ### slices_symMergeCmpFunc_string: function 47 -/
def slices_symMergeCmpFunc_string.f : Nat → List ByteArray → Int → Int → Int → Option (List ByteArray) := fun _ _ _ _ _ => none
theorem slices_symMergeCmpFunc_string.mono : ∀ a0 a1 a2 a3 k, LeO (slices_symMergeCmpFunc_string.f k a0 a1 a2 a3) (slices_symMergeCmpFunc_string.f (k + 1) a0 a1 a2 a3) := fun _ _ _ _ _ => LeO.none _
theorem slices_symMergeCmpFunc_string.calls (k : Nat) : ∀ (P0_ : Nat → Prop) (u9000_ : Value) (l0 : List ByteArray) (a1 : Int) (a2 : Int) (a3 : Int) (r : List ByteArray) (w0 w : World) (hB : Below w0.heap.size w0 w) (ho0 : Kd.R Kd.string 9 w w0.heap.size P0_ u9000_ l0) (h : slices_symMergeCmpFunc_string.f k l0 a1 a2 a3 = some r),
    Calls Tryd.prog 47 #[u9000_, .int .i64 a1, .int .i64 a2, .int .i64 a3, .func (.func 12) #[] #[]] w fun e w' => e = .returned (.tuple #[]) ∧ Kd.R Kd.string 9 w' w0.heap.size (fun k_ => (P0_ k_ ∨ w.heap.size ≤ k_)) u9000_ r ∧ Below w0.heap.size w0 w' ∧ Kept w w' (fun k_ => P0_ k_) := by
  intros
  rename_i h
  exact absurd h (by simp [slices_symMergeCmpFunc_string.f])


end Go.Proofs.YtfbadcjojkgibaaDoor.N
