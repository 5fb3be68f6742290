import Derived.Test.YtnoppeocbfapdaaGreatDoorFlt
import Derived.Laws.Externs
/-! What the functions of package math that have no body answer, as plain functions of bits. -/
namespace Go.Proofs.YtnoppeocbfapdaaGreatDoor.Rm
open Go.RowKit Go.Proofs.YtnoppeocbfapdaaGreatDoorW.PrintWords
set_option linter.unusedVariables false
theorem x_Float64bits (x : Nat) (w : World) : (callFunc 90 #[.float .f64 x]).run Tryz.prog w = .ok (.value (.int .u64 ((x : Nat) : Int))) w := by
  rw [run_callFunc_extern Tryz.func90 (by kernel_rfl) (by kernel_rfl) (by kernel_rfl) (e := Extern.MathFloatBits.float64bits) (by kernel_rfl)]
  rfl
def archFloorP (x : Nat) : Option Nat :=
  match FloatKind.f64.decode x with
  | .nan _ _ => none
  | d => some (FloatKind.f64.encode (d.integral .down))
/-- math.archLog's steps, over any way to reckon. -/
def logG {m : Type → Type} [Monad m] {β : Type} (op : BinOp → Nat → Nat → m Nat) (ret : Nat → m β) (small : Bool) (K x : Nat) : m β :=
  (op .sub K (if small then 0x3FF0000000000000 else 0)) >>= fun k1 =>
  (op .add (if small then 0x3FF0000000000000 else 0) 0x3FF0000000000000) >>= fun g =>
  (op .mul (x % 2 ^ 52 + 0x3FE0000000000000) g) >>= fun f1 =>
  (op .sub f1 0x3FF0000000000000) >>= fun f =>
  (op .add 0x4000000000000000 f) >>= fun d =>
  (op .quo f d) >>= fun s =>
  (op .mul s s) >>= fun s2 =>
  (op .mul s2 s2) >>= fun s4 =>
  (op .mul 0x3FC2F112DF3E5244 s4) >>= fun a1 =>
  (op .add a1 0x3FC7466496CB03DE) >>= fun a2 =>
  (op .mul a2 s4) >>= fun a3 =>
  (op .add a3 0x3FD2492494229359) >>= fun a4 =>
  (op .mul a4 s4) >>= fun a5 =>
  (op .add a5 0x3FE5555555555593) >>= fun a6 =>
  (op .mul s2 a6) >>= fun t1 =>
  (op .mul 0x3FC39A09D078C69F s4) >>= fun b1 =>
  (op .add b1 0x3FCC71C51D8E78AF) >>= fun b2 =>
  (op .mul b2 s4) >>= fun b3 =>
  (op .add b3 0x3FD999999997FA04) >>= fun b4 =>
  (op .mul s4 b4) >>= fun t2 =>
  (op .add t1 t2) >>= fun r =>
  (op .mul 0x3FE0000000000000 f) >>= fun h1 =>
  (op .mul h1 f) >>= fun hfsq =>
  (op .add r hfsq) >>= fun c1 =>
  (op .mul s c1) >>= fun c2 =>
  (op .mul 0x3DEA39EF35793C76 k1) >>= fun c3 =>
  (op .add c2 c3) >>= fun inner =>
  (op .mul k1 0x3FE62E42FEE00000) >>= fun e1 =>
  (op .sub hfsq inner) >>= fun e2 =>
  (op .sub e2 f) >>= fun e3 =>
  (op .sub e1 e3) >>= fun e4 =>
  ret e4
def logSmall (x : Nat) : Bool := !(FloatKind.f64.format.order 0x3FE6A09E667F3BCD (x % 2 ^ 52 + 0x3FE0000000000000) == some .lt)
def logK (x : Nat) : Nat := FloatKind.f64.nearest (Int.ofNat (x / 2 ^ 52) - 0x3FE)
/-- math.archLog, as the model has it, of a number above 0. -/
def archLogP (x : Nat) : Option Nat :=
  if (x % 2 ^ 63 == 0) = true ∨ x ≥ 2 ^ 63 ∨ x ≥ 0x7FF0000000000000 then none else logG (fun o a b => floatBits o .f64 a b) some (logSmall x) (logK x) x
end Go.Proofs.YtnoppeocbfapdaaGreatDoor.Rm
