import Derived.Test.YtnoppeocbfapdaaGreatDoorFlt
import Derived.Laws.Externs
/-! What the functions of package math that have no body answer, as plain functions of bits. -/
namespace Go.Proofs.YtnoppeocbfapdaaGreatDoor.Rm
open Go.RowKit Go.Proofs.YtnoppeocbfapdaaGreatDoorW.PrintWords
set_option linter.unusedVariables false
theorem x_Float64bits (x : Nat) (w : World) : (callFunc 90 #[.float .f64 x]).run Tryz.prog w = .ok (.value (.int .u64 ((x : Nat) : Int))) w := by
  rw [run_callFunc_extern Tryz.func90 (by kernel_rfl) (by kernel_rfl) (by kernel_rfl) (e := Extern.MathFloatBits.float64bits) (by kernel_rfl)]
  rfl
theorem x_Float64frombits (x : Int) (w : World) : (callFunc 147 #[.int .u64 x]).run Tryz.prog w = .ok (.value (.float .f64 x.toNat)) w := by
  rw [run_callFunc_extern Tryz.func147 (by kernel_rfl) (by kernel_rfl) (by kernel_rfl) (e := Extern.MathFloatBits.float64frombits) (by kernel_rfl)]
  rfl
def archFloorP (x : Nat) : Option Nat :=
  match FloatKind.f64.decode x with
  | .nan _ _ => none
  | d => some (FloatKind.f64.encode (d.integral .down))
theorem floor_run {P : Program} (x r : Nat) (h : archFloorP x = some r) (w : World) : (Extern.MathFloor.toIntegral "math.archFloor" .down #[.float .f64 x]).run P w = .ok (.float .f64 r) w := by
  unfold archFloorP at h
  have e : ∀ d, FloatKind.f64.decode x = d → (∀ s t, d ≠ .nan s t) → Extern.MathFloor.toIntegral "math.archFloor" .down #[.float .f64 x] = (pure (Value.float .f64 (FloatKind.f64.encode (d.integral .down))) : Sem Value) := by
    intro d hd hn
    show (match FloatKind.f64.decode x with | .nan s t => _ | d => _) = _
    rw [hd]
    cases d with
    | nan s t => exact absurd rfl (hn s t)
    | infinity s => rfl
    | number s m e => rfl
  cases hd : FloatKind.f64.decode x with
  | nan s t => rw [hd] at h; exact absurd h (by simp)
  | infinity s =>
    rw [hd] at h
    obtain rfl := Option.some.inj h
    rw [e _ hd (by simp)]
    rfl
  | number s m q =>
    rw [hd] at h
    obtain rfl := Option.some.inj h
    rw [e _ hd (by simp)]
    rfl
theorem x_archFloor (x r : Nat) (h : archFloorP x = some r) (w : World) : (callFunc 106 #[.float .f64 x]).run Tryz.prog w = .ok (.value (.float .f64 r)) w := by
  rw [run_callFunc_extern Tryz.func106 (by kernel_rfl) (by kernel_rfl) (by kernel_rfl) (e := Extern.MathFloor.toIntegral "math.archFloor" .down) (by kernel_rfl), floor_run x r h]
  rfl
theorem marith {P : Program} {op : BinOp} {x y r : Nat} (h : floatBits op .f64 x y = some r) (w : World) : (Extern.MathAsm.arith op x y).run P w = .ok r w := by
  unfold floatBits at h
  cases op <;> simp only at h <;> first | (cases h; done) | skip
  all_goals simp [Extern.MathAsm.arith, Op.floatArith, h]
theorem marith_bind {P : Program} {β : Type} {op : BinOp} {x y r : Nat} (h : floatBits op .f64 x y = some r) (f : Nat → Sem β) (w : World) : (Extern.MathAsm.arith op x y >>= f).run P w = (f r).run P w := by
  have := marith (P := P) h w
  simp [Sem.run_bind, this]
/-- math.archLog's steps, over any way to reckon. -/
def logG {m : Type → Type} [Monad m] {β : Type} (op : BinOp → Nat → Nat → m Nat) (ret : Nat → m β) (small : Bool) (K x : Nat) : m β :=
  (op .sub K (if small then 0x3FF0000000000000 else 0)) >>= fun k1 =>
  (op .add (if small then 0x3FF0000000000000 else 0) 0x3FF0000000000000) >>= fun g =>
  (op .mul (x % 2 ^ 52 + 0x3FE0000000000000) g) >>= fun f1 =>
  (op .sub f1 0x3FF0000000000000) >>= fun f =>
  (op .add 0x4000000000000000 f) >>= fun d =>
  (op .quo f d) >>= fun s =>
  (op .mul s s) >>= fun s2 =>
  (op .mul s2 s2) >>= fun s4 =>
  (op .mul 0x3FC2F112DF3E5244 s4) >>= fun a1 =>
  (op .add a1 0x3FC7466496CB03DE) >>= fun a2 =>
  (op .mul a2 s4) >>= fun a3 =>
  (op .add a3 0x3FD2492494229359) >>= fun a4 =>
  (op .mul a4 s4) >>= fun a5 =>
  (op .add a5 0x3FE5555555555593) >>= fun a6 =>
  (op .mul s2 a6) >>= fun t1 =>
  (op .mul 0x3FC39A09D078C69F s4) >>= fun b1 =>
  (op .add b1 0x3FCC71C51D8E78AF) >>= fun b2 =>
  (op .mul b2 s4) >>= fun b3 =>
  (op .add b3 0x3FD999999997FA04) >>= fun b4 =>
  (op .mul s4 b4) >>= fun t2 =>
  (op .add t1 t2) >>= fun r =>
  (op .mul 0x3FE0000000000000 f) >>= fun h1 =>
  (op .mul h1 f) >>= fun hfsq =>
  (op .add r hfsq) >>= fun c1 =>
  (op .mul s c1) >>= fun c2 =>
  (op .mul 0x3DEA39EF35793C76 k1) >>= fun c3 =>
  (op .add c2 c3) >>= fun inner =>
  (op .mul k1 0x3FE62E42FEE00000) >>= fun e1 =>
  (op .sub hfsq inner) >>= fun e2 =>
  (op .sub e2 f) >>= fun e3 =>
  (op .sub e1 e3) >>= fun e4 =>
  ret e4
def logSmall (x : Nat) : Bool := !(FloatKind.f64.format.order 0x3FE6A09E667F3BCD (x % 2 ^ 52 + 0x3FE0000000000000) == some .lt)
def logK (x : Nat) : Nat := FloatKind.f64.nearest (Int.ofNat (x / 2 ^ 52) - 0x3FE)
/-- math.archLog, as the model has it, of a number above 0. -/
def archLogP (x : Nat) : Option Nat :=
  if (x % 2 ^ 63 == 0) = true ∨ x ≥ 2 ^ 63 ∨ x ≥ 0x7FF0000000000000 then none else logG (fun o a b => floatBits o .f64 a b) some (logSmall x) (logK x) x
set_option maxHeartbeats 4000000 in
theorem logG_run {P : Program} (ret : Nat → Sem Value) (small : Bool) (K x res : Nat) (w : World) (h : logG (fun o a b => floatBits o .f64 a b) some small K x = some res) :
    (logG (fun o a b => Extern.MathAsm.arith o a b) ret small K x).run P w = (ret res).run P w := by
  have hop : ∀ (o : BinOp) (a b c : Nat), floatBits o .f64 a b = some c → ∀ (F : Nat → Sem Value), ((Extern.MathAsm.arith o a b) >>= F).run P w = (F c).run P w := fun o a b c hq F => marith_bind hq F w
  unfold logG at h ⊢
  obtain ⟨k1, q0, h⟩ := Option.bind_eq_some_iff.mp h
  rw [hop _ _ _ _ q0]
  obtain ⟨g, q1, h⟩ := Option.bind_eq_some_iff.mp h
  rw [hop _ _ _ _ q1]
  obtain ⟨f1, q2, h⟩ := Option.bind_eq_some_iff.mp h
  rw [hop _ _ _ _ q2]
  obtain ⟨f, q3, h⟩ := Option.bind_eq_some_iff.mp h
  rw [hop _ _ _ _ q3]
  obtain ⟨d, q4, h⟩ := Option.bind_eq_some_iff.mp h
  rw [hop _ _ _ _ q4]
  obtain ⟨s, q5, h⟩ := Option.bind_eq_some_iff.mp h
  rw [hop _ _ _ _ q5]
  obtain ⟨s2, q6, h⟩ := Option.bind_eq_some_iff.mp h
  rw [hop _ _ _ _ q6]
  obtain ⟨s4, q7, h⟩ := Option.bind_eq_some_iff.mp h
  rw [hop _ _ _ _ q7]
  obtain ⟨a1, q8, h⟩ := Option.bind_eq_some_iff.mp h
  rw [hop _ _ _ _ q8]
  obtain ⟨a2, q9, h⟩ := Option.bind_eq_some_iff.mp h
  rw [hop _ _ _ _ q9]
  obtain ⟨a3, q10, h⟩ := Option.bind_eq_some_iff.mp h
  rw [hop _ _ _ _ q10]
  obtain ⟨a4, q11, h⟩ := Option.bind_eq_some_iff.mp h
  rw [hop _ _ _ _ q11]
  obtain ⟨a5, q12, h⟩ := Option.bind_eq_some_iff.mp h
  rw [hop _ _ _ _ q12]
  obtain ⟨a6, q13, h⟩ := Option.bind_eq_some_iff.mp h
  rw [hop _ _ _ _ q13]
  obtain ⟨t1, q14, h⟩ := Option.bind_eq_some_iff.mp h
  rw [hop _ _ _ _ q14]
  obtain ⟨b1, q15, h⟩ := Option.bind_eq_some_iff.mp h
  rw [hop _ _ _ _ q15]
  obtain ⟨b2, q16, h⟩ := Option.bind_eq_some_iff.mp h
  rw [hop _ _ _ _ q16]
  obtain ⟨b3, q17, h⟩ := Option.bind_eq_some_iff.mp h
  rw [hop _ _ _ _ q17]
  obtain ⟨b4, q18, h⟩ := Option.bind_eq_some_iff.mp h
  rw [hop _ _ _ _ q18]
  obtain ⟨t2, q19, h⟩ := Option.bind_eq_some_iff.mp h
  rw [hop _ _ _ _ q19]
  obtain ⟨r, q20, h⟩ := Option.bind_eq_some_iff.mp h
  rw [hop _ _ _ _ q20]
  obtain ⟨h1, q21, h⟩ := Option.bind_eq_some_iff.mp h
  rw [hop _ _ _ _ q21]
  obtain ⟨hfsq, q22, h⟩ := Option.bind_eq_some_iff.mp h
  rw [hop _ _ _ _ q22]
  obtain ⟨c1, q23, h⟩ := Option.bind_eq_some_iff.mp h
  rw [hop _ _ _ _ q23]
  obtain ⟨c2, q24, h⟩ := Option.bind_eq_some_iff.mp h
  rw [hop _ _ _ _ q24]
  obtain ⟨c3, q25, h⟩ := Option.bind_eq_some_iff.mp h
  rw [hop _ _ _ _ q25]
  obtain ⟨inner, q26, h⟩ := Option.bind_eq_some_iff.mp h
  rw [hop _ _ _ _ q26]
  obtain ⟨e1, q27, h⟩ := Option.bind_eq_some_iff.mp h
  rw [hop _ _ _ _ q27]
  obtain ⟨e2, q28, h⟩ := Option.bind_eq_some_iff.mp h
  rw [hop _ _ _ _ q28]
  obtain ⟨e3, q29, h⟩ := Option.bind_eq_some_iff.mp h
  rw [hop _ _ _ _ q29]
  obtain ⟨e4, q30, h⟩ := Option.bind_eq_some_iff.mp h
  rw [hop _ _ _ _ q30]
  obtain rfl := Option.some.inj h
  rfl
theorem run_archLog {P : Program} (x r : Nat) (h : archLogP x = some r) (w : World) : (Extern.MathLog.archLog #[.float .f64 x]).run P w = .ok (.float .f64 r) w := by
  unfold archLogP at h
  by_cases hc : (x % 2 ^ 63 == 0) = true ∨ x ≥ 2 ^ 63 ∨ x ≥ 0x7FF0000000000000
  · rw [if_pos hc] at h; exact absurd h (by simp)
  · rw [if_neg hc] at h
    have h1 : ¬ (x % 2 ^ 63 == 0) = true := fun e => hc (.inl e)
    have h2 : ¬ x ≥ 2 ^ 63 := fun e => hc (.inr (.inl e))
    have h3 : ¬ x ≥ Extern.MathAsm.posInf := fun e => hc (.inr (.inr e))
    have e : Extern.MathLog.archLog #[.float .f64 x] = logG (fun o a b => Extern.MathAsm.arith o a b) (fun r => pure (.float .f64 r)) (logSmall x) (logK x) x := by
      show (if (x % 2 ^ 63 == 0) = true then _ else if x ≥ 2 ^ 63 then _ else if x ≥ Extern.MathAsm.posInf then _ else _) = _
      rw [if_neg h1, if_neg h2, if_neg h3]
      rfl
    rw [e, logG_run _ _ _ _ _ w h]
    rfl
theorem x_archLog (x r : Nat) (h : archLogP x = some r) (w : World) : (callFunc 180 #[.float .f64 x]).run Tryz.prog w = .ok (.value (.float .f64 r)) w := by
  rw [run_callFunc_extern Tryz.func180 (by kernel_rfl) (by kernel_rfl) (by kernel_rfl) (e := Extern.MathLog.archLog) (by kernel_rfl), run_archLog x r h]
  rfl
end Go.Proofs.YtnoppeocbfapdaaGreatDoor.Rm
