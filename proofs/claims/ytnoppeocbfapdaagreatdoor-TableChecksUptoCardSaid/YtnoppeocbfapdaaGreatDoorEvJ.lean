import Derived.Test.YtnoppeocbfapdaaGreatDoorEvG
/-! The evaluator is sound: operations that read no memory. -/
namespace Go.Ev
open Go Go.RowKit
set_option linter.unusedVariables false
set_option linter.unusedSimpArgs false
theorem run_still_any {P : Program} {o : Oper} (hq : quietB P o.op = true) {a : Act} {w : World} {v : Value} (h : (execOp a.eval o).run P w = .ok (.value v) w) : ∀ w', (execOp a.eval o).run P w' = .ok (.value v) w' := by
  intro w'
  cases ho : o.op with
  | move x => simp [execOp, ho] at h ⊢; exact h
  | pick c x y =>
    cases hc : a.eval c with
    | bool b => simp [execOp, ho, hc, asBool] at h ⊢; exact h
    | _ => simp [execOp, ho, hc, asBool] at h
  | extract x i =>
    cases hc : a.eval x with
    | tuple vs =>
      cases hi : vs[i]? with
      | none => simp [execOp, ho, hc, Instr.extract, hi] at h
      | some y => simp [execOp, ho, hc, Instr.extract, hi, Result.andThen] at h ⊢; exact h
    | _ => simp [execOp, ho, hc, Instr.extract] at h
  | fieldAddr s x f =>
    rw [ho] at hq
    cases hu : P.underlying s with
    | none => simp [quietB, fieldB, hu] at hq
    | some d =>
      cases d with
      | struct fs =>
        cases hf : fs[f]? with
        | none => simp [quietB, fieldB, hu, hf] at hq
        | some fd =>
          cases hi : P.info? fd.type with
          | none => simp [quietB, fieldB, hu, hf, sizeB, hi] at hq
          | some j =>
            have hz : j.size ≠ 0 := by
              have hq2 : j.size.beq 0 = false := by simpa [quietB, fieldB, hu, hf, sizeB, hi] using hq
              intro e; rw [e] at hq2; simp at hq2
            cases hx : a.eval x with
            | pointer ad => cases ad with
              | none => simp [execOp, ho, hx, Instr.fieldAt, run_underlying hu, hf, Instr.sureAddr] at h
              | some ad => simp [execOp, ho, hx, Instr.fieldAt, run_underlying hu, hf, Instr.sureAddr, fieldPlace, sizeOf, typeInfo, hi, hz, Result.andThen] at h ⊢; exact h
            | _ => simp [execOp, ho, hx, Instr.fieldAt, run_underlying hu, hf, Instr.sureAddr] at h
      | _ => simp [quietB, fieldB, hu] at hq
  | _ => rw [ho] at hq; simp [quietB, quietK] at hq
theorem quiet_val {P : Program} {o : Oper} (hq : quietB P o.op = true) {a : Act} {w : World} (h : o.still P a w (fun _ => True)) : ∃ v, (execOp a.eval o).run P w = .ok (.value v) w := by
  unfold Oper.still at h
  cases ho : o.op with
  | move x => exact ⟨a.eval x, by simp [execOp, ho]⟩
  | pick c x y =>
    cases hc : a.eval c with
    | bool b => exact ⟨_, by simp [execOp, ho, hc, asBool]; rfl⟩
    | _ => simp [execOp, ho, hc, asBool, Oper.stillUpon] at h
  | extract x i =>
    cases hc : a.eval x with
    | tuple vs =>
      cases hi : vs[i]? with
      | none => simp [execOp, ho, hc, Instr.extract, hi, Oper.stillUpon] at h
      | some y => exact ⟨y, by simp [execOp, ho, hc, Instr.extract, hi, Result.andThen]⟩
    | _ => simp [execOp, ho, hc, Instr.extract, Oper.stillUpon] at h
  | fieldAddr s x f =>
    rw [ho] at hq
    cases hu : P.underlying s with
    | none => simp [quietB, fieldB, hu] at hq
    | some d =>
      cases d with
      | struct fs =>
        cases hf : fs[f]? with
        | none => simp [quietB, fieldB, hu, hf] at hq
        | some fd =>
          cases hi : P.info? fd.type with
          | none => simp [quietB, fieldB, hu, hf, sizeB, hi] at hq
          | some j =>
            have hz : j.size ≠ 0 := by
              have hq2 : j.size.beq 0 = false := by simpa [quietB, fieldB, hu, hf, sizeB, hi] using hq
              intro e; rw [e] at hq2; simp at hq2
            cases hx : a.eval x with
            | pointer ad => cases ad with
              | none => simp [execOp, ho, hx, Instr.fieldAt, run_underlying hu, hf, Instr.sureAddr, Oper.stillUpon] at h
              | some ad => exact ⟨.pointer (some (ad.add fd.offset)), by simp [execOp, ho, hx, Instr.fieldAt, run_underlying hu, hf, Instr.sureAddr, fieldPlace, sizeOf, typeInfo, hi, hz, Result.andThen]⟩
            | _ => simp [execOp, ho, hx, Instr.fieldAt, run_underlying hu, hf, Instr.sureAddr, Oper.stillUpon] at h
      | _ => simp [quietB, fieldB, hu] at hq
  | _ => rw [ho] at hq; simp [quietB, quietK] at hq
theorem quiet_still {P : Program} {o : Op} (h : quietB P o = true) : stillK o = true := by cases o <;> first | rfl | (simp [quietB, quietK] at h)
end Go.Ev
