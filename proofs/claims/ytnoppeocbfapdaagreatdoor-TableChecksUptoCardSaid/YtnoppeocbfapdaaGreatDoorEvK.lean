import Derived.Test.YtnoppeocbfapdaaGreatDoorEvI
import Derived.KernelRfl
/-! What the evaluator takes for granted holds of this program. -/
namespace Go.Ev
open Go Go.Proofs
set_option maxRecDepth 100000
theorem ng_all : (Tryz.prog.funcs.toList.all fun fn => !(fn.name == "runtime.NumGoroutine")) = true := by kernel_rfl
theorem ne_name : ((Tryz.prog.funcs[127]?).map fun fn => (fn.name == "internal/abi.NoEscape" && fn.origin == "" && fn.body.isNone)) = some true := by kernel_rfl
theorem nz_name : ((Tryz.prog.funcs[162]?).map fun fn => (fn.name == "internal/bytealg.MakeNoZero" && fn.origin == "" && fn.body.isNone && fn.resultTypes.size == 1)) = some true := by kernel_rfl
theorem nx1 (fn : Func) (h1 : fn.name = "internal/abi.NoEscape") (h2 : fn.origin = "") : Extern.findNext fn = none := by
  unfold Extern.findNext; rw [h1, h2]; rfl
theorem nx2 (fn : Func) (h1 : fn.name = "internal/bytealg.MakeNoZero") (h2 : fn.origin = "") : Extern.findNext fn = none := by
  unfold Extern.findNext; rw [h1, h2]; rfl
theorem fx1 (fn : Func) (h1 : fn.name = "internal/abi.NoEscape") : Extern.find fn = some Extern.AbiNoEscape.same := by
  unfold Extern.find; rw [h1]; rfl
theorem fx2 (fn : Func) (h1 : fn.name = "internal/bytealg.MakeNoZero") : Extern.find fn = some (Extern.BytealgMakeNoZero.makeNoZero fn.params fn.resultTypes) := by
  unfold Extern.find; rw [h1]; rfl
theorem po : PO Tryz.prog := by
  refine ⟨fun f fn hf => ?_, fun x w => ?_, ?_⟩
  · have := List.all_eq_true.1 ng_all fn (by
      have := Array.mem_of_getElem? hf
      simpa using this)
    simpa using this
  · cases hf : Tryz.prog.funcs[127]? with
    | none => have := ne_name; rw [hf] at this; cases this
    | some fn =>
      have hn := ne_name
      rw [hf] at hn
      simp at hn
      obtain ⟨⟨h1, h2⟩, h3⟩ := hn
      have hng : fn.name ≠ "runtime.NumGoroutine" := by rw [h1]; decide
      have hf' : Tryz.prog.funcs[fNoEscape]? = some fn := hf
      simp [callFunc, hf', hng, h3, nx1 fn h1 h2, fx1 fn h1, Lib.run_noEscape, Result.andThen]
  · cases hf : Tryz.prog.funcs[162]? with
    | none => have := nz_name; rw [hf] at this; cases this
    | some fn =>
      have hn := nz_name
      rw [hf] at hn
      simp at hn
      obtain ⟨⟨⟨h1, h2⟩, h3⟩, h4⟩ := hn
      have hng : fn.name ≠ "runtime.NumGoroutine" := by rw [h1]; decide
      have hf' : Tryz.prog.funcs[fMakeNoZero]? = some fn := hf
      have hr : fn.resultTypes = #[fn.resultTypes[0]] := by
        apply Array.ext
        · simp [h4]
        · intro i h5 h6
          have : i = 0 := by omega
          subst this; rfl
      refine ⟨fn.params, fn.resultTypes[0], ?_, fun x w v w' hrun => ?_⟩
      · rw [hf']; simp [h4]
      · rw [hr.symm] at hrun
        simp [callFunc, hf', hng, h3, nx2 fn h1 h2, fx2 fn h1, hrun, Result.andThen]
end Go.Ev
