/- endonym/endonymlaw6.TableChecks: with the listed tables laid, for every input whose bulk (values and letters, each time it is reached) is at most 1048576 the law returns true, and each argument reads behind the call as it read before. Conditions: the bulk's bound alone. -/
import Derived.Test.YtnoppeocbfapdaaGreatDoorCards
import Derived.Test.YtnoppeocbfapdaaGreatDoorTie
import Derived.Test.YtnoppeocbfapdaaGreatDoorUptoRec
import Derived.Test.YtnoppeocbfapdaaGreatDoorTx24
import Derived.Test.YtnoppeocbfapdaaGreatDoorPureTableChecks
import Derived.WalkKit
import Derived.ProofKit
import Derived.OpenShut
import Derived.ShutString
import Derived.ChangeOld
import Derived.Below
import Derived.JoinedCond
import Derived.Deep.DeepHandedRow
import Derived.Lib.LaidTab
import Derived.Stop.LaidErr
import Derived.KernelRfl
import Derived.Test.YtnoppeocbfapdaaGreatDoorTabEv
namespace Go.Proofs.YtnoppeocbfapdaaGreatDoor.tableChecksUp
open Go.ChangeShapes Go.WideShapes Go.ChangeAt Go.RowKit
open Go.ChangeMaps (open_string shut_string)
theorem own : ownKnob Tryz.prog.godebug = none := by kernel_rfl
theorem laidOut : laidOutB Tryz.prog = true := by kernel_rfl
set_option maxRecDepth 100000
def cellOf {H : Type} : DataW H → Value
  | .lit (.int k z) => Value.int k z
  | _ => Value.bool false
def cellsOf {H : Type} : DataW H → List Value
  | .agg l => l.map cellOf
  | d => [cellOf d]
def cellsIn {H : Type} : DataW H → Array Value
  | .agg l => (l.flatMap cellsOf).toArray
  | _ => #[]
noncomputable def laidWorld (os : Os) : World :=
  { World.holding Tryz.prog os ⟨#[], #[], []⟩ with heap := ((((World.holding Tryz.prog os ⟨#[], #[], []⟩).heap).modify ((Tryz.prog.globalNamed "math/bits.deBruijn32tab").getD 0) fun | .cells _ t frozen => .cells (cellsIn (H := Unit) Rows.laid_math_bits_deBruijn32tab) t frozen | o => o).modify ((Tryz.prog.globalNamed "math/bits.deBruijn64tab").getD 0) fun | .cells _ t frozen => .cells (cellsIn (H := Unit) Rows.laid_math_bits_deBruijn64tab) t frozen | o => o).modify ((Tryz.prog.globalNamed "internal/strconv.uint64pow10").getD 0) fun | .cells _ t frozen => .cells (cellsIn (H := Unit) Rows.laid_internal_strconv_uint64pow10) t frozen | o => o }
theorem laid_met (os : Os) : laidMet Tryz.prog Rows.tableChecksUptoRow.laid ((laidWorld os).forCall (fun _ _ => 0) ⟨#[], #[.slice none 0 0], []⟩).memory :=
  laidMet_of_run' 8 (by kernel_rfl) (by kernel_rfl)
theorem reads (os : Os) {H : Type} (enc : TypeId × Value → H) : ∃ places, DataW.whole enc Tryz.prog ((laidWorld os).forCall (fun _ _ => 0) ⟨#[], #[.slice none 0 0], []⟩).memory Tryz.f4.params.toList Rows.tableChecksSpec.vars false #[.slice none 0 0].toList 8 = some ([.nil], [], places) :=
  ⟨[], by kernel_rfl⟩
theorem table {W : World} (h : laidMetH Tryz.prog Rows.tableChecksUptoRow.laid W) (hs : W.ShapedOpen Tryz.prog) : Go.Proofs.YtnoppeocbfapdaaGreatDoorW.PrintWords.Aside0 (Rm.Tab W) :=
  ⟨Go.Ev.PowTab.of_row (Lib.tabIs_of_head (rest := []) (g := 2) (t := 200) (e := 71) (n := 20) (by kernel_rfl) (by kernel_rfl) (by kernel_rfl) (by kernel_rfl) (by kernel_rfl) (by kernel_rfl) (laidMet.tail (laidMet.tail (h)))) hs⟩
theorem lifted (os : Os) (started : os.Started) (H : Type) (enc : TypeId × Value → H) (F : Stop.Interp) :
    ReturnsInHanded {} Tryz.checked os 4 .any ((Rows.OpenSpec.upto Rows.tableChecksSpec).preRow enc Tryz.prog Tryz.f4 Rows.tableChecksUptoRow.domain false Rows.tableChecksUptoRow.laid) (((Rows.OpenSpec.upto Rows.tableChecksSpec).at F).post enc Tryz.prog Tryz.f4 false true false false) := by
  obtain ⟨places, hx⟩ := reads os enc
  refine returnsInHanded_of_row (C := Tryz.checked) (s := Rows.OpenSpec.upto Rows.tableChecksSpec) own started (by kernel_rfl) Tryz.func4
    (witness_row_at (enc := enc) (C := Tryz.checked) false (laidWorld os) #[.slice none 0 0] rfl (by kernel_rfl) (by kernel_rfl) (by kernel_rfl)
      (OpenSpec.preRow_of_cond 8 hx (by kernel_rfl) (fun k hk => by cases hk; kernel_rfl) (by kernel_rfl) (laid_met os))) ?_
  intro W base args ds gs before hval0 hW _ hcond _ hL hS _
  have hk := hcond _ rfl
  have hval : ∀ (j : Nat) t v, Tryz.f4.params[j]? = some t → args[j]? = some v → Value.okWide Tryz.prog W .any base t v := hval0
  have hW' := hW
  obtain ⟨p, q, hA0, hV, rfl, hfz, hnd⟩ := hW
  have hA : DataW.TrodAll enc Tryz.prog W 0 (fun _ => true) true Tryz.f4.params.toList args.toList ds p := hA0
  rw [Tryz.params4] at hA hval
  obtain ⟨v0, vs0, d0, ds0, p0, q0, hargs, rfl, rfl, h0, r0⟩ := trodAll_cons hA
  obtain ⟨rfl, rfl, rfl⟩ := trodAll_nil r0
  obtain rfl : args = #[v0] := by cases args; simp_all
  obtain ⟨rfl, rfl⟩ := trodVars_none hV
  obtain ⟨a0, len0, cap0, rfl⟩ := okWide_slice Tryz.underlying26 (hval 0 26 v0 rfl rfl)
  have k0 := h0
  have lt0 : ∀ x ∈ p0, x.block < W.heap.size := by obtain ⟨m, hm⟩ := k0; exact DataW.trod_lt m _ _ _ hm
  obtain ⟨fuel0, hf0⟩ := h0
  obtain ⟨l0, rfl, hr0, hc0, w0, b0⟩ := Upto.recs hf0
  have hb := Upto.bound hk
  simp only [List.append_nil, Rows.uptoBulkAll] at hb
  clear hA0 hval0 hk
  have hb' : (l0.map fun x => x.f4.length + x.f5.size + x.f6.size + 1).sum ≤ 1048576 := by omega
  obtain ⟨k, h⟩ := Pure.TableChecks l0 w0 hb'
  refine (T.endonymlaw6_TableChecks.calls k _ _ l0 true W (table hL hS) hr0 hc0 h).mono fun e W' ⟨he, bel0⟩ => ?_
  have bel : Below W.heap.size W W' := bel0
  subst he
  exact ⟨_, rfl, _, _, _, [], _, [], hW', trodAll_mk1 (shut_bool Tryz.underlying4 _), (trodAll_cons_mk (Below.trod laidOut (by kernel_rfl) (of_decide_eq_true (by kernel_rfl)) k0 bel lt0) trodAll_mk0), rfl, bel.frame _, fun h => by cases h⟩
theorem over : Rows.tableChecksUptoRow.holds Tryz.pinned (Rows.OpenSpec.upto Rows.tableChecksSpec) :=
  OpenClaim.holds_of_cond 4 Tryz.f4 rfl rfl rfl rfl rfl rfl rfl ⟨rfl, rfl, rfl, rfl, rfl⟩ rfl rfl rfl rfl rfl (by kernel_rfl) Tryz.func4 (by kernel_rfl)
    (of_decide_eq_true (by kernel_rfl)) (by unfold Func.isWrapper; first | (rw [if_pos (by decide +kernel)]; kernel_rfl) | (rw [if_neg (by decide +kernel)]; exact ⟨rfl, rfl⟩))
    (fun os started H enc _ F => by rw [OpenClaim.pre_eq_preRow]; exact lifted os started H enc F)
theorem plain (f : FuncId) (fn : Func) (hf : Tryz.pinned.checked.prog.funcNamed "endonym/endonymlaw6.TableChecks" = some f) (hfn : Tryz.pinned.checked.prog.funcs[f]? = some fn) :
    false = Tryz.pinned.checked.prog.looks [] ∧ ∀ (j : Nat) t, fn.params[j]? = some t → Tryz.pinned.checked.prog.wantsStandIn t = false := by
  obtain rfl : f = 4 := Option.some.inj ((show Tryz.prog.funcNamed "endonym/endonymlaw6.TableChecks" = some 4 by kernel_rfl).symm.trans hf) |>.symm
  obtain rfl : fn = Tryz.f4 := (Option.some.inj (Tryz.func4.symm.trans hfn)).symm
  refine ⟨by kernel_rfl, fun j t ht => ?_⟩
  rw [Tryz.params4] at ht
  have hm := Array.mem_of_getElem? ht
  rcases (show t = 26 by simpa using hm) with rfl
  exact (show Tryz.prog.wantsStandIn 26 = false by kernel_rfl)
theorem card : Rows.TableChecksUptoCardSaid :=
  Claim7.holds_tied_plain_at .later [] _ _ _ _ over (fun _ h => by cases h) (by kernel_rfl) (fun _ h => by cases h) tableChecksUpto_row_tie rfl ⟨rfl, rfl⟩ (by kernel_rfl) rfl plain (by kernel_rfl)
end Go.Proofs.YtnoppeocbfapdaaGreatDoor.tableChecksUp
namespace Go.Proofs.YtnoppeocbfapdaaGreatDoor
/-- The law, where the bulk of what it reads is bounded. -/
theorem tableChecks_uptoCard : Rows.TableChecksUptoCardSaid := tableChecksUp.card
#print axioms tableChecks_uptoCard
end Go.Proofs.YtnoppeocbfapdaaGreatDoor
