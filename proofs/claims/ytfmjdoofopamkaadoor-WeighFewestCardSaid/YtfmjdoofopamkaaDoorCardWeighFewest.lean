/- endonym/endonymlaw2.WeighFewest: with the listed tables laid, for every input the law returns true, and each argument reads behind the call as it read before. Conditions: the tables alone, which the card ties to the program's text. -/
import Derived.Test.YtfmjdoofopamkaaDoorCards
import Derived.Test.YtfmjdoofopamkaaDoorTie
import Derived.Test.YtfmjdoofopamkaaDoorWx12
import Derived.Test.YtfmjdoofopamkaaDoorPureWeighFewest
import Derived.WalkKit
import Derived.ProofKit
import Derived.OpenShut
import Derived.ShutString
import Derived.ChangeOld
import Derived.Below
import Derived.JoinedCond
import Derived.Deep.DeepHandedRow
import Derived.Lib.LaidTab
import Derived.Stop.LaidErr
import Derived.KernelRfl
import Derived.SizedLaws
import Derived.Test.YtfmjdoofopamkaaDoorItoaTab
namespace Go.Proofs.YtfmjdoofopamkaaDoor.weighFewestUp
open Go.ChangeShapes Go.WideShapes Go.ChangeAt Go.RowKit
open Go.ChangeMaps (open_string shut_string)
theorem own : ownKnob Tryd.prog.godebug = none := by kernel_rfl
set_option maxRecDepth 100000
def cellOf {H : Type} : DataW H → Value
  | .lit (.int k z) => Value.int k z
  | _ => Value.bool false
def cellsOf {H : Type} : DataW H → List Value
  | .agg l => l.map cellOf
  | d => [cellOf d]
def cellsIn {H : Type} : DataW H → Array Value
  | .agg l => (l.flatMap cellsOf).toArray
  | _ => #[]
noncomputable def laidWorld (os : Os) : World :=
  { World.holding Tryd.prog os ⟨#[], #[], []⟩ with heap := ((((World.holding Tryd.prog os ⟨#[], #[], []⟩).heap).modify ((Tryd.prog.globalNamed "math/bits.deBruijn32tab").getD 0) fun | .cells _ t frozen => .cells (cellsIn (H := Unit) Rows.laid_math_bits_deBruijn32tab) t frozen | o => o).modify ((Tryd.prog.globalNamed "math/bits.deBruijn64tab").getD 0) fun | .cells _ t frozen => .cells (cellsIn (H := Unit) Rows.laid_math_bits_deBruijn64tab) t frozen | o => o).modify ((Tryd.prog.globalNamed "internal/strconv.uint64pow10").getD 0) fun | .cells _ t frozen => .cells (cellsIn (H := Unit) Rows.laid_internal_strconv_uint64pow10) t frozen | o => o }
theorem laid_met (os : Os) : laidMet Tryd.prog Rows.weighFewestRow.laid ((laidWorld os).forCall (fun _ _ => 0) ⟨#[], #[.string ByteArray.empty], []⟩).memory :=
  laidMet_of_run' 8 (by kernel_rfl) (by kernel_rfl)
theorem reads (os : Os) {H : Type} (enc : TypeId × Value → H) : ∃ places, DataW.whole enc Tryd.prog ((laidWorld os).forCall (fun _ _ => 0) ⟨#[], #[.string ByteArray.empty], []⟩).memory Tryd.f7.params.toList Rows.weighFewestSpec.vars false #[.string ByteArray.empty].toList 8 = some ([.lit (.string [])], [], places) :=
  ⟨[], by kernel_rfl⟩
theorem table {W : World} (h : laidMetH Tryd.prog Rows.weighFewestRow.laid W) : Go.Proofs.YtfmjdoofopamkaaDoorW.PrintWords.Aside0 (Rm.Tab W) :=
  ⟨Lib.tabIs_of_head (rest := []) (g := 1) (t := 126) (e := 22) (n := 20) (by kernel_rfl) (by kernel_rfl) (by kernel_rfl) (by kernel_rfl) (by kernel_rfl) (by kernel_rfl) (laidMet.tail (laidMet.tail (h)))⟩
theorem lifted (os : Os) (started : os.Started) (H : Type) (enc : TypeId × Value → H) (F : Stop.Interp) :
    ReturnsInHanded {} Tryd.checked os 7 .any ((OpenSpec.ofChange Rows.weighFewestSpec).preRow enc Tryd.prog Tryd.f7 Rows.weighFewestRow.domain false Rows.weighFewestRow.laid) (((OpenSpec.ofChange Rows.weighFewestSpec).at F).post enc Tryd.prog Tryd.f7 false true false false) := by
  obtain ⟨places, hx⟩ := reads os enc
  refine returnsInHanded_of_row (C := Tryd.checked) (s := OpenSpec.ofChange Rows.weighFewestSpec) own started (by kernel_rfl) Tryd.func7
    (witness_row_at (enc := enc) (C := Tryd.checked) false (laidWorld os) #[.string ByteArray.empty] rfl (by kernel_rfl) (by kernel_rfl) (by kernel_rfl)
      (OpenSpec.preRow_of_cond 8 hx (by kernel_rfl) (fun k hk => by cases hk) (by kernel_rfl) (laid_met os))) ?_
  intro W base args ds gs before hval0 hW _ _ hz hL _ _
  have hval : ∀ (j : Nat) t v, Tryd.f7.params[j]? = some t → args[j]? = some v → Value.okWide Tryd.prog W .any base t v := hval0
  have hW' := hW
  obtain ⟨p, q, hA0, hV, rfl, hfz, hnd⟩ := hW
  have hA : DataW.TrodAll enc Tryd.prog W 0 (fun _ => true) true Tryd.f7.params.toList args.toList ds p := hA0
  rw [Tryd.params7] at hA hval
  obtain ⟨v0, vs0, d0, ds0, p0, q0, hargs, rfl, rfl, h0, r0⟩ := trodAll_cons hA
  obtain ⟨rfl, rfl, rfl⟩ := trodAll_nil r0
  obtain rfl : args = #[v0] := by cases args; simp_all
  obtain ⟨rfl, rfl⟩ := trodVars_none hV
  obtain ⟨a0, rfl, rfl, rfl, y0⟩ := open_string Tryd.underlying9 (hval 0 9 v0 rfl rfl) h0
  clear hA0 hval0
  have hsz0 := sized_string hz (j := 0) (t := 9) (by kernel_rfl) rfl
  have hsz : a0.size ≤ 1152921504606846976 := by rw [Array.length_toList] at hsz0; unfold reachBytes at hsz0; exact Nat.le_trans hsz0 (by decide)
  obtain ⟨k, h⟩ := Pure.WeighFewest a0 hsz
  refine (Go.Proofs.YtfmjdoofopamkaaDoor.W.endonymlaw2_WeighFewest.calls k a0 true W (table hL) h).mono fun e W' ⟨he, bel0⟩ => ?_
  have bel : Below W.heap.size W W' := bel0
  subst he
  exact ⟨_, rfl, _, _, _, [], _, [], hW', trodAll_mk1 (shut_bool Tryd.underlying4 _), (trodAll_cons_mk (shut_string Tryd.underlying9 y0) trodAll_mk0), rfl, bel.frame _, fun h => by cases h⟩
theorem over : Rows.weighFewestRow.holds Tryd.pinned (OpenSpec.ofChange Rows.weighFewestSpec) :=
  OpenClaim.holds_of_cond 7 Tryd.f7 rfl rfl rfl rfl rfl rfl rfl ⟨rfl, rfl, rfl, rfl, rfl⟩ rfl rfl rfl rfl rfl (by kernel_rfl) Tryd.func7 (by kernel_rfl)
    (of_decide_eq_true (by kernel_rfl)) (by unfold Func.isWrapper; first | (rw [if_pos (by decide +kernel)]; kernel_rfl) | (rw [if_neg (by decide +kernel)]; exact ⟨rfl, rfl⟩))
    (fun os started H enc _ F => by rw [OpenClaim.pre_eq_preRow]; exact lifted os started H enc F)
theorem plain (f : FuncId) (fn : Func) (hf : Tryd.pinned.checked.prog.funcNamed "endonym/endonymlaw2.WeighFewest" = some f) (hfn : Tryd.pinned.checked.prog.funcs[f]? = some fn) :
    false = Tryd.pinned.checked.prog.looks [] ∧ ∀ (j : Nat) t, fn.params[j]? = some t → Tryd.pinned.checked.prog.wantsStandIn t = false := by
  obtain rfl : f = 7 := Option.some.inj ((show Tryd.prog.funcNamed "endonym/endonymlaw2.WeighFewest" = some 7 by kernel_rfl).symm.trans hf) |>.symm
  obtain rfl : fn = Tryd.f7 := (Option.some.inj (Tryd.func7.symm.trans hfn)).symm
  refine ⟨by kernel_rfl, fun j t ht => ?_⟩
  rw [Tryd.params7] at ht
  have hm := Array.mem_of_getElem? ht
  rcases (show t = 9 by simpa using hm) with rfl
  exact (show Tryd.prog.wantsStandIn 9 = false by kernel_rfl)
theorem card : Rows.WeighFewestCardSaid :=
  Claim7.holds_tied_plain_at .later [] _ _ _ _ over (fun _ h => by cases h) (by kernel_rfl) (fun _ h => by cases h) weighFewest_row_tie rfl ⟨rfl, rfl⟩ (by kernel_rfl) rfl plain (by kernel_rfl)
end Go.Proofs.YtfmjdoofopamkaaDoor.weighFewestUp
namespace Go.Proofs.YtfmjdoofopamkaaDoor
/-- The law, for every input. -/
theorem weighFewest_card : Rows.WeighFewestCardSaid := weighFewestUp.card
#print axioms weighFewest_card
end Go.Proofs.YtfmjdoofopamkaaDoor
