/- endonym/endonymlaw20.NameCompares: with the listed tables laid, for every input whose bulk (values and letters, each time it is reached) is at most 1048576 the law returns true, and each argument reads behind the call as it read before. Conditions: the bulk's bound alone. -/
import Derived.Test.YtfbadcjojkgibaaDoorCards
import Derived.Test.YtfbadcjojkgibaaDoorTie
import Derived.Test.YtfbadcjojkgibaaDoorUpto
import Derived.Test.YtfbadcjojkgibaaDoorNx10
import Derived.Test.YtfbadcjojkgibaaDoorPureNameCompares
import Derived.WalkKit
import Derived.ProofKit
import Derived.OpenShut
import Derived.ShutString
import Derived.ChangeOld
import Derived.Below
import Derived.JoinedCond
import Derived.Deep.DeepHandedRow
import Derived.Lib.LaidTab
import Derived.Stop.LaidErr
import Derived.KernelRfl
namespace Go.Proofs.YtfbadcjojkgibaaDoor.nameComparesUp
open Go.ChangeShapes Go.WideShapes Go.ChangeAt Go.RowKit
open Go.ChangeMaps (open_string shut_string)
theorem own : ownKnob Tryd.prog.godebug = none := by kernel_rfl
set_option maxRecDepth 100000
def cellOf {H : Type} : DataW H → Value
  | .lit (.int k z) => Value.int k z
  | _ => Value.bool false
def cellsOf {H : Type} : DataW H → List Value
  | .agg l => l.map cellOf
  | d => [cellOf d]
def cellsIn {H : Type} : DataW H → Array Value
  | .agg l => (l.flatMap cellsOf).toArray
  | _ => #[]
noncomputable def laidWorld (os : Os) : World :=
  { World.holding Tryd.prog os ⟨#[], #[], []⟩ with heap := (((World.holding Tryd.prog os ⟨#[], #[], []⟩).heap).modify ((Tryd.prog.globalNamed "unicode/utf8.acceptRanges").getD 0) fun | .cells _ t frozen => .cells (cellsIn (H := Unit) Rows.laid_unicode_utf8_acceptRanges) t frozen | o => o).modify ((Tryd.prog.globalNamed "unicode/utf8.first").getD 0) fun | .cells _ t frozen => .cells (cellsIn (H := Unit) Rows.laid_unicode_utf8_first) t frozen | o => o }
theorem laid_met (os : Os) : laidMet Tryd.prog Rows.nameComparesUptoRow.laid ((laidWorld os).forCall (fun _ _ => 0) ⟨#[], #[.string ByteArray.empty, .string ByteArray.empty], []⟩).memory :=
  laidMet_of_run' 8 (by kernel_rfl) (by kernel_rfl)
theorem reads (os : Os) {H : Type} (enc : TypeId × Value → H) : ∃ places, DataW.whole enc Tryd.prog ((laidWorld os).forCall (fun _ _ => 0) ⟨#[], #[.string ByteArray.empty, .string ByteArray.empty], []⟩).memory Tryd.f3.params.toList Rows.nameComparesSpec.vars false #[.string ByteArray.empty, .string ByteArray.empty].toList 8 = some ([.lit (.string []), .lit (.string [])], [], places) :=
  ⟨[], by kernel_rfl⟩
theorem lifted (os : Os) (started : os.Started) (H : Type) (enc : TypeId × Value → H) (F : Stop.Interp) :
    ReturnsInHanded {} Tryd.checked os 3 .any ((Rows.OpenSpec.upto Rows.nameComparesSpec).preRow enc Tryd.prog Tryd.f3 Rows.nameComparesUptoRow.domain false Rows.nameComparesUptoRow.laid) (((Rows.OpenSpec.upto Rows.nameComparesSpec).at F).post enc Tryd.prog Tryd.f3 false true false false) := by
  obtain ⟨places, hx⟩ := reads os enc
  refine returnsInHanded_of_row (C := Tryd.checked) (s := Rows.OpenSpec.upto Rows.nameComparesSpec) own started (by kernel_rfl) Tryd.func3
    (witness_row_at (enc := enc) (C := Tryd.checked) false (laidWorld os) #[.string ByteArray.empty, .string ByteArray.empty] rfl (by kernel_rfl) (by kernel_rfl) (by kernel_rfl)
      (OpenSpec.preRow_of_cond 8 hx (by kernel_rfl) (fun k hk => by cases hk; kernel_rfl) (by kernel_rfl) (laid_met os))) ?_
  intro W base args ds gs before hval0 hW _ hcond _ hL _ _
  have hk := hcond _ rfl
  have hval : ∀ (j : Nat) t v, Tryd.f3.params[j]? = some t → args[j]? = some v → Value.okWide Tryd.prog W .any base t v := hval0
  have hW' := hW
  obtain ⟨p, q, hA0, hV, rfl, hfz, hnd⟩ := hW
  have hA : DataW.TrodAll enc Tryd.prog W 0 (fun _ => true) true Tryd.f3.params.toList args.toList ds p := hA0
  rw [Tryd.params3] at hA hval
  obtain ⟨v0, vs0, d0, ds0, p0, q0, hargs, rfl, rfl, h0, r0⟩ := trodAll_cons hA
  obtain ⟨v1, vs1, d1, ds1, p1, q1, rfl, rfl, rfl, h1, r1⟩ := trodAll_cons r0
  obtain ⟨rfl, rfl, rfl⟩ := trodAll_nil r1
  obtain rfl : args = #[v0, v1] := by cases args; simp_all
  obtain ⟨rfl, rfl⟩ := trodVars_none hV
  obtain ⟨a0, rfl, rfl, rfl, y0⟩ := open_string Tryd.underlying9 (hval 0 9 v0 rfl rfl) h0
  obtain ⟨a1, rfl, rfl, rfl, y1⟩ := open_string Tryd.underlying9 (hval 1 9 v1 rfl rfl) h1
  have hb := Upto.bound hk
  simp only [List.append_nil, Rows.uptoBulkAll, Upto.bulk_string] at hb
  clear hA0 hval0 hk
  have hb' : a0.size + a1.size ≤ 1048576 := by omega
  obtain ⟨k, h⟩ := Pure.NameCompares a0 a1 hb'
  refine (N.endonymlaw20_NameCompares.calls k a0 a1 true W h).mono fun e W' ⟨he, bel0⟩ => ?_
  have bel : Below W.heap.size W W' := bel0
  subst he
  exact ⟨_, rfl, _, _, _, [], _, [], hW', trodAll_mk1 (shut_bool Tryd.underlying4 _), (trodAll_cons_mk (shut_string Tryd.underlying9 y0) (trodAll_cons_mk (shut_string Tryd.underlying9 y1) trodAll_mk0)), rfl, bel.frame _, fun h => by cases h⟩
theorem over : Rows.nameComparesUptoRow.holds Tryd.pinned (Rows.OpenSpec.upto Rows.nameComparesSpec) :=
  OpenClaim.holds_of_cond 3 Tryd.f3 rfl rfl rfl rfl rfl rfl rfl ⟨rfl, rfl, rfl, rfl, rfl⟩ rfl rfl rfl rfl rfl (by kernel_rfl) Tryd.func3 (by kernel_rfl)
    (of_decide_eq_true (by kernel_rfl)) (by unfold Func.isWrapper; first | (rw [if_pos (by decide +kernel)]; kernel_rfl) | (rw [if_neg (by decide +kernel)]; exact ⟨rfl, rfl⟩))
    (fun os started H enc _ F => by rw [OpenClaim.pre_eq_preRow]; exact lifted os started H enc F)
theorem plain (f : FuncId) (fn : Func) (hf : Tryd.pinned.checked.prog.funcNamed "endonym/endonymlaw20.NameCompares" = some f) (hfn : Tryd.pinned.checked.prog.funcs[f]? = some fn) :
    false = Tryd.pinned.checked.prog.looks [] ∧ ∀ (j : Nat) t, fn.params[j]? = some t → Tryd.pinned.checked.prog.wantsStandIn t = false := by
  obtain rfl : f = 3 := Option.some.inj ((show Tryd.prog.funcNamed "endonym/endonymlaw20.NameCompares" = some 3 by kernel_rfl).symm.trans hf) |>.symm
  obtain rfl : fn = Tryd.f3 := (Option.some.inj (Tryd.func3.symm.trans hfn)).symm
  refine ⟨by kernel_rfl, fun j t ht => ?_⟩
  rw [Tryd.params3] at ht
  have hm := Array.mem_of_getElem? ht
  rcases (show t = 9 ∨ t = 9 by simpa using hm) with rfl | rfl
  · exact (show Tryd.prog.wantsStandIn 9 = false by kernel_rfl)
  · exact (show Tryd.prog.wantsStandIn 9 = false by kernel_rfl)
theorem card : Rows.NameComparesUptoCardSaid :=
  Claim7.holds_tied_plain_at .later [] _ _ _ _ over (fun _ h => by cases h) (by kernel_rfl) (fun _ h => by cases h) nameComparesUpto_row_tie rfl ⟨rfl, rfl⟩ (by kernel_rfl) rfl plain (by kernel_rfl)
end Go.Proofs.YtfbadcjojkgibaaDoor.nameComparesUp
namespace Go.Proofs.YtfbadcjojkgibaaDoor
/-- The law, where the bulk of what it reads is bounded. -/
theorem nameCompares_uptoCard : Rows.NameComparesUptoCardSaid := nameComparesUp.card
#print axioms nameCompares_uptoCard
end Go.Proofs.YtfbadcjojkgibaaDoor
