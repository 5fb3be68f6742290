/- endonym/endonymlaw6.TableOnce: with the listed tables laid, for every input whose bulk (values and letters, each time it is reached) is at most 1048576 the law returns true, and each argument reads behind the call as it read before. Conditions: the bulk's bound alone. -/
import Derived.Test.YtnoppeocbfapdaaGreatDoorCards
import Derived.Test.YtnoppeocbfapdaaGreatDoorTie
import Derived.Test.YtnoppeocbfapdaaGreatDoorUptoRec
import Derived.Test.YtnoppeocbfapdaaGreatDoorTx17
import Derived.Test.YtnoppeocbfapdaaGreatDoorPureTableOnce
import Derived.WalkKit
import Derived.ProofKit
import Derived.OpenShut
import Derived.ShutString
import Derived.ChangeOld
import Derived.Below
import Derived.JoinedCond
import Derived.Deep.DeepHandedRow
import Derived.Lib.LaidTab
import Derived.Stop.LaidErr
import Derived.KernelRfl
import Derived.Test.YtnoppeocbfapdaaGreatDoorTabEv
namespace Go.Proofs.YtnoppeocbfapdaaGreatDoor.tableOnceUp
open Go.ChangeShapes Go.WideShapes Go.ChangeAt Go.RowKit
open Go.ChangeMaps (open_string shut_string)
theorem own : ownKnob Tryz.prog.godebug = none := by kernel_rfl
theorem laidOut : laidOutB Tryz.prog = true := by kernel_rfl
set_option maxRecDepth 100000
def cellOf {H : Type} : DataW H → Value
  | .lit (.int k z) => Value.int k z
  | _ => Value.bool false
def cellsOf {H : Type} : DataW H → List Value
  | .agg l => l.map cellOf
  | d => [cellOf d]
def cellsIn {H : Type} : DataW H → Array Value
  | .agg l => (l.flatMap cellsOf).toArray
  | _ => #[]
noncomputable def laidWorld (os : Os) : World :=
  { World.holding Tryz.prog os ⟨#[], #[], []⟩ with heap := ((((World.holding Tryz.prog os ⟨#[], #[], []⟩).heap).modify ((Tryz.prog.globalNamed "math/bits.deBruijn32tab").getD 0) fun | .cells _ t frozen => .cells (cellsIn (H := Unit) Rows.laid_math_bits_deBruijn32tab) t frozen | o => o).modify ((Tryz.prog.globalNamed "math/bits.deBruijn64tab").getD 0) fun | .cells _ t frozen => .cells (cellsIn (H := Unit) Rows.laid_math_bits_deBruijn64tab) t frozen | o => o).modify ((Tryz.prog.globalNamed "internal/strconv.uint64pow10").getD 0) fun | .cells _ t frozen => .cells (cellsIn (H := Unit) Rows.laid_internal_strconv_uint64pow10) t frozen | o => o }
theorem laid_met (os : Os) : laidMet Tryz.prog Rows.tableOnceUptoRow.laid ((laidWorld os).forCall (fun _ _ => 0) ⟨#[], #[.slice none 0 0, .slice none 0 0], []⟩).memory :=
  laidMet_of_run' 8 (by kernel_rfl) (by kernel_rfl)
theorem reads (os : Os) {H : Type} (enc : TypeId × Value → H) : ∃ places, DataW.whole enc Tryz.prog ((laidWorld os).forCall (fun _ _ => 0) ⟨#[], #[.slice none 0 0, .slice none 0 0], []⟩).memory Tryz.f11.params.toList Rows.tableOnceSpec.vars false #[.slice none 0 0, .slice none 0 0].toList 8 = some ([.nil, .nil], [], places) :=
  ⟨[], by kernel_rfl⟩
theorem table {W : World} (h : laidMetH Tryz.prog Rows.tableOnceUptoRow.laid W) (hs : W.ShapedOpen Tryz.prog) : Go.Proofs.YtnoppeocbfapdaaGreatDoorW.PrintWords.Aside0 (Rm.Tab W) :=
  ⟨Go.Ev.PowTab.of_row (Lib.tabIs_of_head (rest := []) (g := 2) (t := 200) (e := 71) (n := 20) (by kernel_rfl) (by kernel_rfl) (by kernel_rfl) (by kernel_rfl) (by kernel_rfl) (by kernel_rfl) (laidMet.tail (laidMet.tail (h)))) hs⟩
theorem lifted (os : Os) (started : os.Started) (H : Type) (enc : TypeId × Value → H) (F : Stop.Interp) :
    ReturnsInHanded {} Tryz.checked os 11 .any ((Rows.OpenSpec.upto Rows.tableOnceSpec).preRow enc Tryz.prog Tryz.f11 Rows.tableOnceUptoRow.domain false Rows.tableOnceUptoRow.laid) (((Rows.OpenSpec.upto Rows.tableOnceSpec).at F).post enc Tryz.prog Tryz.f11 false true false false) := by
  obtain ⟨places, hx⟩ := reads os enc
  refine returnsInHanded_of_row (C := Tryz.checked) (s := Rows.OpenSpec.upto Rows.tableOnceSpec) own started (by kernel_rfl) Tryz.func11
    (witness_row_at (enc := enc) (C := Tryz.checked) false (laidWorld os) #[.slice none 0 0, .slice none 0 0] rfl (by kernel_rfl) (by kernel_rfl) (by kernel_rfl)
      (OpenSpec.preRow_of_cond 8 hx (by kernel_rfl) (fun k hk => by cases hk; kernel_rfl) (by kernel_rfl) (laid_met os))) ?_
  intro W base args ds gs before hval0 hW _ hcond _ hL hS _
  have hk := hcond _ rfl
  have hval : ∀ (j : Nat) t v, Tryz.f11.params[j]? = some t → args[j]? = some v → Value.okWide Tryz.prog W .any base t v := hval0
  have hW' := hW
  obtain ⟨p, q, hA0, hV, rfl, hfz, hnd⟩ := hW
  have hA : DataW.TrodAll enc Tryz.prog W 0 (fun _ => true) true Tryz.f11.params.toList args.toList ds p := hA0
  rw [Tryz.params11] at hA hval
  obtain ⟨v0, vs0, d0, ds0, p0, q0, hargs, rfl, rfl, h0, r0⟩ := trodAll_cons hA
  obtain ⟨v1, vs1, d1, ds1, p1, q1, rfl, rfl, rfl, h1, r1⟩ := trodAll_cons r0
  obtain ⟨rfl, rfl, rfl⟩ := trodAll_nil r1
  obtain rfl : args = #[v0, v1] := by cases args; simp_all
  obtain ⟨rfl, rfl⟩ := trodVars_none hV
  obtain ⟨a0, len0, cap0, rfl⟩ := okWide_slice Tryz.underlying26 (hval 0 26 v0 rfl rfl)
  have k0 := h0
  have lt0 : ∀ x ∈ p0, x.block < W.heap.size := by obtain ⟨m, hm⟩ := k0; exact DataW.trod_lt m _ _ _ hm
  obtain ⟨fuel0, hf0⟩ := h0
  obtain ⟨l0, rfl, hr0, hc0, w0, b0⟩ := Upto.recs hf0
  obtain ⟨a1, len1, cap1, rfl⟩ := okWide_slice Tryz.underlying22 (hval 1 22 v1 rfl rfl)
  have k1 := h1
  have lt1 : ∀ x ∈ p1, x.block < W.heap.size := by obtain ⟨m, hm⟩ := k1; exact DataW.trod_lt m _ _ _ hm
  obtain ⟨fuel1, hf1⟩ := h1
  obtain ⟨l1, rfl, hr1, hc1, w1, b1⟩ := Upto.ints Tryz.underlying22 Tryz.underlying21 (by kernel_rfl) hf1
  have hb := Upto.bound hk
  simp only [List.append_nil, Rows.uptoBulkAll] at hb
  clear hA0 hval0 hk
  have hb' : (l0.map fun x => x.f4.length + x.f5.size + x.f6.size + 1).sum + l1.length ≤ 1048576 := by omega
  obtain ⟨k, h⟩ := Pure.TableOnce l0 l1 w0 w1 hb'
  refine (T.endonymlaw6_TableOnce.calls k _ _ l0 _ _ l1 true W (table hL hS) hr0 hc0 hr1 hc1 h).mono fun e W' ⟨he, bel0⟩ => ?_
  have bel : Below W.heap.size W W' := bel0
  subst he
  exact ⟨_, rfl, _, _, _, [], _, [], hW', trodAll_mk1 (shut_bool Tryz.underlying4 _), (trodAll_cons_mk (Below.trod laidOut (by kernel_rfl) (of_decide_eq_true (by kernel_rfl)) k0 bel lt0) (trodAll_cons_mk (Below.trod laidOut (by kernel_rfl) (of_decide_eq_true (by kernel_rfl)) k1 bel lt1) trodAll_mk0)), rfl, bel.frame _, fun h => by cases h⟩
theorem over : Rows.tableOnceUptoRow.holds Tryz.pinned (Rows.OpenSpec.upto Rows.tableOnceSpec) :=
  OpenClaim.holds_of_cond 11 Tryz.f11 rfl rfl rfl rfl rfl rfl rfl ⟨rfl, rfl, rfl, rfl, rfl⟩ rfl rfl rfl rfl rfl (by kernel_rfl) Tryz.func11 (by kernel_rfl)
    (of_decide_eq_true (by kernel_rfl)) (by unfold Func.isWrapper; first | (rw [if_pos (by decide +kernel)]; kernel_rfl) | (rw [if_neg (by decide +kernel)]; exact ⟨rfl, rfl⟩))
    (fun os started H enc _ F => by rw [OpenClaim.pre_eq_preRow]; exact lifted os started H enc F)
theorem plain (f : FuncId) (fn : Func) (hf : Tryz.pinned.checked.prog.funcNamed "endonym/endonymlaw6.TableOnce" = some f) (hfn : Tryz.pinned.checked.prog.funcs[f]? = some fn) :
    false = Tryz.pinned.checked.prog.looks [] ∧ ∀ (j : Nat) t, fn.params[j]? = some t → Tryz.pinned.checked.prog.wantsStandIn t = false := by
  obtain rfl : f = 11 := Option.some.inj ((show Tryz.prog.funcNamed "endonym/endonymlaw6.TableOnce" = some 11 by kernel_rfl).symm.trans hf) |>.symm
  obtain rfl : fn = Tryz.f11 := (Option.some.inj (Tryz.func11.symm.trans hfn)).symm
  refine ⟨by kernel_rfl, fun j t ht => ?_⟩
  rw [Tryz.params11] at ht
  have hm := Array.mem_of_getElem? ht
  rcases (show t = 26 ∨ t = 22 by simpa using hm) with rfl | rfl
  · exact (show Tryz.prog.wantsStandIn 26 = false by kernel_rfl)
  · exact (show Tryz.prog.wantsStandIn 22 = false by kernel_rfl)
theorem card : Rows.TableOnceUptoCardSaid :=
  Claim7.holds_tied_plain_at .later [] _ _ _ _ over (fun _ h => by cases h) (by kernel_rfl) (fun _ h => by cases h) tableOnceUpto_row_tie rfl ⟨rfl, rfl⟩ (by kernel_rfl) rfl plain (by kernel_rfl)
end Go.Proofs.YtnoppeocbfapdaaGreatDoor.tableOnceUp
namespace Go.Proofs.YtnoppeocbfapdaaGreatDoor
/-- The law, where the bulk of what it reads is bounded. -/
theorem tableOnce_uptoCard : Rows.TableOnceUptoCardSaid := tableOnceUp.card
#print axioms tableOnce_uptoCard
end Go.Proofs.YtnoppeocbfapdaaGreatDoor
