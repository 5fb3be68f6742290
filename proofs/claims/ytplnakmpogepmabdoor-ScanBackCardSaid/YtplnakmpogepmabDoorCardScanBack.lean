/- endonym/endonymlaw5.ScanBack: with the listed tables laid, for every input the law returns true, and each argument reads behind the call as it read before. Conditions: the tables alone, which the card ties to the program's text. -/
import Derived.Test.YtplnakmpogepmabDoorCards
import Derived.Test.YtplnakmpogepmabDoorTie
import Derived.Test.YtplnakmpogepmabDoorAx5
import Derived.Test.YtplnakmpogepmabDoorPureScanBack
import Derived.WalkKit
import Derived.ProofKit
import Derived.OpenShut
import Derived.ShutString
import Derived.ChangeOld
import Derived.Below
import Derived.JoinedCond
import Derived.Deep.DeepHandedRow
import Derived.Lib.LaidTab
import Derived.Stop.LaidErr
import Derived.KernelRfl
import Derived.SizedLaws
import Derived.Test.YtplnakmpogepmabDoorItoaTab
namespace Go.Proofs.YtplnakmpogepmabDoor.scanBackUp
open Go.ChangeShapes Go.WideShapes Go.ChangeAt Go.RowKit
open Go.ChangeMaps (open_string shut_string)
theorem own : ownKnob Tryd.prog.godebug = none := by kernel_rfl
set_option maxRecDepth 100000
def cellsIn {H : Type} : DataW H → Array Value
  | .agg l => (l.map fun | .lit (.int k z) => Value.int k z | _ => Value.bool false).toArray
  | _ => #[]
noncomputable def laidWorld (os : Os) : World :=
  { World.holding Tryd.prog os ⟨#[], #[], []⟩ with heap := ((((World.holding Tryd.prog os ⟨#[], #[], []⟩).heap).modify ((Tryd.prog.globalNamed "math/bits.deBruijn32tab").getD 0) fun | .cells _ t frozen => .cells (cellsIn (H := Unit) Rows.laid_math_bits_deBruijn32tab) t frozen | o => o).modify ((Tryd.prog.globalNamed "math/bits.deBruijn64tab").getD 0) fun | .cells _ t frozen => .cells (cellsIn (H := Unit) Rows.laid_math_bits_deBruijn64tab) t frozen | o => o).modify ((Tryd.prog.globalNamed "internal/strconv.uint64pow10").getD 0) fun | .cells _ t frozen => .cells (cellsIn (H := Unit) Rows.laid_internal_strconv_uint64pow10) t frozen | o => o }
theorem laid_met (os : Os) : laidMet Tryd.prog Rows.scanBackRow.laid ((laidWorld os).forCall (fun _ _ => 0) ⟨#[], #[.string ByteArray.empty, .int .i32 0, .int .i32 0, .int .i64 0], []⟩).memory :=
  laidMet_of_run' 8 (by kernel_rfl) (by kernel_rfl)
theorem reads (os : Os) {H : Type} (enc : TypeId × Value → H) : ∃ places, DataW.whole enc Tryd.prog ((laidWorld os).forCall (fun _ _ => 0) ⟨#[], #[.string ByteArray.empty, .int .i32 0, .int .i32 0, .int .i64 0], []⟩).memory Tryd.f4.params.toList Rows.scanBackSpec.vars false #[.string ByteArray.empty, .int .i32 0, .int .i32 0, .int .i64 0].toList 8 = some ([.lit (.string []), .lit (.int .i32 0), .lit (.int .i32 0), .lit (.int .i64 0)], [], places) :=
  ⟨[], by kernel_rfl⟩
theorem table {W : World} (h : laidMetH Tryd.prog Rows.scanBackRow.laid W) : Go.Proofs.YtplnakmpogepmabDoorW.PrintWords.Aside0 (Rm.Tab W) :=
  ⟨Lib.tabIs_of_head (rest := []) (g := 0) (t := 53) (e := 42) (n := 20) (by kernel_rfl) (by kernel_rfl) (by kernel_rfl) (by kernel_rfl) (by kernel_rfl) (by kernel_rfl) (laidMet.tail (laidMet.tail (h)))⟩
theorem lifted (os : Os) (started : os.Started) (H : Type) (enc : TypeId × Value → H) (F : Stop.Interp) :
    ReturnsInHanded {} Tryd.checked os 4 .any ((OpenSpec.ofChange Rows.scanBackSpec).preRow enc Tryd.prog Tryd.f4 Rows.scanBackRow.domain false Rows.scanBackRow.laid) (((OpenSpec.ofChange Rows.scanBackSpec).at F).post enc Tryd.prog Tryd.f4 false true false false) := by
  obtain ⟨places, hx⟩ := reads os enc
  refine returnsInHanded_of_row (C := Tryd.checked) (s := OpenSpec.ofChange Rows.scanBackSpec) own started (by kernel_rfl) Tryd.func4
    (witness_row_at (enc := enc) (C := Tryd.checked) false (laidWorld os) #[.string ByteArray.empty, .int .i32 0, .int .i32 0, .int .i64 0] rfl (by kernel_rfl) (by kernel_rfl) (by kernel_rfl)
      (OpenSpec.preRow_of_cond 8 hx (by kernel_rfl) (fun k hk => by cases hk) (by kernel_rfl) (laid_met os))) ?_
  intro W base args ds gs before hval0 hW _ _ hz hL _ _
  have hval : ∀ (j : Nat) t v, Tryd.f4.params[j]? = some t → args[j]? = some v → Value.okWide Tryd.prog W .any base t v := hval0
  have hW' := hW
  obtain ⟨p, q, hA0, hV, rfl, hfz, hnd⟩ := hW
  have hA : DataW.TrodAll enc Tryd.prog W 0 (fun _ => true) true Tryd.f4.params.toList args.toList ds p := hA0
  rw [Tryd.params4] at hA hval
  obtain ⟨v0, vs0, d0, ds0, p0, q0, hargs, rfl, rfl, h0, r0⟩ := trodAll_cons hA
  obtain ⟨v1, vs1, d1, ds1, p1, q1, rfl, rfl, rfl, h1, r1⟩ := trodAll_cons r0
  obtain ⟨v2, vs2, d2, ds2, p2, q2, rfl, rfl, rfl, h2, r2⟩ := trodAll_cons r1
  obtain ⟨v3, vs3, d3, ds3, p3, q3, rfl, rfl, rfl, h3, r3⟩ := trodAll_cons r2
  obtain ⟨rfl, rfl, rfl⟩ := trodAll_nil r3
  obtain rfl : args = #[v0, v1, v2, v3] := by cases args; simp_all
  obtain ⟨rfl, rfl⟩ := trodVars_none hV
  obtain ⟨a0, rfl, rfl, rfl, y0⟩ := open_string Tryd.underlying9 (hval 0 9 v0 rfl rfl) h0
  obtain ⟨a1, rfl, rfl, rfl, w1⟩ := open_int Tryd.underlying21 (hval 1 21 v1 rfl rfl) h1
  obtain ⟨a2, rfl, rfl, rfl, w2⟩ := open_int Tryd.underlying21 (hval 2 21 v2 rfl rfl) h2
  obtain ⟨a3, rfl, rfl, rfl, w3⟩ := open_int Tryd.underlying3 (hval 3 3 v3 rfl rfl) h3
  clear hA0 hval0
  have hsz0 := sized_string hz (j := 0) (t := 9) (by kernel_rfl) rfl
  have hsz : a0.size ≤ 1152921504606846976 := by rw [Array.length_toList] at hsz0; unfold reachBytes at hsz0; exact Nat.le_trans hsz0 (by decide)
  obtain ⟨k, h⟩ := Pure.ScanBack a0 a1 a2 a3 w1 w2 w3 hsz
  refine (A.endonymlaw5_ScanBack.calls k a0 a1 a2 a3 true W (table hL) h).mono fun e W' ⟨he, bel0⟩ => ?_
  have bel : Below W.heap.size W W' := bel0
  subst he
  exact ⟨_, rfl, _, _, _, [], _, [], hW', trodAll_mk1 (shut_bool Tryd.underlying4 _), (trodAll_cons_mk (shut_string Tryd.underlying9 y0) (trodAll_cons_mk (shut_int Tryd.underlying21 w1) (trodAll_cons_mk (shut_int Tryd.underlying21 w2) (trodAll_cons_mk (shut_int Tryd.underlying3 w3) trodAll_mk0)))), rfl, bel.frame _, fun h => by cases h⟩
theorem over : Rows.scanBackRow.holds Tryd.pinned (OpenSpec.ofChange Rows.scanBackSpec) :=
  OpenClaim.holds_of_cond 4 Tryd.f4 rfl rfl rfl rfl rfl rfl rfl ⟨rfl, rfl, rfl, rfl, rfl⟩ rfl rfl rfl rfl rfl (by kernel_rfl) Tryd.func4 (by kernel_rfl)
    (of_decide_eq_true (by kernel_rfl)) (by unfold Func.isWrapper; first | (rw [if_pos (by decide +kernel)]; kernel_rfl) | (rw [if_neg (by decide +kernel)]; exact ⟨rfl, rfl⟩))
    (fun os started H enc _ F => by rw [OpenClaim.pre_eq_preRow]; exact lifted os started H enc F)
theorem plain (f : FuncId) (fn : Func) (hf : Tryd.pinned.checked.prog.funcNamed "endonym/endonymlaw5.ScanBack" = some f) (hfn : Tryd.pinned.checked.prog.funcs[f]? = some fn) :
    false = Tryd.pinned.checked.prog.looks [] ∧ ∀ (j : Nat) t, fn.params[j]? = some t → Tryd.pinned.checked.prog.wantsStandIn t = false := by
  obtain rfl : f = 4 := Option.some.inj ((show Tryd.prog.funcNamed "endonym/endonymlaw5.ScanBack" = some 4 by kernel_rfl).symm.trans hf) |>.symm
  obtain rfl : fn = Tryd.f4 := (Option.some.inj (Tryd.func4.symm.trans hfn)).symm
  refine ⟨by kernel_rfl, fun j t ht => ?_⟩
  rw [Tryd.params4] at ht
  have hm := Array.mem_of_getElem? ht
  rcases (show t = 9 ∨ t = 21 ∨ t = 21 ∨ t = 3 by simpa using hm) with rfl | rfl | rfl | rfl
  · exact (show Tryd.prog.wantsStandIn 9 = false by kernel_rfl)
  · exact (show Tryd.prog.wantsStandIn 21 = false by kernel_rfl)
  · exact (show Tryd.prog.wantsStandIn 21 = false by kernel_rfl)
  · exact (show Tryd.prog.wantsStandIn 3 = false by kernel_rfl)
theorem card : Rows.ScanBackCardSaid :=
  Claim7.holds_tied_plain_at .later [] _ _ _ _ over (fun _ h => by cases h) (by kernel_rfl) (fun _ h => by cases h) scanBack_row_tie rfl ⟨rfl, rfl⟩ (by kernel_rfl) rfl plain (by kernel_rfl)
end Go.Proofs.YtplnakmpogepmabDoor.scanBackUp
namespace Go.Proofs.YtplnakmpogepmabDoor
/-- The law, for every input. -/
theorem scanBack_card : Rows.ScanBackCardSaid := scanBackUp.card
#print axioms scanBack_card
end Go.Proofs.YtplnakmpogepmabDoor
