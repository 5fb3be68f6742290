import Derived.Test.YtnoppeocbfapdaaGreatDoorEvH
/-! The evaluator is sound. -/
namespace Go.Ev
open Go Go.RowKit
set_option linter.unusedVariables false
set_option linter.unusedSimpArgs false
section
variable {P : Program}
theorem ev_ok (po : PO P) (hm_ : P.follows .mixedOrders = true) : ∀ k, RecOK P (ev P k) := by
  intro k
  induction k with
  | zero =>
    exact ⟨(fun f args H v H' he => by cases he), (fun n all l tm H hn_ => ⟨(fun e tm' H' he => by cases he), (fun _ e tm' H' he => by cases he)⟩), (fun n all fuel listed tm H n0 hn_ e tm' H' he => by cases he), (fun n c tm H hn_ => no_code), (fun n b c tm H hn_ e tm' H' he => by cases he)⟩
  | succ k ih =>
    refine ⟨fun f args H => ?_, fun n all l tm H hn_ => ?_, fun n all fuel listed tm H n0 hn_ => ?_, fun n c tm H hn_ => ?_, fun n b c tm H hn_ => ?_⟩
    · have : ∀ x : Bx SF, Bx.rec (motive := fun _ => Out) (fun g => g (ev P k) args H) x = unBx x (ev P k) args H := fun x => by cases x; rfl
      have e : ev P (k + 1) (.fn f args H) = unBx (sFn P f) (ev P k) args H := this _
      rw [e]; exact fn_ok ih f args H
    · exact ops_ok po hn_ all l (ev P k) ih.fn (fun l tm H => ih.ops n all l tm H hn_) tm H
    · exact any_ok po hn_ ih all fuel listed tm H n0
    · have : ∀ x : Bx SC, Bx.rec (motive := fun _ => Out) (fun g => g (ev P k) tm H) x = unBx x (ev P k) tm H := fun x => by cases x; rfl
      have e : ev P (k + 1) (.code n c tm H) = unBx (sCode n c) (ev P k) tm H := this _
      rw [e]; exact code_ok hn_ hm_ c ih tm H
    · exact scope_ok hn_ b c ih tm H
/-- a call, by the evaluator -/
theorem ev_calls (po : PO P) (hm_ : P.follows .mixedOrders = true) {k : Nat} {f : FuncId} {args : List AV} {H H' : HP} {v : AV} (he : ev P k (.fn f args H) = .v v H') {B : Nat} {W0 : World} {ι : Inj} {w : World} (g : GS P B W0 ι H w) {args' : List Value} (ha : F2 (RA ι) args args') :
    Calls P f args'.toArray w (fun e w' => ∃ v' ι', e = .returned v' ∧ HS H H' ∧ Ext H ι ι' ∧ RA ι' v v' ∧ GS P B W0 ι' H' w') := (ev_ok po hm_ k).fn f args H v H' he B W0 ι w args' g ha
end
end Go.Ev
