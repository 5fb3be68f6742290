import Derived.Test.YtnoppeocbfapdaaGreatDoorEvS
/-! The evaluator is sound (2): lists of operations. -/
namespace Go.Ev
open Go Go.RowKit
set_option linter.unusedVariables false
set_option linter.unusedSimpArgs false
section
variable {P : Program}
theorem Post.trans {B n : Nat} {W0 : World} {ι ι1 : Inj} {H H1 : HP} {o : Out} (h1 : HS H H1) (h2 : Ext H ι ι1) {e : Exit} {a : Act} {w : World} (h : Post P B W0 n ι1 H1 o e a w) : Post P B W0 n ι H o e a w := by
  cases o with
  | st e' tm' H' =>
    obtain ⟨rfl, ι', q1, q2, q3⟩ := h
    exact ⟨rfl, ι', h1.trans q1, h2.trans h1 q2, q3⟩
  | _ => exact h
structure OpsOK (P : Program) (n : Nat) (all : Array Oper) (l : List Oper) (tm : Tr AV) (H : HP) (o : Out) : Prop where
  run : ∀ e tm' H', o = .st e tm' H' → ∀ B W0 ι a w i, (∀ j, l[j]? = all[i + j]?) → St P B W0 n ι tm H a w → wpOps P all (Post P B W0 n ι H o) (List.range' i l.length) a w
  still : (l.all fun x => stillK x.op) = true → ∀ e tm' H', o = .st e tm' H' → ∀ B W0 ι a w, St P B W0 n ι tm H a w → wpStill P all w (fun a' => Post P B W0 n ι H o .normal a' w) l a
theorem upon_mono {o : Oper} {a : Act} {K K' : Act → World → Prop} {Q Q' : Exit → Act → World → Prop} (hK : ∀ a w, K a w → K' a w) (hQ : ∀ e a w, Q e a w → Q' e a w) {r : Result Next} (hh : o.upon P a K Q r) : o.upon P a K' Q' r := by
  have hl : LetsOut Q → LetsOut Q' := fun ⟨a, w, h⟩ => ⟨a, w, hQ _ _ _ h⟩
  cases r with
  | ok n w' =>
    cases n <;> simp only [Oper.upon] at hh ⊢ <;>
      first
        | exact hK _ _ hh
        | exact Calls.mono hh (fun e w'' he => by cases e <;> first | exact hK _ _ he | exact hQ _ _ _ he | exact hl he)
        | exact Rows.mono hh (fun _ _ he => hK _ _ he)
  | halt x w' => cases x <;> simp only [Oper.upon] at hh ⊢ <;> first | exact hQ _ _ _ hh | exact hh
theorem wpOps_mono' {ops : Array Oper} {Q Q' : Exit → Act → World → Prop} (h : ∀ e a w, Q e a w → Q' e a w) : ∀ (l : List Nat) (a : Act) (w : World), wpOps P ops Q l a w → wpOps P ops Q' l a w
  | [], a, w, hh => h _ _ _ hh
  | i :: r, a, w, hh => by
    unfold wpOps at hh ⊢
    cases ho : ops[i]? with
    | none => rw [ho] at hh; exact wpOps_mono' h r a w hh
    | some o =>
      rw [ho] at hh
      dsimp only at hh ⊢
      split
      · rename_i hw
        rw [if_pos hw] at hh
        rcases hh with hh | ⟨h1, a', w', h2⟩
        · exact .inl (upon_mono (fun a w => wpOps_mono' h r a w) h hh)
        · exact .inr ⟨h1, a', w', h _ _ _ h2⟩
      · rename_i hw; rw [if_neg hw] at hh; exact wpOps_mono' h r _ w hh
theorem ops_ok (po : PO P) {n : Nat} (hn_ : n ≤ 4000) (all : Array Oper) (l : List Oper) (rec : K) (hrec : ∀ f args H, FnOK P f args H (rec (.fn f args H))) (hops : ∀ l tm H, OpsOK P n all l tm H (rec (.ops n all l tm H))) (tm : Tr AV) (H : HP) :
    OpsOK P n all l tm H (sOps l P rec n all tm H) := by
  cases l with
  | nil =>
    refine ⟨fun e tm' H' he B W0 ι a w i hl hst => ?_, fun _ e tm' H' he B W0 ι a w hst => ?_⟩
    · exact ⟨rfl, ι, HS.refl H, Ext.refl H ι, hst⟩
    · exact ⟨rfl, ι, HS.refl H, Ext.refl H ι, hst⟩
  | cons o l =>
    have e0 : sOps (o :: l) P rec n all tm H = unBx (sOpG P n all o) P rec tm H fun tm H => rec (.ops n all l tm H) := by
      have : ∀ x : Bx SO, Bx.rec (motive := fun _ => Out) (fun f => f P rec tm H fun tm H => rec (.ops n all l tm H)) x = unBx x P rec tm H fun tm H => rec (.ops n all l tm H) := fun x => by cases x; rfl
      exact this (sOpG P n all o)
    rw [e0]
    rcases opG_ok po hn_ all o rec hrec tm H fun tm H => rec (.ops n all l tm H) with h | ⟨tm1, H1, h1, h2, h3⟩
    · rw [h]
      exact ⟨(fun e tm' H' he => by cases he), (fun _ e tm' H' he => by cases he)⟩
    · rw [h1]
      have hnext := hops l tm1 H1
      refine ⟨fun e tm' H' he B W0 ι a w i hl hst => ?_, fun hs e tm' H' he B W0 ι a w hst => ?_⟩
      · have ho : all[i]? = some o := by have := hl 0; simpa using this.symm
        have hl' : ∀ j, l[j]? = all[i + 1 + j]? := fun j => by
          have := hl (j + 1)
          rw [show i + 1 + j = i + (j + 1) by omega, ← this]; simp
        rw [List.length_cons, List.range'_succ]
        have := h2 B W0 ι a w hst (wpOps P all (Post P B W0 n ι H (rec (.ops n all l tm1 H1))) (List.range' (i + 1) l.length)) (Post P B W0 n ι H (rec (.ops n all l tm1 H1))) (fun ι1 a1 w1 q1 q2 q3 =>
          wpOps_mono' (fun e a w hp => Post.trans q1 q2 hp) _ _ _ (hnext.run e tm' H' he B W0 ι1 a1 w1 (i + 1) hl' q3))
        unfold wpOps
        rw [ho]
        unfold opW at this
        dsimp only
        split
        · rename_i hw; rw [if_pos hw] at this; exact .inl this
        · rename_i hw; rw [if_neg hw] at this; exact this
      · rw [List.all_cons, Bool.and_eq_true] at hs
        obtain ⟨rfl, hk⟩ := h3 hs.1 B W0 ι a w hst
        exact hk _ fun a1 q3 => hnext.still hs.2 e tm' H' he B W0 ι a1 w q3
end
end Go.Ev
