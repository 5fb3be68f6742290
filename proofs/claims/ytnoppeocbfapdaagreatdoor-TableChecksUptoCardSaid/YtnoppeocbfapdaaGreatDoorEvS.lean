import Derived.Test.YtnoppeocbfapdaaGreatDoorEvT
import Derived.Still
import Derived.Scope
/-! The evaluator is sound (1): one operation, lists of operations. -/
namespace Go.Ev
open Go Go.RowKit
set_option linter.unusedVariables false
set_option linter.unusedSimpArgs false
structure St (P : Program) (B : Nat) (W0 : World) (n : Nat) (ι : Inj) (tm : Tr AV) (H : HP) (a : Act) (w : World) : Prop where
  sr : SR ι tm a
  gs : GS P B W0 ι H w
  sz : a.tmps.size = n
  df : a.defers = []
def exOf : Ex → Exit
  | .nrm => .normal
  | .exit i => .exit i
  | .goto l => .goto l
  | .ret => .ret
def Post (P : Program) (B : Nat) (W0 : World) (n : Nat) (ι : Inj) (H : HP) (o : Out) : Exit → Act → World → Prop := fun e' a' w' => match o with
  | .st e tm' H' => e' = exOf e ∧ ∃ ι', HS H H' ∧ Ext H ι ι' ∧ St P B W0 n ι' tm' H' a' w'
  | _ => False
def FnOK (P : Program) (f : FuncId) (args : List AV) (H : HP) (o : Out) : Prop := ∀ v H', o = .v v H' → ∀ B W0 ι w (args' : List Value), GS P B W0 ι H w → F2 (RA ι) args args' →
  Calls P f args'.toArray w (fun e w' => ∃ v' ι', e = .returned v' ∧ HS H H' ∧ Ext H ι ι' ∧ RA ι' v v' ∧ GS P B W0 ι' H' w')
theorem put_size (a : Act) (d : Option Tmp) (v : Value) : (a.put d v).tmps.size = a.tmps.size := by cases d <;> simp [Act.put]
theorem put_defers (a : Act) (d : Option Tmp) (v : Value) : (a.put d v).defers = a.defers := by cases d <;> rfl
/-- a slot is set -/
theorem putP_ok {n : Nat} (hn_ : n ≤ 4000) (d : Option Tmp) (tm : Tr AV) (v : AV) : (∀ k, unBx (putP n d) tm v k = .no) ∨ ∃ tm1, (∀ k, unBx (putP n d) tm v k = k tm1) ∧ ∀ ι (a : Act) (v' : Value), a.tmps.size = n → SR ι tm a → RA ι v v' → SR ι tm1 (a.put d v') := by
  cases d with
  | none => exact .inr ⟨tm, fun k => rfl, fun ι a v' _ h _ => h⟩
  | some d =>
    show (∀ k, unBx (ite' (Nat.blt d n) (setP 12 d) (.mk fun _ _ _ => .no)) tm v k = .no) ∨ ∃ tm1, (∀ k, unBx (ite' (Nat.blt d n) (setP 12 d) (.mk fun _ _ _ => .no)) tm v k = k tm1) ∧ _
    cases hb : Nat.blt d n with
    | false => exact .inl fun k => rfl
    | true =>
      have hd_ : @LT.lt Nat _ d n := by rw [← Nat.blt_eq]; exact hb
      obtain ⟨tm1, e1, e2⟩ := setP_spec 12 d tm v
      refine .inr ⟨tm1, e1, fun ι a v' hs h hv t => ?_⟩
      show RA ι (gp 12 t tm1) ((a.tmps.setIfInBounds d v').getD t undef)
      rcases e2 t with ⟨rfl, e | e⟩ | ⟨ht, e⟩
      · rw [e]
        have hlt : t < a.tmps.size := by omega
        simp [Array.getD_eq_getD_getElem?, hlt]
        exact hv
      · exact absurd e (by omega)
      · rw [e]
        have := h t
        rw [Array.getD_eq_getD_getElem?, Array.getElem?_setIfInBounds_ne (by omega), ← Array.getD_eq_getD_getElem?]
        exact this
/-- what a slot says of a bool behind it -/
theorem yes_ok {ι : Inj} {av : AV} {v : Value} (h : RA ι av v) (w : Bool) : (yes av w = true → v = .bool w) ∧ (yes av w = false → v ≠ .bool w) := by
  cases av with
  | i kd n => exact ⟨(fun e => by cases e), fun _ e => by subst e; have := h.i; cases this⟩
  | b x =>
    have := h.b
    subst this
    show (ite' x w (!w) = true → _) ∧ (ite' x w (!w) = false → _)
    cases x <;> cases w <;> simp
  | p x y => exact ⟨(fun e => by cases e), fun _ e => by subst e; rcases h.p with ⟨_, _, _, _, h⟩ | ⟨_, _, h⟩ <;> cases h⟩
  | s x y l c => exact ⟨(fun e => by cases e), fun _ e => by subst e; rcases h.s with ⟨_, _, _, _, _, _, _, h⟩ | ⟨_, _, _, _, h⟩ <;> cases h⟩
  | m x => exact ⟨(fun e => by cases e), fun _ e => by subst e; rcases h.m with ⟨_, _, _, _, h⟩ | ⟨_, _, h⟩ <;> cases h⟩
  | o u =>
    show (yesV u w = true → _) ∧ (yesV u w = false → _)
    have key : ∀ x, v = .bool x → u = .bool x := fun x e => by
      subst e
      rcases h with ⟨_, h⟩ | h
      · cases h
      · cases h with
        | three h => cases h with
          | two h => cases h with
            | one h => cases h with
              | lit h => rfl
              | un h hb => cases hb
    constructor
    · intro e
      cases u with
      | bool x =>
        have := h.lit_inv rfl
        subst this
        revert e
        show ite' x w (!w) = true → _
        cases x <;> cases w <;> simp [AV.val]
      | _ => cases e
    · intro e hv
      have := key _ hv
      subst this
      revert e
      show ite' w w (!w) = false → False
      cases w <;> simp
theorem yielded_ok {ι : Inj} {tm : Tr AV} {a : Act} (h : SR ι tm a) {all : Array Oper} {j : Nat} {w : Bool} {t : Tmp} (ht : (all[j]?).bind (·.dst) = some t) : (yielded all a.tmps j == some w) = yes (tget tm t) w := by
  have hr := h t
  unfold yielded
  rw [ht]
  show ((match a.tmps[t]? with | some (.bool b) => some b | _ => none) == some w) = _
  cases hv : a.tmps[t]? with
  | none =>
    have : a.tmps.getD t undef = undef := by rw [Array.getD_eq_getD_getElem?, hv]; rfl
    rw [this] at hr
    obtain ⟨h1, h2⟩ := yes_ok hr w
    cases hy : yes (tget tm t) w with
    | true => have := h1 hy; cases this
    | false => rfl
  | some v =>
    have : a.tmps.getD t undef = v := by rw [Array.getD_eq_getD_getElem?, hv]; rfl
    rw [this] at hr
    obtain ⟨h1, h2⟩ := yes_ok hr w
    cases hy : yes (tget tm t) w with
    | true => rw [h1 hy]; simp
    | false =>
      have := h2 hy
      cases v with
      | bool x => 
        have hx : x ≠ w := fun e => this (by rw [e])
        simp [hx]
      | _ => rfl
/-- .. as the model carries it out -/
def opW (P : Program) (all : Array Oper) (o : Oper) (a : Act) (w : World) (K : Act → World → Prop) (Q : Exit → Act → World → Prop) : Prop :=
  if Region.wanted o (yielded all a.tmps) then o.wp P a w K Q else K (a.put o.dst undef) w
section
variable {P : Program}
theorem st_put {B n : Nat} {W0 : World} {ι ι' : Inj} {tm tm1 : Tr AV} {H H1 : HP} {a : Act} {w w1 : World} {d : Option Tmp} {v : AV} {v' : Value} (h : St P B W0 n ι tm H a w) (hp : ∀ ι (a : Act) (v' : Value), a.tmps.size = n → SR ι tm a → RA ι v v' → SR ι tm1 (a.put d v'))
    (e : Ext0 ι ι') (hv : RA ι' v v') (g : GS P B W0 ι' H1 w1) : St P B W0 n ι' tm1 H1 (a.put d v') w1 :=
  ⟨hp ι' a v' h.sz (h.sr.mono e) hv, g, by rw [put_size]; exact h.sz, by rw [put_defers]; exact h.df⟩
/-- the operation itself -/
theorem op1_ok (po : PO P) {n : Nat} (hn_ : n ≤ 4000) (o : Oper) (rec : K) (hrec : ∀ f args H, FnOK P f args H (rec (.fn f args H))) (tm : Tr AV) (H : HP) (k : Tr AV → HP → Out) :
    sOp1 (unBx (aopO P (slow o) o.op)) (unBx (putP n o.dst)) P rec tm H k = .no ∨ ∃ tm1 H1, sOp1 (unBx (aopO P (slow o) o.op)) (unBx (putP n o.dst)) P rec tm H k = k tm1 H1 ∧
      (∀ B W0 ι a w, St P B W0 n ι tm H a w → ∀ K Q, (∀ ι1 a1 w1, HS H H1 → Ext H ι ι1 → St P B W0 n ι1 tm1 H1 a1 w1 → K a1 w1) → o.wp P a w K Q) ∧
      (stillK o.op = true → ∀ B W0 ι a w, St P B W0 n ι tm H a w → H1 = H ∧ ∀ K : Act → Prop, (∀ a1, St P B W0 n ι tm1 H a1 w → K a1) → o.still P a w K) := by
  have hm := mok_all po o
  have hst := T.mok_all (P := P) o
  unfold sOp1
  generalize hr : unBx (aopO P (slow o) o.op) P tm H = r
  cases r with
  | no => exact .inl rfl
  | val v H1 =>
    show unBx (putP n o.dst) tm v (fun tm => k tm H1) = .no ∨ _
    rcases putP_ok hn_ o.dst tm v with hp | ⟨tm1, hp1, hp2⟩
    · exact .inl (hp _)
    · refine .inr ⟨tm1, H1, hp1 _, fun B W0 ι a w h K Q hK => ?_, fun hs => ?_⟩
      · have := hm B W0 ι tm H a w h.sr h.gs
        rw [hr] at this
        obtain ⟨h1, v', w', ι', h2, h3, h4, h5⟩ := this
        unfold Oper.wp
        rcases h2 with h2 | ⟨h2, rfl⟩
        · rw [h2, Oper.upon_value]
          exact hK ι' _ _ h1 h3 (st_put h hp2 h3.toExt0 h4 h5)
        · rw [h2, Oper.upon_skip]
          exact hK ι' _ _ h1 h3 (st_put h hp2 h3.toExt0 (RA.un _ rfl) h5)
      · intro B W0 ι a w h
        have := hst hs B W0 ι tm H a w h.sr h.gs
        rw [hr] at this
        obtain ⟨rfl, v', h2, h4⟩ := this
        refine ⟨rfl, fun K hK => ?_⟩
        unfold Oper.still
        rw [h2, Oper.stillUpon_value]
        exact hK _ (st_put h hp2 (Ext0.refl ι) h4 h.gs)
  | enter f args =>
    cases ho : rec (.fn f args H) with
    | no => exact .inl (by show kVal (rec (.fn f args H)) _ = _; rw [ho]; rfl)
    | st e t H' => exact .inl (by show kVal (rec (.fn f args H)) _ = _; rw [ho]; rfl)
    | v v H1 =>
      have hk : kR (.enter f args) rec H (fun v H => unBx (putP n o.dst) tm v fun tm => k tm H) = unBx (putP n o.dst) tm v (fun tm => k tm H1) := by
        show kVal (rec (.fn f args H)) _ = _; rw [ho]; rfl
      rw [hk]
      rcases putP_ok hn_ o.dst tm v with hp | ⟨tm1, hp1, hp2⟩
      · exact .inl (hp _)
      · refine .inr ⟨tm1, H1, hp1 _, fun B W0 ι a w h K Q hK => ?_, fun hs => ?_⟩
        · have := hm B W0 ι tm H a w h.sr h.gs
          rw [hr] at this
          obtain ⟨args', h1, h2⟩ := this
          have hf := hrec f args H v H1 ho B W0 ι w args' h.gs h2
          unfold Oper.wp
          rw [h1, Oper.upon_enter]
          refine Calls.mono hf fun e w' => ?_
          rintro ⟨v', ι', rfl, q1, q2, q3, q4⟩
          exact hK ι' _ _ q1 q2 (st_put h hp2 q2.toExt0 q3 q4)
        · intro B W0 ι a w h
          have := hst hs B W0 ι tm H a w h.sr h.gs
          rw [hr] at this
          exact this.elim
/-- .. under its guard -/
theorem opG_ok (po : PO P) {n : Nat} (hn_ : n ≤ 4000) (all : Array Oper) (o : Oper) (rec : K) (hrec : ∀ f args H, FnOK P f args H (rec (.fn f args H))) (tm : Tr AV) (H : HP) (k : Tr AV → HP → Out) :
    unBx (sOpG P n all o) P rec tm H k = .no ∨ ∃ tm1 H1, unBx (sOpG P n all o) P rec tm H k = k tm1 H1 ∧
      (∀ B W0 ι a w, St P B W0 n ι tm H a w → ∀ K Q, (∀ ι1 a1 w1, HS H H1 → Ext H ι ι1 → St P B W0 n ι1 tm1 H1 a1 w1 → K a1 w1) → opW P all o a w K Q) ∧
      (stillK o.op = true → ∀ B W0 ι a w, St P B W0 n ι tm H a w → H1 = H ∧ ∀ K : Act → Prop, (∀ a1, St P B W0 n ι tm1 H a1 w → K a1) → if Region.wanted o (yielded all a.tmps) then o.still P a w K else K (a.put o.dst undef)) := by
  have skip : (∀ B W0 ι a w, St P B W0 n ι tm H a w → Region.wanted o (yielded all a.tmps) = false) → (unBx (putP n o.dst) tm un (fun tm => k tm H) = .no ∨ ∃ tm1 H1, unBx (putP n o.dst) tm un (fun tm => k tm H) = k tm1 H1 ∧
      (∀ B W0 ι a w, St P B W0 n ι tm H a w → ∀ K Q, (∀ ι1 a1 w1, HS H H1 → Ext H ι ι1 → St P B W0 n ι1 tm1 H1 a1 w1 → K a1 w1) → opW P all o a w K Q) ∧
      (stillK o.op = true → ∀ B W0 ι a w, St P B W0 n ι tm H a w → H1 = H ∧ ∀ K : Act → Prop, (∀ a1, St P B W0 n ι tm1 H a1 w → K a1) → if Region.wanted o (yielded all a.tmps) then o.still P a w K else K (a.put o.dst undef))) := by
    intro hw
    rcases putP_ok hn_ o.dst tm un with hp | ⟨tm1, hp1, hp2⟩
    · exact .inl (hp _)
    · refine .inr ⟨tm1, H, hp1 _, fun B W0 ι a w h K Q hK => ?_, fun hs B W0 ι a w h => ⟨rfl, fun K hK => ?_⟩⟩
      · unfold opW
        rw [if_neg (by rw [hw B W0 ι a w h]; simp)]
        exact hK ι _ _ (HS.refl H) (Ext.refl H ι) (st_put h hp2 (Ext0.refl ι) (RA.un _ rfl) h.gs)
      · rw [if_neg (by rw [hw B W0 ι a w h]; simp)]
        exact hK _ (st_put h hp2 (Ext0.refl ι) (RA.un _ rfl) h.gs)
  have take : (∀ B W0 ι a w, St P B W0 n ι tm H a w → Region.wanted o (yielded all a.tmps) = true) → (sOp1 (unBx (aopO P (slow o) o.op)) (unBx (putP n o.dst)) P rec tm H k = .no ∨ ∃ tm1 H1, sOp1 (unBx (aopO P (slow o) o.op)) (unBx (putP n o.dst)) P rec tm H k = k tm1 H1 ∧
      (∀ B W0 ι a w, St P B W0 n ι tm H a w → ∀ K Q, (∀ ι1 a1 w1, HS H H1 → Ext H ι ι1 → St P B W0 n ι1 tm1 H1 a1 w1 → K a1 w1) → opW P all o a w K Q) ∧
      (stillK o.op = true → ∀ B W0 ι a w, St P B W0 n ι tm H a w → H1 = H ∧ ∀ K : Act → Prop, (∀ a1, St P B W0 n ι tm1 H a1 w → K a1) → if Region.wanted o (yielded all a.tmps) then o.still P a w K else K (a.put o.dst undef))) := by
    intro hw
    rcases op1_ok po hn_ o rec hrec tm H k with h | ⟨tm1, H1, h1, h2, h3⟩
    · exact .inl h
    · refine .inr ⟨tm1, H1, h1, fun B W0 ι a w h K Q hK => ?_, fun hs B W0 ι a w h => ⟨(h3 hs B W0 ι a w h).1, fun K hK => ?_⟩⟩
      · unfold opW
        rw [if_pos (hw B W0 ι a w h)]
        exact h2 B W0 ι a w h K Q hK
      · rw [if_pos (hw B W0 ι a w h)]
        exact (h3 hs B W0 ι a w h).2 K hK
  have e1 : ∀ (x : Bx M) (y : Bx Sp), unBx (Bx.rec (motive := fun _ => Bx SO) (fun m => Bx.rec (motive := fun _ => Bx SO) (fun p => .mk (sOp1 m p)) y) x) = sOp1 (unBx x) (unBx y) := by
    intro x y; cases x; cases y; rfl
  cases hg : o.guard with
  | none =>
    have : unBx (sOpG P n all o) = sOp1 (unBx (aopO P (slow o) o.op)) (unBx (putP n o.dst)) := by
      unfold sOpG; rw [hg]; exact e1 _ _
    rw [this]
    exact take fun B W0 ι a w h => by unfold Region.wanted; rw [hg]
  | some q =>
    obtain ⟨j, wt⟩ := q
    cases ht : (all[j]?).bind (·.dst) with
    | none =>
      have e2 : ∀ (x : Bx M) (y : Bx Sp), unBx (Bx.rec (motive := fun _ => Bx SO) (fun m => Bx.rec (motive := fun _ => Bx SO) (fun p => .mk fun _ rec tm H k => p tm un fun tm => k tm H) y) x) = fun _ rec tm H k => unBx y tm un fun tm => k tm H := by
        intro x y; cases x; cases y; rfl
      have : unBx (sOpG P n all o) = fun _ rec tm H k => unBx (putP n o.dst) tm un fun tm => k tm H := by
        unfold sOpG; rw [hg]; generalize aopO P (slow o) o.op = x; generalize putP n o.dst = y; cases x; cases y; simp only [ht]; rfl
      rw [this]
      exact skip fun B W0 ι a w h => by unfold Region.wanted; rw [hg]; simp [yielded, ht]
    | some t =>
      have e2 : ∀ (x : Bx M) (y : Bx Sp), unBx (Bx.rec (motive := fun _ => Bx SO) (fun m => Bx.rec (motive := fun _ => Bx SO) (fun p => Bx.rec (motive := fun _ => Bx SO) (fun g => .mk fun P rec tm H k => ite' (yes (g tm) wt) (sOp1 m p P rec tm H k) (p tm un fun tm => k tm H)) (getP 12 t)) y) x)
          = fun P rec tm H k => ite' (yes (tget tm t) wt) (sOp1 (unBx x) (unBx y) P rec tm H k) (unBx y tm un fun tm => k tm H) := by
        intro x y; cases x; cases y; rfl
      have : unBx (sOpG P n all o) = fun P' rec tm H k => ite' (yes (tget tm t) wt) (sOp1 (unBx (aopO P (slow o) o.op)) (unBx (putP n o.dst)) P' rec tm H k) (unBx (putP n o.dst) tm un fun tm => k tm H) := by
        unfold sOpG; rw [hg]; generalize aopO P (slow o) o.op = x; generalize putP n o.dst = y; cases x; cases y; simp only [ht]; rfl
      rw [this]
      dsimp only
      cases hy : yes (tget tm t) wt with
      | true => exact take fun B W0 ι a w h => by unfold Region.wanted; rw [hg]; dsimp only; rw [yielded_ok h.sr ht, hy]
      | false => exact skip fun B W0 ι a w h => by unfold Region.wanted; rw [hg]; dsimp only; rw [yielded_ok h.sr ht, hy]
end
end Go.Ev
