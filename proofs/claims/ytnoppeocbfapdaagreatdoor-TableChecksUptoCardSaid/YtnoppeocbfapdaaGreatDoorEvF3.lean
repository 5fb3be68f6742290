import Derived.Test.YtnoppeocbfapdaaGreatDoorEvF2
/-! The evaluator is sound (6): a function. -/
namespace Go.Ev
open Go Go.RowKit
set_option linter.unusedVariables false
set_option linter.unusedSimpArgs false
section
variable {P : Program}
theorem notTup_ok {ι : Inj} {x : AV} {v : Value} (h : notTup x = true) (hv : RA ι x v) : RV3 ι x.val v := by
  rcases hv with ⟨rfl, _⟩ | hv
  · exact absurd h (by simp [notTup, onO_eq, Ev.un, undef])
  · have hx : ∀ a, x.val ≠ .tuple a := by
      intro a e
      cases x with
      | o u =>
        have : u = .tuple a := e
        subst this
        simp [notTup, onO_eq] at h
      | _ => cases e
    generalize x.val = y at hv hx
    cases hv with
    | three h => exact h
    | tup ha => exact absurd rfl (hx _)
def retV (vs : List Value) : Value := match vs with
  | [v] => v
  | vs => .tuple vs.toArray
theorem resV_ok (avs : List AV) : (∀ k, resV avs k = .no) ∨ ∃ v, (∀ k, resV avs k = k v) ∧ ∀ ι vs, F2 (RA ι) avs vs → RA ι v (retV vs) := by
  have gen : avs.length ≠ 1 → (∀ k : AV → Out, ite' (avs.all notTup) (k (.o (.tuple ⟨avs.map AV.val⟩))) Out.no = Out.no) ∨ ∃ v, (∀ k : AV → Out, ite' (avs.all notTup) (k (.o (.tuple ⟨avs.map AV.val⟩))) Out.no = k v) ∧ ∀ ι vs, F2 (RA ι) avs vs → RA ι v (retV vs) := fun hne => by
    cases hb : avs.all notTup with
    | false => exact .inl fun k => rfl
    | true =>
      refine .inr ⟨.o (.tuple ⟨avs.map AV.val⟩), fun k => rfl, fun ι vs h => ?_⟩
      have hr : retV vs = .tuple vs.toArray := by
        cases vs with
        | nil => rfl
        | cons x l => cases l with
          | nil => have := h.1; simp at this; exact absurd this hne
          | cons _ _ => rfl
      rw [hr]
      refine .inr (.tup ?_)
      have : F2 (RV3 ι) (avs.map AV.val) vs := by
        clear hr hne
        induction avs generalizing vs with
        | nil => rw [h.nil_inv]; exact F2.nil _
        | cons x l ih =>
          obtain ⟨y, r, rfl, h1, h2⟩ := h.inv
          rw [List.all_cons, Bool.and_eq_true] at hb
          exact F2.cons (notTup_ok hb.1 h1) (ih hb.2 _ h2)
      simpa using this
  cases avs with
  | nil => exact gen (by simp)
  | cons x l => cases l with
    | nil =>
      refine .inr ⟨x, fun k => rfl, fun ι vs h => ?_⟩
      obtain ⟨y, r, rfl, h1, h2⟩ := h.inv
      rw [h2.nil_inv]; exact h1
    | cons y l => exact gen (by simp)
theorem run_results (fn : Func) (tmps : Array Value) (w : World) (vs : List Value) (h : (fn.results.toList.mapM (resF tmps)).run P w = .ok vs w) : (results fn tmps).run P w = .ok (retV vs) w := by
  have e : results fn tmps = (do let vs ← fn.results.mapM (resF tmps); pure (if h : vs.size = 1 then vs[0] else .tuple vs)) := by
    unfold results
    congr 1
  rw [e, Array.mapM_eq_mapM_toList]
  simp [h, Result.andThen]
  cases vs with
  | nil => rfl
  | cons x l => cases l with
    | nil => rfl
    | cons y l => simp [retV]
theorem kEnd_ok (fn : Func) (H0 : HP) (tm : Tr AV) (H : HP) {v : AV} {Hr : HP} (hk : kEnd P fn H0 tm H = .v v Hr) {B n : Nat} {W0 : World} {ι ι' : Inj} {a : Act} {w0 w : World} (g0 : GS P B W0 ι H0 w0) (hs : HS (fresh H0) H) (hx : Ext (fresh H0) ι ι') (h : St P B W0 n ι' tm H a w) :
    ∃ v', (results fn a.tmps).run P w = .ok v' w ∧ ∃ ι'', HS H0 Hr ∧ Ext H0 ι ι'' ∧ RA ι'' v v' ∧ GS P B W0 ι'' Hr w := by
  unfold kEnd at hk
  rcases resK_ok P tm H fn.results.toList with h1 | ⟨avs, h1, h2⟩
  · rw [h1] at hk; cases hk
  · rw [h1] at hk
    rcases resV_ok avs with h3 | ⟨u, h3, h4⟩
    · rw [h3] at hk; cases hk
    · rw [h3, force_eq] at hk
      obtain ⟨vs, q1, q2⟩ := h2 B W0 ι' a w h.sr h.gs
      obtain ⟨rfl, ι'', r⟩ := kBack_ok g0 hs hx h.gs (h4 ι' vs q1) hk
      exact ⟨_, run_results fn a.tmps w vs q2, ι'', r⟩
theorem GS.fresh {B : Nat} {W0 : World} {ι : Inj} {H : HP} {w : World} (g : GS P B W0 ι H w) : GS P B W0 ι (fresh H) w := ⟨g.hr.like (fresh_get H) (fresh_n H) (fresh_m H), g.gl, g.below, g.size⟩
theorem fn_ok {rec : K} (hrec : RecOK P rec) (f : FuncId) (args : List AV) (H : HP) : FnOK P f args H (unBx (sFn P f) rec args H) := by
  intro v Hr he B W0 ι w args' g ha
  unfold sFn at he
  cases hf : P.funcs[f]? with
  | none => rw [hf] at he; cases he
  | some fn =>
    rw [hf] at he
    dsimp only at he
    cases hb : fn.body with
    | none => rw [hb] at he; cases he
    | some c =>
      rw [hb] at he
      dsimp only at he
      cases hn : Nat.ble fn.ntmps 4000 with
      | false => rw [hn] at he; cases he
      | true =>
        rw [hn] at he
        have hn' : fn.ntmps ≤ 4000 := Nat.le_of_ble_eq_true hn
        have he2 : ite' (Nat.ble (lenS args) fn.ntmps) (args0 args 0 .e fun tm => kFn (rec (.code fn.ntmps c tm (fresh H))) P fn H) .no = .v v Hr := he
        rw [lenS_eq] at he2
        cases hl : Nat.ble args.length fn.ntmps with
        | false => rw [hl] at he2; cases he2
        | true =>
          have hl' : args.length ≤ fn.ntmps := Nat.le_of_ble_eq_true hl
          rw [hl, ite'_true] at he2
          obtain ⟨tm, t1, t2⟩ := args0_tm args (by omega)
          rw [t1] at he2
          have hlen := ha.1
          have hst : St P B W0 fn.ntmps ι tm (fresh H) { tmps := args'.toArray ++ Array.replicate (fn.ntmps - args'.toArray.size) undef, defers := [] } w :=
            ⟨t2 ha fn.ntmps, g.fresh, by simp; omega, rfl⟩
          cases ho : rec (.code fn.ntmps c tm (fresh H)) with
          | no => rw [ho] at he2; cases he2
          | v _ _ => rw [ho] at he2; cases he2
          | st e tm1 H1 =>
            rw [ho] at he2
            have hw := (hrec.code fn.ntmps c tm (fresh H) hn').wp e tm1 H1 ho B W0 ι _ w hst
            rw [ho] at hw
            refine calls_of_wp hf hb (wp_mono hw fun e' a' w' hp => ?_)
            obtain ⟨rfl, ι1, q1, q2, q3⟩ := hp
            cases e with
            | nrm =>
              obtain ⟨v', r1, ι2, r2, r3, r4, r5⟩ := kEnd_ok fn H tm1 H1 he2 g q1 q2 q3
              exact ⟨q3.df, v', r1, v', ι2, rfl, r2, r3, r4, r5⟩
            | ret =>
              obtain ⟨v', r1, ι2, r2, r3, r4, r5⟩ := kEnd_ok fn H tm1 H1 he2 g q1 q2 q3
              exact ⟨q3.df, v', r1, v', ι2, rfl, r2, r3, r4, r5⟩
            | exit j => cases he2
            | goto l => cases he2
end
end Go.Ev
