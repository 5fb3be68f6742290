import Derived.Test.YtnoppeocbfapdaaGreatDoorEvS3
/-! The evaluator is sound (4): calls. -/
namespace Go.Ev
open Go Go.RowKit
set_option linter.unusedVariables false
set_option linter.unusedSimpArgs false
section
variable {P : Program}
theorem args0_ok : ∀ (vs : List AV) (i : Nat) (t : Tr AV), i + vs.length ≤ 4000 → ∃ t', (∀ k, args0 vs i t k = k t') ∧ ∀ j, gp 12 j t' = if i ≤ j ∧ j < i + vs.length then (vs[j - i]?).getD un else gp 12 j t := by
  intro vs
  induction vs with
  | nil => intro i t h; exact ⟨t, fun k => rfl, fun j => by rw [if_neg (by simp)]⟩
  | cons v vs ih =>
    intro i t h
    rw [List.length_cons] at h
    obtain ⟨t1, e1, e2⟩ := setP_spec 12 i t v
    obtain ⟨t2, f1, f2⟩ := ih (i + 1) t1 (by omega)
    refine ⟨t2, fun k => ?_, fun j => ?_⟩
    · have : ∀ x : Bx Sp, (∀ k, unBx x t v k = k t1) → Bx.rec (motive := fun _ => Out) (fun p => p t v fun t => args0 vs (i + 1) t k) x = k t2 := fun x hx => by
        cases x with
        | mk p => exact (hx _).trans (f1 k)
      exact this (setP 12 i) e1
    · rw [f2 j, List.length_cons]
      by_cases c : i + 1 ≤ j ∧ j < i + 1 + vs.length
      · rw [if_pos c, if_pos (by omega), show j - i = (j - (i + 1)) + 1 by omega]; rfl
      · rw [if_neg c]
        rcases e2 j with ⟨rfl, h1 | h1⟩ | ⟨h1, h2⟩
        · rw [if_pos (by omega), h1]; simp
        · omega
        · rw [h2, if_neg (by omega)]
theorem args0_tm (args : List AV) (hn1 : args.length ≤ 4000) : ∃ tm, (∀ k, args0 args 0 .e k = k tm) ∧ ∀ {ι : Inj} {args' : List Value}, F2 (RA ι) args args' → ∀ n, SR ι tm { tmps := args'.toArray ++ Array.replicate (n - args'.toArray.size) undef, defers := [] } := by
  obtain ⟨t', h1, h2⟩ := args0_ok args 0 .e (by omega)
  refine ⟨t', h1, fun {ι args'} h n j => ?_⟩
  show RA ι (gp 12 j t') _
  rw [h2 j, gp_e]
  have hlen := h.1
  by_cases c : 0 ≤ j ∧ j < 0 + args.length
  · rw [if_pos c]
    have hj : j < args.length := by omega
    obtain ⟨v', q1, q2⟩ := h.2 j args[j] (by simp [hj])
    have hj' : j < args'.length := by omega
    have e1 : (args'.toArray ++ Array.replicate (n - args'.toArray.size) undef).getD j undef = v' := by
      rw [Array.getD_eq_getD_getElem?, Array.getElem?_append_left (by simpa using hj')]
      simp [q1]
    rw [e1]; simpa [hj] using q2
  · rw [if_neg c]
    have e1 : (args'.toArray ++ Array.replicate (n - args'.toArray.size) undef).getD j undef = undef := by
      rw [Array.getD_eq_getD_getElem?, Array.getElem?_append_right (by simp; omega), Array.getElem?_replicate]
      split <;> rfl
    rw [e1]; exact RA.un _ rfl
/-- what is loaded -/
theorem loadB_dich (P : Program) (t : TypeId) (H : HP) (av : AV) : ∃ r : Option AV, ∀ {β : Type} (no : β) (k : AV → β), unBx (loadB (β := β) P t) H av no k = match r with | none => no | some v => k v := by
  unfold loadB
  cases hi : P.info? t with
  | none => exact ⟨none, fun no k => rfl⟩
  | some j =>
    dsimp only
    cases h1 : isAggB P t with
    | true =>
      show ∃ r : Option AV, ∀ {β : Type} (no : β) (k : AV → β), loadN j.size H av no k = match r with | none => no | some v => k v
      cases av with
      | p b q =>
        cases hb : H.get b with
        | cells c e own =>
          cases hle : Nat.ble (Nat.add q j.size) (lenS c) with
          | false => exact ⟨none, fun no k => by show onCells (H.get b) no _ = _; rw [hb]; show ite' (Nat.ble (Nat.add q j.size) (lenS c)) _ _ = _; rw [hle]; rfl⟩
          | true => exact ⟨some (mkAgg ((c.drop q).take j.size)), fun no k => by show onCells (H.get b) no _ = _; rw [hb]; show ite' (Nat.ble (Nat.add q j.size) (lenS c)) _ _ = _; rw [hle, ite'_true, dropR_eq, takeK_eq]⟩
        | _ => exact ⟨none, fun no k => by show onCells (H.get b) no _ = _; rw [hb]; rfl⟩
      | _ => exact ⟨none, fun no k => rfl⟩
    | false =>
      cases h2 : isOneB P t with
      | false => exact ⟨none, fun no k => rfl⟩
      | true =>
        show ∃ r : Option AV, ∀ {β : Type} (no : β) (k : AV → β), load1 H av no k = match r with | none => no | some v => k v
        cases av with
        | p b q =>
          cases hb : H.get b with
          | cells c e own =>
            exact ⟨c[q]?, fun no k => by show onCells (H.get b) no _ = _; rw [hb]; show nthK c q no k = _; rw [nthK_eq]; cases c[q]? <;> rfl⟩
          | _ => exact ⟨none, fun no k => by show onCells (H.get b) no _ = _; rw [hb]; rfl⟩
        | _ => exact ⟨none, fun no k => rfl⟩
def resF (tmps : Array Value) : ResultVar → Sem Value
  | .tmp t => pure (tmps.getD t undef)
  | .cell a t => do loadVar t (← asAddr (tmps.getD a undef))
theorem resK_ok (P : Program) (tm : Tr AV) (H : HP) : ∀ (l : List ResultVar), (∀ k : List AV → Out, resK P tm H .no l k = .no) ∨ ∃ avs, (∀ k : List AV → Out, resK P tm H .no l k = k avs) ∧
    ∀ B W0 ι (a : Act) w, SR ι tm a → GS P B W0 ι H w → ∃ vs, F2 (RA ι) avs vs ∧ (l.mapM (resF a.tmps)).run P w = .ok vs w := by
  intro l
  induction l with
  | nil => exact .inr ⟨[], fun k => rfl, fun B W0 ι a w _ _ => ⟨[], F2.nil _, rfl⟩⟩
  | cons x l ih =>
    cases x with
    | tmp t =>
      rcases ih with h | ⟨avs, h1, h2⟩
      · exact .inl fun k => h _
      · refine .inr ⟨aval (.tmp t) tm :: avs, fun k => h1 _, fun B W0 ι a w hs g => ?_⟩
        obtain ⟨vs, q1, q2⟩ := h2 B W0 ι a w hs g
        exact ⟨a.tmps.getD t undef :: vs, F2.cons (by rw [aval_tmp]; exact hs t) q1, by simp [List.mapM_cons, resF, q2, Result.andThen]⟩
    | cell ad t =>
      obtain ⟨r, hr⟩ := loadB_dich P t H (aval (.tmp ad) tm)
      have e0 : ∀ k : List AV → Out, resK P tm H .no (.cell ad t :: l) k = unBx (loadB (β := Out) P t) H (aval (.tmp ad) tm) .no fun v => resK P tm H .no l fun z => k (v :: z) := fun k => by
        have : ∀ x : Bx (HP → AV → Out → (AV → Out) → Out), Bx.rec (motive := fun _ => Out) (fun ld => ld H (aval (.tmp ad) tm) .no fun v => resK P tm H .no l fun z => k (v :: z)) x = unBx x H (aval (.tmp ad) tm) .no fun v => resK P tm H .no l fun z => k (v :: z) := fun x => by cases x; rfl
        exact this (loadB P t)
      cases r with
      | none => exact .inl fun k => by rw [e0, hr]
      | some v =>
        rcases ih with h | ⟨avs, h1, h2⟩
        · exact .inl fun k => by rw [e0, hr]; exact h _
        · refine .inr ⟨v :: avs, fun k => by rw [e0, hr]; exact h1 _, fun B W0 ι a w hs g => ?_⟩
          obtain ⟨vs, q1, q2⟩ := h2 B W0 ι a w hs g
          have hl := T.mok_load (P := P) (o := { (default : Oper) with op := .load t (.tmp ad) }) t (.tmp ad) rfl B W0 ι tm H a w hs g
          dsimp only at hl
          rw [hr] at hl
          obtain ⟨_, v', l1, l2⟩ := hl
          refine ⟨v' :: vs, F2.cons l2 q1, ?_⟩
          have hld : (resF a.tmps (.cell ad t)).run P w = .ok v' w := by
            have l1' : (do let v ← Instr.loadAt t (a.tmps.getD ad undef); pure (Next.value v) : Sem Next).run P w = .ok (.value v') w := l1
            show (do loadVar t (← asAddr (a.tmps.getD ad undef)) : Sem Value).run P w = _
            revert l1'
            generalize a.tmps.getD ad undef = x
            intro l1'
            cases x with
            | pointer q => cases q with
              | some q =>
                simp only [Instr.loadAt, Instr.sureAddr, asAddr, Sem.run_bind, Sem.run_pure, Result.andThen_ok] at l1' ⊢
                cases hv : (loadVar t q).run P w with
                | ok y w' => rw [hv] at l1'; simp [Result.andThen] at l1'; obtain ⟨rfl, rfl⟩ := l1'; rfl
                | halt y w' => rw [hv] at l1'; simp [Result.andThen] at l1'
              | none => simp [Instr.loadAt, Instr.sureAddr] at l1'
            | _ => simp [Instr.loadAt, Instr.sureAddr] at l1'
          simp [List.mapM_cons, hld, q2, Result.andThen]
end
end Go.Ev
