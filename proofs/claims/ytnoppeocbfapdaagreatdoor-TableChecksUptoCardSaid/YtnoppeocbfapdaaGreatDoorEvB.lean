import Derived.Test.YtnoppeocbfapdaaGreatDoorEvA
import Derived.Calls
import Derived.Below
/-! What the evaluator's words are, said plainly. -/
namespace Go.Ev
open Go
set_option linter.unusedVariables false
set_option linter.unusedSimpArgs false
section
variable {β : Type}
@[simp] theorem ite'_true (t e : β) : ite' true t e = t := rfl
@[simp] theorem ite'_false (t e : β) : ite' false t e = e := rfl
theorem ite'_eq (c : Bool) (t e : β) : ite' c t e = if c = true then t else e := by cases c <;> rfl
@[simp] theorem fNat_eq (n : Nat) (k : Nat → β) : fNat n k = k n := by cases n <;> rfl
@[simp] theorem fInt_eq (n : Int) (k : Int → β) : fInt n k = k n := by cases n <;> simp [fInt]
@[simp] theorem fBool_eq (x : Bool) (k : Bool → β) : fBool x k = k x := by cases x <;> rfl
@[simp] theorem onV_i {i b p s m o} (k : IntKind) (n : Int) : onV (β := β) (.i k n) i b p s m o = i k n := rfl
@[simp] theorem onV_b {i b p s m o} (x : Bool) : onV (β := β) (.b x) i b p s m o = b x := rfl
@[simp] theorem onV_p {i b p s m o} (x y : Nat) : onV (β := β) (.p x y) i b p s m o = p x y := rfl
@[simp] theorem onV_s {i b p s m o} (x y l c : Nat) : onV (β := β) (.s x y l c) i b p s m o = s x y l c := rfl
@[simp] theorem onV_m {i b p s m o} (x : Nat) : onV (β := β) (.m x) i b p s m o = m x := rfl
@[simp] theorem onV_o {i b p s m o} (v : Value) : onV (β := β) (.o v) i b p s m o = o v := rfl
@[simp] theorem force_eq (v : AV) (k : AV → β) : v.force k = k v := by cases v <;> simp [AV.force]
theorem lenS_eq {α : Type} (l : List α) : lenS l = l.length := by
  induction l with
  | nil => rfl
  | cons x l ih => show Nat.succ (lenS l) = _; rw [ih]; rfl
@[simp] theorem forceL_eq (l : List Value) (k : List AV → β) : forceL l k = k (l.map AV.of) := by
  induction l generalizing k with
  | nil => rfl
  | cons x l ih =>
    have : forceL (x :: l) k = (AV.of x).force fun x => forceL l fun z => k (x :: z) := rfl
    rw [this, force_eq, ih]; rfl
theorem takeK_eq (l : List AV) (n : Nat) (k : List AV → β) : takeK l n k = k (l.take n) := by
  induction l generalizing n k with
  | nil => simp [takeK]
  | cons x l ih => cases n with
    | zero => rfl
    | succ n => show takeK l n _ = _; rw [ih]; rfl
theorem dropR_eq (l : List AV) (n : Nat) : dropR l n = l.drop n := by
  induction l generalizing n with
  | nil => simp [dropR]
  | cons x l ih => cases n with
    | zero => rfl
    | succ n => show dropR l n = _; rw [ih]; rfl
theorem appK_eq (x y : List AV) (k : List AV → β) : appK x y k = k (x ++ y) := by
  induction x generalizing y k with
  | nil => rfl
  | cons a x ih => show appK x y _ = _; rw [ih]; rfl
theorem wr1_eq (l : List AV) (i : Nat) (v : AV) (k : List AV → β) : wr1 l i v k = k (l.set i v) := by
  induction l generalizing i k with
  | nil => rfl
  | cons x l ih => cases i with
    | zero => rfl
    | succ i => show wr1 l i v _ = _; rw [ih]; rfl
/-- several cells set, one behind the other -/
def sets {α : Type} (c : List α) (i : Nat) : List α → List α
  | [] => c
  | v :: vs => sets (c.set i v) (i + 1) vs
theorem wrs_eq (vs c : List AV) (i : Nat) (k : List AV → β) : wrs vs c i k = k (sets c i vs) := by
  induction vs generalizing c i k with
  | nil => rfl
  | cons v vs ih => show wr1 c i v _ = _; rw [wr1_eq]; exact ih _ _ _
theorem sets_length {α : Type} (vs c : List α) (i : Nat) : (sets c i vs).length = c.length := by
  induction vs generalizing c i with
  | nil => rfl
  | cons v vs ih => simp only [sets, ih, List.length_set]
theorem sets_get {α : Type} (vs c : List α) (i j : Nat) (h : i + vs.length ≤ c.length) : (sets c i vs)[j]? = if i ≤ j ∧ j < i + vs.length then vs[j - i]? else c[j]? := by
  induction vs generalizing c i with
  | nil => rw [sets, if_neg (by rw [List.length_nil]; omega)]
  | cons v vs ih =>
    simp only [List.length_cons] at h
    rw [sets, ih _ _ (by simp; omega)]
    by_cases e : i = j
    · subst e
      rw [if_neg (by omega), if_pos (by simp), List.getElem?_set_self (by omega)]; simp
    · by_cases h1 : i + 1 ≤ j ∧ j < i + 1 + vs.length
      · rw [if_pos h1, if_pos (by rw [List.length_cons]; omega)]
        obtain ⟨d, rfl⟩ : ∃ d, j = i + 1 + d := ⟨j - (i + 1), by omega⟩
        rw [show i + 1 + d - (i + 1) = d by omega, show i + 1 + d - i = d + 1 by omega]; simp
      · rw [if_neg h1, if_neg (by rw [List.length_cons]; omega), List.getElem?_set_ne e]
theorem nthK_eq (l : List AV) (i : Nat) (no : β) (k : AV → β) : nthK l i no k = match l[i]? with | some x => k x | none => no := by
  induction l generalizing i with
  | nil => rfl
  | cons x l ih => cases i with
    | zero => rfl
    | succ i => show nthK l i no k = _; rw [ih]; rfl
theorem repR_eq (v : AV) (n : Nat) : repR v n = List.replicate n v := by
  induction n with
  | zero => rfl
  | succ n ih => show v :: repR v n = _; rw [ih]; rfl
theorem takeS_eq (l : List UInt8) (n : Nat) (k : List UInt8 → β) : takeS l n k = k (l.take n) := by
  induction l generalizing n k with
  | nil => simp [takeS]
  | cons x l ih => cases n with
    | zero => rfl
    | succ n => show takeS l n _ = _; rw [ih]; rfl
theorem dropS_eq (l : List UInt8) (n : Nat) : dropS l n = l.drop n := by
  induction l generalizing n with
  | nil => simp [dropS]
  | cons x l ih => cases n with
    | zero => rfl
    | succ n => show dropS l n = _; rw [ih]; rfl
theorem appS_eq (x y : List UInt8) (k : List UInt8 → β) : appS x y k = k (x ++ y) := by
  induction x generalizing y k with
  | nil => rfl
  | cons a x ih => show appS x y _ = _; rw [ih]; rfl
theorem nthS_eq (l : List UInt8) (i : Nat) (no : β) (k : UInt8 → β) : nthS l i no k = match l[i]? with | some x => k x | none => no := by
  induction l generalizing i with
  | nil => rfl
  | cons x l ih => cases i with
    | zero => rfl
    | succ i => show nthS l i no k = _; rw [ih]; rfl
theorem eqS_eq (x y : List UInt8) : eqS x y = decide (x = y) := by
  induction x generalizing y with
  | nil => cases y <;> simp [eqS]
  | cons a x ih => cases y with
    | nil => simp [eqS]
    | cons b y =>
      show ite' (Nat.beq a.toNat b.toNat) (eqS x y) false = _
      rw [ite'_eq, ih]
      have : (Nat.beq a.toNat b.toNat = true) ↔ a = b := by
        rw [Nat.beq_eq]; exact UInt8.toNat_inj
      by_cases h : a = b
      · rw [if_pos (this.2 h)]; simp [h]
      · rw [if_neg (fun e => h (this.1 e))]; simp [h]
theorem onP_eq {v : AV} {no : β} {k : Nat → Nat → β} : onP v no k = match v with | .p b o => k b o | _ => no := by cases v <;> rfl
theorem onO_eq {v : AV} {no : β} {k : Value → β} : onO v no k = match v with | .o v => k v | _ => no := by cases v <;> rfl
theorem isNat_eq {v : AV} {no : β} {k : Nat → β} : isNat v no k = match v with | .i _ (.ofNat n) => k n | _ => no := by
  cases v with
  | i kd n => cases n <;> rfl
  | _ => rfl
theorem onCells_eq {x : Blk} {no : β} {k : List AV → TypeId → Bool → β} : onCells x no k = match x with | .cells c e w => k c e w | _ => no := by cases x <;> rfl
end
/- trees -/
theorem Tr.get_e {α : Type} (d : α) (i : Nat) : (Tr.e : Tr α).get d i = d := rfl
theorem Tr.get_s {α : Type} (d v : α) (l r : Tr α) (j : Nat) : (Tr.n v l r).get d (j + 1) = if j % 2 = 0 then l.get d (j / 2) else r.get d (j / 2) := by
  show ite' (Nat.beq (Nat.mod j 2) 0) _ _ = _
  rw [ite'_eq]
  have : (Nat.beq (Nat.mod j 2) 0 = true) ↔ j % 2 = 0 := by rw [Nat.beq_eq]; rfl
  by_cases h : j % 2 = 0
  · rw [if_pos (this.2 h), if_pos h]; rfl
  · rw [if_neg (fun e => h (this.1 e)), if_neg h]; rfl
/-- a store, said plainly -/
theorem Tr.setK_spec {α β : Type} (d : α) : ∀ (fuel : Nat) (t : Tr α) (i : Nat) (v : α), i + 1 < 2 ^ fuel →
    ∃ t' : Tr α, (∀ k : Tr α → β, t.setK d fuel i v k = k t') ∧ ∀ j, t'.get d j = if j = i then v else t.get d j := by
  intro fuel
  induction fuel with
  | zero => intro t i v h; omega
  | succ fuel ih =>
    intro t i v h
    have key : ∀ w l r, (∀ j, t.get d j = (Tr.n w l r).get d j) → (∀ k : Tr α → β, t.setK d (fuel + 1) i v k = (Tr.n w l r).setK d (fuel + 1) i v k) →
        ∃ t' : Tr α, (∀ k : Tr α → β, t.setK d (fuel + 1) i v k = k t') ∧ ∀ j, t'.get d j = if j = i then v else t.get d j := by
      intro w l r hg hs
      cases i with
      | zero =>
        refine ⟨.n v l r, fun k => by rw [hs]; rfl, fun j => ?_⟩
        rw [hg]
        cases j with
        | zero => rfl
        | succ j => rw [if_neg (by omega), Tr.get_s, Tr.get_s]
      | succ i =>
        have hb : (Nat.beq (Nat.mod i 2) 0 = true) ↔ i % 2 = 0 := by rw [Nat.beq_eq]; rfl
        have hi : i / 2 + 1 < 2 ^ fuel := by
          rw [Nat.pow_succ] at h; omega
        by_cases hm : i % 2 = 0
        · obtain ⟨l', h1, h2⟩ := ih l (i / 2) v hi
          refine ⟨.n w l' r, fun k => ?_, fun j => ?_⟩
          · rw [hs]
            show ite' (Nat.beq (Nat.mod i 2) 0) _ _ = _
            rw [hb.2 hm]
            exact h1 _
          · rw [hg]
            cases j with
            | zero => rfl
            | succ j =>
              rw [Tr.get_s, Tr.get_s, h2]
              by_cases e : j = i
              · subst e; simp [hm]
              · rw [if_neg (show ¬ j + 1 = i + 1 by omega)]
                by_cases hj : j % 2 = 0
                · rw [if_pos hj, if_pos hj, if_neg (by omega)]
                · rw [if_neg hj, if_neg hj]
        · obtain ⟨r', h1, h2⟩ := ih r (i / 2) v hi
          have hb' : Nat.beq (Nat.mod i 2) 0 = false := by
            cases hq : Nat.beq (Nat.mod i 2) 0 with
            | false => rfl
            | true => exact absurd (hb.1 hq) hm
          refine ⟨.n w l r', fun k => ?_, fun j => ?_⟩
          · rw [hs]
            show ite' (Nat.beq (Nat.mod i 2) 0) _ _ = _
            rw [hb']
            exact h1 _
          · rw [hg]
            cases j with
            | zero => rfl
            | succ j =>
              rw [Tr.get_s, Tr.get_s, h2]
              by_cases e : j = i
              · subst e; simp [hm]
              · rw [if_neg (show ¬ j + 1 = i + 1 by omega)]
                by_cases hj : j % 2 = 0
                · rw [if_pos hj, if_pos hj]
                · rw [if_neg hj, if_neg hj, if_neg (by omega)]
    cases t with
    | n w l r => exact key w l r (fun _ => rfl) (fun _ => rfl)
    | e => exact key d .e .e (fun j => by
        cases j with
        | zero => rfl
        | succ j => rw [Tr.get_s]; split <;> rfl) (fun k => by cases i <;> rfl)
/- slots -/
def unBx {γ : Type} : Bx γ → γ
  | .mk f => f
noncomputable def tget (tm : Tr AV) (t : Nat) : AV := unBx (getP 12 t) tm
theorem aval_tmp (t : Nat) (tm : Tr AV) : aval (.tmp t) tm = tget tm t := by
  rfl
noncomputable def gp (fuel i : Nat) (t : Tr AV) : AV := unBx (getP fuel i) t
theorem gp_step (fuel j : Nat) (t : Tr AV) : gp (fuel + 1) (j + 1) t = match t with | .e => un | .n _ l r => if j % 2 = 0 then gp fuel (j / 2) l else gp fuel (j / 2) r := by
  have hb : (Nat.beq (Nat.mod j 2) 0 = true) ↔ j % 2 = 0 := by rw [Nat.beq_eq]; rfl
  have e : gp (fuel + 1) (j + 1) t = unBx (ite' (Nat.beq (Nat.mod j 2) 0) (Bx.mk fun t => Tr.rec (motive := fun _ => AV) un (fun _ l _ _ _ => gp fuel (j / 2) l) t) (Bx.mk fun t => Tr.rec (motive := fun _ => AV) un (fun _ _ r _ _ => gp fuel (j / 2) r) t)) t := rfl
  rw [e]
  by_cases hm : j % 2 = 0
  · rw [hb.2 hm]
    cases t with
    | e => rfl
    | n v l r => simp only [hm, if_true]; rfl
  · have hb' : Nat.beq (Nat.mod j 2) 0 = false := by
      cases hq : Nat.beq (Nat.mod j 2) 0 with
      | false => rfl
      | true => exact absurd (hb.1 hq) hm
    rw [hb']
    cases t with
    | e => rfl
    | n v l r => simp only [hm, if_false]; rfl
theorem gp_e (fuel i : Nat) : gp fuel i .e = un := by
  cases fuel with
  | zero => rfl
  | succ f => cases i with
    | zero => rfl
    | succ j => rw [gp_step]
/-- a slot is set, or (behind all slots) nothing is -/
theorem setP_spec : ∀ (fuel d : Nat) (t : Tr AV) (v : AV), ∃ t', (∀ k, unBx (setP fuel d) t v k = k t') ∧ ∀ i, (i = d ∧ (gp fuel i t' = v ∨ 2 ^ fuel ≤ d + 1)) ∨ (i ≠ d ∧ gp fuel i t' = gp fuel i t) := by
  intro fuel
  induction fuel with
  | zero => intro d t v; exact ⟨t, fun k => rfl, fun i => by
      by_cases h : i = d
      · exact .inl ⟨h, .inr (by simp)⟩
      · exact .inr ⟨h, rfl⟩⟩
  | succ fuel ih =>
    intro d t v
    cases d with
    | zero =>
      cases t with
      | e => exact ⟨.n v .e .e, fun k => rfl, fun i => by
          cases i with
          | zero => exact .inl ⟨rfl, .inl rfl⟩
          | succ j => exact .inr ⟨by omega, by rw [gp_step, gp_step]; simp [gp_e]⟩⟩
      | n w l r => exact ⟨.n v l r, fun k => rfl, fun i => by
          cases i with
          | zero => exact .inl ⟨rfl, .inl rfl⟩
          | succ j => exact .inr ⟨by omega, by rw [gp_step, gp_step]⟩⟩
    | succ d =>
      have hb : (Nat.beq (Nat.mod d 2) 0 = true) ↔ d % 2 = 0 := by rw [Nat.beq_eq]; rfl
      have hs : ∀ k, unBx (setP (fuel + 1) (d + 1)) t v k = match t with
          | .e => if d % 2 = 0 then unBx (setP fuel (d / 2)) .e v fun l => k (.n un l .e) else unBx (setP fuel (d / 2)) .e v fun r => k (.n un .e r)
          | .n w l r => if d % 2 = 0 then unBx (setP fuel (d / 2)) l v fun l => k (.n w l r) else unBx (setP fuel (d / 2)) r v fun r => k (.n w l r) := by
        intro k
        have e : unBx (setP (fuel + 1) (d + 1)) t v k = unBx (ite' (Nat.beq (Nat.mod d 2) 0)
            (Bx.mk fun t v k => Tr.rec (motive := fun _ => Out) (unBx (setP fuel (d / 2)) .e v fun l => k (.n un l .e)) (fun w l r _ _ => unBx (setP fuel (d / 2)) l v fun l => k (.n w l r)) t : Bx Sp)
            (Bx.mk fun t v k => Tr.rec (motive := fun _ => Out) (unBx (setP fuel (d / 2)) .e v fun r => k (.n un .e r)) (fun w l r _ _ => unBx (setP fuel (d / 2)) r v fun r => k (.n w l r)) t)) t v k := rfl
        rw [e]
        by_cases hm : d % 2 = 0
        · rw [hb.2 hm]; simp only [hm, if_true]; cases t <;> rfl
        · have hb' : Nat.beq (Nat.mod d 2) 0 = false := by
            cases hq : Nat.beq (Nat.mod d 2) 0 with
            | false => rfl
            | true => exact absurd (hb.1 hq) hm
          rw [hb']; simp only [hm, if_false]; cases t <;> rfl
      have key : ∀ w l r, (∀ i, gp (fuel + 1) i t = gp (fuel + 1) i (.n w l r)) → (∀ k, unBx (setP (fuel + 1) (d + 1)) t v k = if d % 2 = 0 then unBx (setP fuel (d / 2)) l v fun l => k (.n w l r) else unBx (setP fuel (d / 2)) r v fun r => k (.n w l r)) →
          ∃ t', (∀ k, unBx (setP (fuel + 1) (d + 1)) t v k = k t') ∧ ∀ i, (i = d + 1 ∧ (gp (fuel + 1) i t' = v ∨ 2 ^ (fuel + 1) ≤ d + 1 + 1)) ∨ (i ≠ d + 1 ∧ gp (fuel + 1) i t' = gp (fuel + 1) i t) := by
        intro w l r hg hk
        by_cases hm : d % 2 = 0
        · obtain ⟨l', h1, h2⟩ := ih (d / 2) l v
          refine ⟨.n w l' r, fun k => by rw [hk, if_pos hm]; exact h1 _, fun i => ?_⟩
          rw [hg]
          cases i with
          | zero => exact .inr ⟨by omega, rfl⟩
          | succ j =>
            rw [gp_step, gp_step]
            simp only
            by_cases hj : j % 2 = 0
            · rw [if_pos hj, if_pos hj]
              rcases h2 (j / 2) with ⟨e, h⟩ | ⟨e, h⟩
              · exact .inl ⟨by omega, h.imp id fun h => by rw [Nat.pow_succ]; omega⟩
              · exact .inr ⟨by omega, h⟩
            · rw [if_neg hj, if_neg hj]
              exact .inr ⟨by omega, rfl⟩
        · obtain ⟨r', h1, h2⟩ := ih (d / 2) r v
          refine ⟨.n w l r', fun k => by rw [hk, if_neg hm]; exact h1 _, fun i => ?_⟩
          rw [hg]
          cases i with
          | zero => exact .inr ⟨by omega, rfl⟩
          | succ j =>
            rw [gp_step, gp_step]
            simp only
            by_cases hj : j % 2 = 0
            · rw [if_pos hj, if_pos hj]
              exact .inr ⟨by omega, rfl⟩
            · rw [if_neg hj, if_neg hj]
              rcases h2 (j / 2) with ⟨e, h⟩ | ⟨e, h⟩
              · exact .inl ⟨by omega, h.imp id fun h => by rw [Nat.pow_succ]; omega⟩
              · exact .inr ⟨by omega, h⟩
      cases t with
      | n w l r => exact key w l r (fun _ => rfl) (fun k => hs k)
      | e => exact key un .e .e (fun i => by
          rw [gp_e]
          cases i with
          | zero => rfl
          | succ j => rw [gp_step]; simp [gp_e]) (fun k => hs k)
end Go.Ev
