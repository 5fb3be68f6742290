import Derived.Test.YtnoppeocbfapdaaGreatDoorEvF3
/-! The evaluator is sound (7): states that the test says are the same are the same. -/
namespace Go.Ev
open Go Go.RowKit
set_option linter.unusedVariables false
set_option linter.unusedSimpArgs false
theorem eqV1_eq (a b : Value) (h : eqV1 a b = true) : a = b := by
  unfold eqV1 at h
  split at h
  · rw [eqS_eq, decide_eq_true_eq] at h
    congr 1
    apply ByteArray.ext
    exact Array.toList_inj.1 h
  · rw [Nat.beq_eq] at h; rw [h]
  · rfl
  · rw [Bool.and_eq_true, Nat.beq_eq, Nat.beq_eq] at h; rw [h.1, h.2]
  · rfl
  · rfl
  · rfl
  · rw [Bool.and_eq_true, eqI_eq] at h
    obtain rfl := eqK_eq h.1
    have := h.2
    simp at this; rw [this]
  · simp at h; rw [h]
  · rw [Bool.and_eq_true, Nat.beq_eq, Nat.beq_eq] at h; rw [h.1, h.2]
  · simp only [Bool.and_eq_true, Nat.beq_eq] at h
    rw [h.1.1.1, h.1.1.2, h.1.2, h.2]
  · cases h
theorem eqVL_eq : ∀ (a b : List Value), eqVL a b = true → a = b
  | [], [], _ => rfl
  | a :: l, b :: l', h => by
    simp only [eqVL, Bool.and_eq_true] at h
    rw [eqV1_eq _ _ h.1, eqVL_eq l l' h.2]
  | [], _ :: _, h => by simp [eqVL] at h
  | _ :: _, [], h => by simp [eqVL] at h
theorem eqV0_eq (a b : Value) (h : eqV0 a b = true) : a = b := by
  unfold eqV0 at h
  split at h
  · rw [Array.toList_inj.1 (eqVL_eq _ _ h)]
  · rw [Array.toList_inj.1 (eqVL_eq _ _ h)]
  · simp only [Bool.and_eq_true, Nat.beq_eq] at h
    rw [h.1.1, Array.toList_inj.1 (eqVL_eq _ _ h.1.2), Array.toList_inj.1 (eqVL_eq _ _ h.2)]
  · exact eqV1_eq _ _ h
theorem eqA_eq (x y : AV) (h : eqA x y = true) : x = y := by
  cases x with
  | i k a => cases y with
    | i k' b =>
      have h' : (eqK k k' && eqI a b) = true := h
      rw [Bool.and_eq_true, eqI_eq] at h'
      obtain rfl := eqK_eq h'.1
      have := h'.2
      simp at this; rw [this]
    | _ => cases h
  | b a => cases y with
    | b b => have h' : (a == b) = true := h; simp at h'; rw [h']
    | _ => cases h
  | p a b => cases y with
    | p c d => have h' : (Nat.beq a c && Nat.beq b d) = true := h; rw [Bool.and_eq_true, Nat.beq_eq, Nat.beq_eq] at h'; rw [h'.1, h'.2]
    | _ => cases h
  | s a b l m => cases y with
    | s c d l' m' =>
      have h' : (Nat.beq a c && Nat.beq b d && Nat.beq l l' && Nat.beq m m') = true := h
      simp only [Bool.and_eq_true, Nat.beq_eq] at h'
      rw [h'.1.1.1, h'.1.1.2, h'.1.2, h'.2]
    | _ => cases h
  | m a => cases y with
    | m b => have h' : Nat.beq a b = true := h; rw [Nat.beq_eq] at h'; rw [h']
    | _ => cases h
  | o v => cases y with
    | o w => rw [eqV0_eq v w h]
    | _ => cases h
theorem eqL_eq : ∀ (x y : List AV), eqL x y = true → x = y
  | [], [], _ => rfl
  | a :: l, b :: l', h => by
    have h' : ite' (eqA a b) (eqL l l') false = true := h
    cases e : eqA a b with
    | false => rw [e] at h'; cases h'
    | true => rw [e] at h'; rw [eqA_eq _ _ e, eqL_eq l l' h']
  | [], _ :: _, h => by cases h
  | _ :: _, [], h => by cases h
theorem eqPL_eq : ∀ (x y : List (AV × AV)), eqPL x y = true → x = y
  | [], [], _ => rfl
  | (a, a') :: l, (b, b') :: l', h => by
    simp only [eqPL, Bool.and_eq_true] at h
    rw [eqA_eq _ _ h.1.1, eqA_eq _ _ h.1.2, eqPL_eq l l' h.2]
  | [], _ :: _, h => by simp [eqPL] at h
  | _ :: _, [], h => by simp [eqPL] at h
theorem eqBlk_eq (x y : Blk) (h : eqBlk x y = true) : x = y := by
  unfold eqBlk at h
  split at h
  · rw [Bool.and_eq_true, Nat.beq_eq] at h; rw [eqPL_eq _ _ h.1, h.2]
  · rfl
  · simp only [Bool.and_eq_true, Nat.beq_eq, beq_iff_eq] at h
    rw [eqL_eq _ _ h.1.1, h.1.2, h.2]
  · rw [Bool.and_eq_true, Nat.beq_eq, eqS_eq, decide_eq_true_eq] at h
    rw [h.2]
    congr 1
    apply ByteArray.ext
    exact Array.toList_inj.1 h.1
  · cases h
theorem eqT_eq {α : Type} {f : α → α → Bool} (hf : ∀ a b, f a b = true → a = b) : ∀ (x y : Tr α), eqT f x y = true → x = y := by
  intro x
  induction x with
  | e => intro y h; cases y with
    | e => rfl
    | n _ _ _ => cases h
  | n v l r ihl ihr =>
    intro y h
    cases y with
    | e => cases h
    | n v' l' r' =>
      have h' : ite' (f v v') (ite' (eqT f l l') (eqT f r r') false) false = true := h
      cases e1 : f v v' with
      | false => rw [e1] at h'; cases h'
      | true =>
        rw [e1] at h'
        have h2 : ite' (eqT f l l') (eqT f r r') false = true := h'
        cases e2 : eqT f l l' with
        | false => rw [e2] at h2; cases h2
        | true =>
          rw [e2] at h2
          rw [hf _ _ e1, ihl l' e2, ihr r' h2]
theorem eqO_eq (x y : Out) (h : eqO x y = true) : x = y ∧ ∃ tm H, x = .st .nrm tm H := by
  cases x with
  | no => cases h
  | v _ _ => cases h
  | st e tm H => cases e with
    | nrm =>
      cases y with
      | no => cases h
      | v _ _ => cases h
      | st e' tm' H' => cases e' with
        | nrm =>
          have h' : (eqT eqA tm tm' && eqH H H') = true := h
          rw [Bool.and_eq_true] at h'
          have h1 := eqT_eq eqA_eq _ _ h'.1
          have h2 : H = H' := by
            obtain ⟨n, d, m, t⟩ := H
            obtain ⟨n', d', m', t'⟩ := H'
            have h3 : (Nat.beq n n' && Nat.beq d d' && Nat.beq m m' && eqT eqBlk t t') = true := h'.2
            simp only [Bool.and_eq_true, Nat.beq_eq] at h3
            rw [h3.1.1.1, h3.1.1.2, h3.1.2, eqT_eq eqBlk_eq _ _ h3.2]
          subst h1; subst h2
          exact ⟨rfl, _, _, rfl⟩
        | _ => cases h
    | _ => cases h
end Go.Ev
