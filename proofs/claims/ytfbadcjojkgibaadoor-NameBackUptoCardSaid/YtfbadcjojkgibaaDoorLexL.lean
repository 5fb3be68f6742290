import Derived.Test.YtfbadcjojkgibaaDoorBaseP
/-! Lexicographic order over a comparison that tells -1, 0 or 1. -/
namespace Go.Proofs.YtfbadcjojkgibaaDoor.Plain
set_option linter.unusedVariables false
structure IsCmp {α : Type} (c : α → α → Int) : Prop where
  val : ∀ x y, c x y = -1 ∨ c x y = 0 ∨ c x y = 1
  anti : ∀ x y, c y x = - c x y
  eq : ∀ x y, c x y = 0 ↔ x = y
  trans : ∀ x y z, c x y = -1 → c y z = -1 → c x z = -1
theorem IsCmp.refl {α : Type} {c : α → α → Int} (h : IsCmp c) (x : α) : c x x = 0 := (h.eq x x).2 rfl
theorem IsCmp.le {α : Type} {c : α → α → Int} (h : IsCmp c) {x y z : α} (h1 : c x y ≤ 0) (h2 : c y z ≤ 0) : c x z ≤ 0 ∧ (c x y < 0 → c x z < 0) ∧ (c y z < 0 → c x z < 0) := by
  rcases h.val x y with a | a | a
  · rcases h.val y z with b | b | b
    · have := h.trans x y z a b
      omega
    · have e := (h.eq y z).1 b
      subst e
      omega
    · omega
  · have e := (h.eq x y).1 a
    subst e
    omega
  · omega
def icmp (x y : Int) : Int := if x < y then -1 else if y < x then 1 else 0
theorem icmp_is : IsCmp icmp where
  val x y := by unfold icmp; repeat' split
                all_goals omega
  anti x y := by unfold icmp; repeat' split
                 all_goals omega
  eq x y := by unfold icmp; repeat' split
               all_goals omega
  trans x y z := by unfold icmp; repeat' split
                    all_goals omega
def lex {α : Type} (c : α → α → Int) : List α → List α → Int
  | [], [] => 0
  | [], _ :: _ => -1
  | _ :: _, [] => 1
  | x :: r, y :: s => if c x y = 0 then lex c r s else c x y
theorem lex_is {α : Type} {c : α → α → Int} (h : IsCmp c) : IsCmp (lex c) where
  val x := by
    induction x with
    | nil => intro y; cases y <;> simp [lex]
    | cons a r ih =>
      intro y
      cases y with
      | nil => simp [lex]
      | cons b s =>
        unfold lex
        split
        · exact ih s
        · exact h.val a b
  anti x := by
    induction x with
    | nil => intro y; cases y <;> simp [lex]
    | cons a r ih =>
      intro y
      cases y with
      | nil => simp [lex]
      | cons b s =>
        unfold lex
        have := h.anti a b
        by_cases e : c a b = 0
        · rw [if_pos e, if_pos (by omega)]; exact ih s
        · rw [if_neg e, if_neg (by omega)]; exact this
  eq x := by
    induction x with
    | nil => intro y; cases y <;> simp [lex]
    | cons a r ih =>
      intro y
      cases y with
      | nil => simp [lex]
      | cons b s =>
        unfold lex
        by_cases e : c a b = 0
        · rw [if_pos e]
          have e2 := (h.eq a b).1 e
          subst e2
          rw [ih s]
          simp
        · rw [if_neg e]
          have : ¬ a = b := fun q => e ((h.eq a b).2 q)
          simp [e, this]
  trans x := by
    induction x with
    | nil =>
      intro y z
      cases y <;> cases z <;> simp [lex]
    | cons a r ih =>
      intro y z
      cases y with
      | nil => intro h1; simp [lex] at h1
      | cons b s =>
        cases z with
        | nil => intro _ h2; simp [lex] at h2
        | cons d t =>
          unfold lex
          intro h1 h2
          by_cases e : c a b = 0
          · rw [if_pos e] at h1
            have e2 := (h.eq a b).1 e
            subst e2
            by_cases e3 : c a d = 0
            · rw [if_pos e3] at h2 ⊢
              exact ih s t h1 h2
            · rw [if_neg e3] at h2 ⊢
              exact h2
          · rw [if_neg e] at h1
            by_cases e3 : c b d = 0
            · have e4 := (h.eq b d).1 e3
              subst e4
              rw [if_neg e]
              exact h1
            · rw [if_neg e3] at h2
              have := h.trans a b d h1 h2
              rw [if_neg (by omega)]
              exact this
theorem prefix_between {α : Type} {c : α → α → Int} (h : IsCmp c) : ∀ (D A B C : List α), D <+: A → D <+: C → lex c A B ≤ 0 → lex c B C ≤ 0 → D <+: B := by
  intro D
  induction D with
  | nil => intro A B C _ _ _ _; exact List.nil_prefix
  | cons d D ih =>
    intro A B C hA hC h1 h2
    obtain ⟨u, rfl⟩ := hA
    obtain ⟨v, rfl⟩ := hC
    cases B with
    | nil => simp [lex] at h1
    | cons b s =>
      simp only [List.cons_append, lex] at h1 h2
      have ha := h.anti d b
      by_cases e : c d b = 0
      · rw [if_pos e] at h1
        rw [if_pos (by omega)] at h2
        have e2 := (h.eq d b).1 e
        subst e2
        exact List.cons_prefix_cons.2 ⟨rfl, ih _ _ _ (List.prefix_append _ _) (List.prefix_append _ _) h1 h2⟩
      · rw [if_neg e] at h1
        rw [if_neg (by omega)] at h2
        rcases h.val d b with q | q | q <;> omega
theorem prefix_less {α : Type} {c : α → α → Int} (h : IsCmp c) : ∀ (P A : List α), P <+: A → P ≠ A → lex c P A = -1 := by
  intro P
  induction P with
  | nil => intro A _ hne; cases A with
    | nil => exact absurd rfl hne
    | cons _ _ => rfl
  | cons p P ih =>
    intro A hp hne
    obtain ⟨u, rfl⟩ := hp
    simp only [List.cons_append, lex]
    rw [if_pos (h.refl p)]
    exact ih _ (List.prefix_append _ _) (fun e => hne (by rw [List.cons_append, ← e]))
def sgn (d : Int) : Int := if d < 0 then -1 else if 0 < d then 1 else 0
end Go.Proofs.YtfbadcjojkgibaaDoor.Plain
