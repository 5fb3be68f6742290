import Derived.Scope
import Derived.WalkMore
/-! A scope with any number of labels: what holds at each label (J, with a ghost number that falls at every jump and whenever the next label is come to), each stretch between two labels walked once. -/
namespace Go
set_option linter.unusedVariables false
set_option linter.unusedSimpArgs false
/-- A code's spine: what runs one behind the other, and the labels between. -/
def Code.flat : Code → List (Code ⊕ Nat)
  | .seq a b => a.flat ++ b.flat
  | .label l => [.inr l]
  | .skip => []
  | c => [.inl c]
def wpFlat (P : Program) (Q : Exit → Act → World → Prop) : List (Code ⊕ Nat) → Act → World → Prop
  | [], a, w => Q .normal a w
  | .inl c :: r, a, w => c.wp P (Exit.then (wpFlat P Q r) Q) a w
  | .inr _ :: r, a, w => wpFlat P Q r a w
theorem then_of {K : Act → World → Prop} {Q : Exit → Act → World → Prop} {e : Exit} {a : Act} {w : World} (h : Q e a w) (hn : e = .normal → K a w) : Exit.then K Q e a w := by
  cases e <;> first | exact hn rfl | exact h
theorem wpFlat_mono {P : Program} {Q Q' : Exit → Act → World → Prop} (hq : ∀ e a w, Q e a w → Q' e a w) : ∀ (l : List (Code ⊕ Nat)) (a : Act) (w : World), wpFlat P Q l a w → wpFlat P Q' l a w
  | [], a, w, h => hq _ _ _ h
  | .inl c :: r, a, w, h => wp_mono h fun e a w he => by
      cases e <;> first | exact wpFlat_mono hq r a w he | exact hq _ _ _ he
  | .inr _ :: r, a, w, h => wpFlat_mono hq r a w h
theorem flat_then {P : Program} {Q : Exit → Act → World → Prop} (c : Code) : ∀ (r : List (Code ⊕ Nat)) (a : Act) (w : World), wpFlat P Q (c.flat ++ r) a w → c.wp P (Exit.then (wpFlat P Q r) Q) a w := by
  induction c with
  | seq x y ihx ihy =>
    intro r a w h
    refine wp_seq ?_
    rw [Code.flat, List.append_assoc] at h
    refine wp_mono (ihx _ a w h) fun e a w he => ?_
    cases e <;> first | exact ihy r a w he | exact he
  | skip => exact fun r a w h => wp_skip h
  | label l => exact fun r a w h => wp_label h
  | _ => exact fun r a w h => h
theorem wp_of_flat {P : Program} {Q : Exit → Act → World → Prop} {c : Code} {a : Act} {w : World} (h : wpFlat P Q c.flat a w) : c.wp P Q a w :=
  wp_mono (flat_then (Q := Q) c [] a w (by rw [List.append_nil]; exact h)) fun e a w he => by cases e <;> exact he
/-- What stands behind a label, on a spine. -/
def behind (l : Nat) : List (Code ⊕ Nat) → Option (List (Code ⊕ Nat))
  | [] => none
  | .inr l' :: r => if (l' == l) = true then some r else behind l r
  | .inl _ :: r => behind l r
theorem behind_append (l : Nat) : ∀ x y, behind l (x ++ y) = match behind l x with | some r => some (r ++ y) | none => behind l y
  | [], y => by simp [behind]
  | .inr l' :: r, y => by
      by_cases h : l' = l
      · simp [behind, h]
      · simp only [List.cons_append, behind, beq_iff_eq, if_neg h]; exact behind_append l r y
  | .inl _ :: r, y => by simp only [List.cons_append, behind]; exact behind_append l r y
theorem findLabel_flat (l : Nat) (c : Code) : (findLabel c l).map Code.flat = behind l c.flat := by
  induction c with
  | seq x y ihx ihy =>
    rw [Code.flat, behind_append, ← ihx, ← ihy]
    cases hx : findLabel x l with
    | none => simp [findLabel, hx]
    | some r => simp [findLabel, hx, Code.flat]
  | label l' =>
    by_cases h : l' = l
    · simp [findLabel, behind, Code.flat, h]
    · simp [findLabel, behind, Code.flat, h]
  | _ => simp [findLabel, behind, Code.flat]
/-- As Q; by a goto to a label: J of it, with a smaller ghost. -/
def Exit.toLabel (J : Nat → Nat → Act → World → Prop) (g : Nat) (Q : Exit → Act → World → Prop) : Exit → Act → World → Prop
  | .goto l, a, w => ∃ g', g' < g ∧ J l g' a w
  | e, a, w => Q e a w
/-- The stretch up to the next label (or the end): there J of that label. -/
def wpStretch (P : Program) (J : Nat → Nat → Act → World → Prop) (g : Nat) (Q : Exit → Act → World → Prop) : List (Code ⊕ Nat) → Act → World → Prop
  | [], a, w => Q .normal a w
  | .inl c :: r, a, w => c.wp P (Exit.then (wpStretch P J g Q r) (Exit.toLabel J g Q)) a w
  | .inr l :: _, a, w => ∃ g', g' < g ∧ J l g' a w
theorem toLabel_mono {J : Nat → Nat → Act → World → Prop} {g g' : Nat} {Q : Exit → Act → World → Prop} (hg : g ≤ g') {e : Exit} {a : Act} {w : World} (h : Exit.toLabel J g Q e a w) : Exit.toLabel J g' Q e a w := by
  cases e <;> first | exact h | (obtain ⟨k, hk, hj⟩ := h; exact ⟨k, by omega, hj⟩)
section
variable {P : Program} {J : Nat → Nat → Act → World → Prop} {Q : Exit → Act → World → Prop} {c : Code}
theorem stretch_flat (g : Nat) (all : List (Code ⊕ Nat)) (ih : ∀ g', g' < g → ∀ l a w, J l g' a w → ∃ r, behind l all = some r ∧ wpFlat P (Exit.toLabel J g' Q) r a w) :
    ∀ (r : List (Code ⊕ Nat)), (∀ l p q, r = p ++ .inr l :: q → behind l all = some q) → ∀ a w, wpStretch P J g Q r a w → wpFlat P (Exit.toLabel J g Q) r a w
  | [], _, a, w, h => h
  | .inl c :: r, hr, a, w, h => wp_mono h fun e a w he => by
      cases e <;> first | exact stretch_flat g all ih r (fun l p q e => hr l (.inl c :: p) q (by rw [e]; rfl)) a w he | exact he
  | .inr l :: r, hr, a, w, h => by
      obtain ⟨g', hg, hj⟩ := h
      obtain ⟨r', hb, hw⟩ := ih g' hg l a w hj
      rw [hr l [] r rfl] at hb
      injection hb with hb
      subst hb
      exact wpFlat_mono (fun e a w he => toLabel_mono (by omega) he) r a w hw
/-- each label stands once -/
def once (all : List (Code ⊕ Nat)) : Prop := ∀ l p q, all = p ++ .inr l :: q → behind l all = some q
theorem behind_split (l : Nat) : ∀ all r, behind l all = some r → ∃ p, all = p ++ .inr l :: r
  | [], r, h => by simp [behind] at h
  | .inr l' :: x, r, h => by
      by_cases e : l' = l
      · simp [behind, e] at h; exact ⟨[], by rw [e, h]; rfl⟩
      · simp only [behind, beq_iff_eq, if_neg e] at h
        obtain ⟨p, hp⟩ := behind_split l x r h
        exact ⟨.inr l' :: p, by rw [hp]; rfl⟩
  | .inl c :: x, r, h => by
      simp only [behind] at h
      obtain ⟨p, hp⟩ := behind_split l x r h
      exact ⟨.inl c :: p, by rw [hp]; rfl⟩
def labelsOf : List (Code ⊕ Nat) → List Nat
  | [] => []
  | .inr l :: r => l :: labelsOf r
  | .inl _ :: r => labelsOf r
theorem labelsOf_append : ∀ x y, labelsOf (x ++ y) = labelsOf x ++ labelsOf y
  | [], y => rfl
  | .inr l :: r, y => by simp [labelsOf, labelsOf_append r y]
  | .inl _ :: r, y => by simp [labelsOf, labelsOf_append r y]
theorem behind_none (l : Nat) : ∀ x, l ∉ labelsOf x → behind l x = none
  | [], _ => rfl
  | .inr l' :: r, h => by
      have h1 : ¬ l' = l := fun e => h (by simp [labelsOf, e])
      simp only [behind, beq_iff_eq, if_neg h1]
      exact behind_none l r fun hm => h (by simp [labelsOf, hm])
  | .inl _ :: r, h => by simp only [behind]; exact behind_none l r h
theorem once_of_nodup {all : List (Code ⊕ Nat)} (h : (labelsOf all).Nodup) : once all := by
  rintro l p q rfl
  rw [labelsOf_append] at h
  have hl : l ∉ labelsOf p := fun hm => by
    have := (List.nodup_append.1 h).2.2 l hm l (by simp [labelsOf])
    exact this rfl
  rw [behind_append, behind_none l p hl]
  simp [behind]
theorem wp_scope_labels (J : Nat → Nat → Act → World → Prop) {a : Act} {w : World} (hno : (labelsOf c.flat).Nodup) (gtop : Nat)
    (first : wpStretch P J gtop Q c.flat a w)
    (pass : ∀ l g a w, J l g a w → ∃ r, behind l c.flat = some r ∧ wpStretch P J g Q r a w) : (Code.scope c).wp P Q a w := by
  have hon := once_of_nodup hno
  have claim : ∀ g l a w, J l g a w → ∃ r, behind l c.flat = some r ∧ wpFlat P (Exit.toLabel J g Q) r a w := by
    intro g
    induction g using Nat.strongRecOn with
    | _ g ih =>
      intro l a w hj
      obtain ⟨r, hb, hs⟩ := pass l g a w hj
      refine ⟨r, hb, stretch_flat g c.flat ih r ?_ a w hs⟩
      obtain ⟨p, hp⟩ := behind_split l _ _ hb
      intro l' p' q' e
      exact hon l' (p ++ .inr l :: p') q' (by rw [hp, e]; simp)
  have hfirst : c.wp P (Exit.toLabel J gtop Q) a w := wp_of_flat (stretch_flat gtop c.flat (fun g' _ => claim g') c.flat hon a w first)
  intro b k cs
  have key : ∀ g l a w, J l g a w → ∃ rest, findLabel c l = some rest ∧ ∃ e a' w', Q e a' w' ∧ Arrives P (lone (b.at a (.code rest :: .inScope c :: k)) cs w) b k cs e a' w' := by
    intro g
    induction g using Nat.strongRecOn with
    | _ g ih =>
      intro l a w hj
      obtain ⟨r, hb, hs⟩ := claim g l a w hj
      rw [← findLabel_flat] at hb
      obtain ⟨rest, hrest, hr⟩ := Option.map_eq_some_iff.1 hb
      refine ⟨rest, hrest, ?_⟩
      subst hr
      obtain ⟨e, a₁, w₁, hq, harr⟩ := wp_of_flat hs b (.inScope c :: k) cs
      cases e with
      | normal => exact ⟨.normal, a₁, w₁, hq, Steps.trans harr (.one step_inScope)⟩
      | exit id => exact ⟨.exit id, a₁, w₁, hq, fun k' hk => harr k' (by simp [exitTo, hk])⟩
      | goto l' =>
        obtain ⟨g', hlt, hJ'⟩ := hq
        obtain ⟨rest', hf, e₂, a₂, w₂, hq₂, harr₂⟩ := ih g' hlt l' a₁ w₁ hJ'
        exact ⟨e₂, a₂, w₂, hq₂, .of_steps (harr _ (by simp [gotoIn, hf])) harr₂⟩
      | ret => exact ⟨_, a₁, w₁, hq, harr⟩
      | panic ch => exact ⟨_, a₁, w₁, hq, harr⟩
      | outgrown => exact ⟨_, a₁, w₁, hq, harr⟩
  obtain ⟨e, a₁, w₁, hq, harr⟩ := hfirst b (.inScope c :: k) cs
  cases e with
  | normal => exact ⟨.normal, a₁, w₁, hq, .head step_scope (Steps.trans harr (.one step_inScope))⟩
  | exit id => exact ⟨.exit id, a₁, w₁, hq, fun k' hk => .head step_scope (harr k' (by simp [exitTo, hk]))⟩
  | goto l' =>
    obtain ⟨g', _, hJ'⟩ := hq
    obtain ⟨rest', hf, e₂, a₂, w₂, hq₂, harr₂⟩ := key g' l' a₁ w₁ hJ'
    exact ⟨e₂, a₂, w₂, hq₂, .of_steps (.head step_scope (harr _ (by simp [gotoIn, hf]))) harr₂⟩
  | ret => exact ⟨_, a₁, w₁, hq, .of_steps (.one step_scope) harr⟩
  | panic ch => exact ⟨_, a₁, w₁, hq, .of_steps (.one step_scope) harr⟩
  | outgrown => exact ⟨_, a₁, w₁, hq, .of_steps (.one step_scope) harr⟩
end
end Go
