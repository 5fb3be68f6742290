import Derived.Test.YtnoppeocbfapdaaGreatDoorEvF
/-! The evaluator is sound (5): behind a call. -/
namespace Go.Ev
open Go Go.RowKit
set_option linter.unusedVariables false
set_option linter.unusedSimpArgs false
theorem F2.back {α β γ : Type} {R0 : α → β → Prop} {R R' : α → γ → Prop} {l : List α} {l0 : List β} {l' : List γ} (h0 : F2 R0 l l0) (h : F2 R l l') (hb : ∀ x y0 y, R0 x y0 → R x y → R' x y) : F2 R' l l' :=
  ⟨h.1, fun i v hv => by obtain ⟨y0, _, q0⟩ := h0.2 i v hv; obtain ⟨y, p1, q1⟩ := h.2 i v hv; exact ⟨y, p1, hb _ _ _ q0 q1⟩⟩
section
variable {ι ι' ι'' : Inj} (hι : ∀ b, ι b ≠ .un → ι'' b = ι' b)
include hι
theorem RV1.back {v v0 v' : Value} (h0 : RV1 ι v v0) (h : RV1 ι' v v') : RV1 ι'' v v' := by
  cases h with
  | lit h => exact .lit h
  | un h hb => exact .un h hb
  | ptr h =>
    cases h0 with
    | lit h0 => simp [lit1] at h0
    | ptr h0 => exact .ptr (by rw [hι _ (by rw [h0]; simp)]; exact h)
    | dptr h0 => exact .ptr (by rw [hι _ (by rw [h0]; simp)]; exact h)
  | dptr h =>
    cases h0 with
    | lit h0 => simp [lit1] at h0
    | ptr h0 => exact .dptr (by rw [hι _ (by rw [h0]; simp)]; exact h)
    | dptr h0 => exact .dptr (by rw [hι _ (by rw [h0]; simp)]; exact h)
  | sl h hc hS =>
    cases h0 with
    | lit h0 => simp [lit1] at h0
    | sl h0 => exact .sl (by rw [hι _ (by rw [h0]; simp)]; exact h) hc hS
    | dsl h0 => exact .sl (by rw [hι _ (by rw [h0]; simp)]; exact h) hc hS
  | dsl h hc =>
    cases h0 with
    | lit h0 => simp [lit1] at h0
    | sl h0 => exact .dsl (by rw [hι _ (by rw [h0]; simp)]; exact h) hc
    | dsl h0 => exact .dsl (by rw [hι _ (by rw [h0]; simp)]; exact h) hc
  | mp h =>
    cases h0 with
    | lit h0 => simp [lit1] at h0
    | mp h0 => exact .mp (by rw [hι _ (by rw [h0]; simp)]; exact h)
    | dmp h0 => exact .mp (by rw [hι _ (by rw [h0]; simp)]; exact h)
  | dmp h =>
    cases h0 with
    | lit h0 => simp [lit1] at h0
    | mp h0 => exact .dmp (by rw [hι _ (by rw [h0]; simp)]; exact h)
    | dmp h0 => exact .dmp (by rw [hι _ (by rw [h0]; simp)]; exact h)
theorem RV2.back {v v0 v' : Value} (h0 : RV2 ι v v0) (h : RV2 ι' v v') : RV2 ι'' v v' := by
  cases h with
  | one h =>
    cases h0 with
    | one h0 => exact .one (h0.back hι h)
    | fn _ _ => cases h with
      | lit h => simp [lit1] at h
  | fn ha hc =>
    cases h0 with
    | one h0 => cases h0 with
      | lit h => simp [lit1] at h
    | fn ha0 hc0 => exact .fn (ha0.back ha fun _ _ _ a b => a.back hι b) (hc0.back hc fun _ _ _ a b => a.back hι b)
theorem RV3.back {v v0 v' : Value} (h0 : RV3 ι v v0) (h : RV3 ι' v v') : RV3 ι'' v v' := by
  cases h with
  | two h =>
    cases h0 with
    | two h0 => exact .two (h0.back hι h)
    | agg _ => cases h with
      | one h => cases h with
        | lit h => simp [lit1] at h
  | agg ha =>
    cases h0 with
    | two h0 => cases h0 with
      | one h0 => cases h0 with
        | lit h => simp [lit1] at h
    | agg ha0 => exact .agg (ha0.back ha fun _ _ _ a b => a.back hι b)
theorem RV4.back {v v0 v' : Value} (h0 : RV4 ι v v0) (h : RV4 ι' v v') : RV4 ι'' v v' := by
  cases h with
  | three h =>
    cases h0 with
    | three h0 => exact .three (h0.back hι h)
    | tup _ => cases h with
      | two h => cases h with
        | one h => cases h with
          | lit h => simp [lit1] at h
          | un h hb => exact .three (.two (.one (.un h hb)))
  | tup ha =>
    cases h0 with
    | three h0 => cases h0 with
      | two h0 => cases h0 with
        | one h0 => cases h0 with
          | lit h => simp [lit1] at h
          | un h hb => exact .tup (by rw [F2.nil_inv ha]; exact F2.nil _)
    | tup ha0 => exact .tup (ha0.back ha fun _ _ _ a b => a.back hι b)
end
theorem RA.un_nob {ι : Inj} {v : Value} (h : RA ι Ev.un v) : nob v = true := by
  rcases h with ⟨_, h⟩ | h
  · exact h
  · cases h with
    | three h => cases h with
      | two h => cases h with
        | one h => cases h with
          | lit h => simp [AV.val, Ev.un, undef, lit1] at h
          | un h hb => exact hb
    | tup ha => rfl
theorem RA.back {ι ι' ι'' : Inj} (hι : ∀ b, ι b ≠ .un → ι'' b = ι' b) {a : AV} {v0 v' : Value} (h0 : RA ι a v0) (h : RA ι' a v') : RA ι'' a v' := by
  rcases h0 with ⟨rfl, _⟩ | h0
  · exact RA.un _ h.un_nob
  · rcases h with h | h
    · exact .inl h
    · exact .inr (h0.back hι h)
section
variable {P : Program}
theorem BR.back {ι ι' ι'' : Inj} (hι : ∀ b, ι b ≠ .un → ι'' b = ι' b) {B : Nat} {x : Blk} {r0 S0 z0 r S z : Nat} {w0 w : World} (h0 : BR P B ι x r0 S0 z0 w0) (h : BR P B ι' x r S z w) : BR P B ι'' x r S z w := by
  cases x with
  | dead => exact h
  | cells c e own =>
    obtain ⟨cs0, _, _, _, _, h5, _⟩ := h0
    obtain ⟨cs, fr, q1, q2, q3, q4, q5⟩ := h
    exact ⟨cs, fr, q1, q2, q3, ⟨q4.1, fun j a hj => by
      obtain ⟨v0, _, p0⟩ := h5.2 j a hj
      obtain ⟨v, p1, p2⟩ := q4.2 j a hj
      exact ⟨v, p1, p0.back hι p2⟩⟩, q5⟩
  | iter s p => exact h
  | mp es cl =>
    obtain ⟨es0, _, _, h3⟩ := h0
    obtain ⟨es', q1, q2, q3⟩ := h
    exact ⟨es', q1, q2, h3.back q3 fun _ _ _ a b => ⟨a.1.back hι b.1, a.2.back hι b.2⟩⟩
theorem fresh_n (H : HP) : hn (fresh H) = hn H := by cases H; rfl
theorem fresh_m (H : HP) : hm (fresh H) = hm H := by cases H; rfl
theorem fresh_get (H : HP) (b : Nat) : (fresh H).get b = H.get b := by cases H; rfl
theorem HR.like {B : Nat} {ι : Inj} {H H' : HP} {w : World} (h : HR P B ι H w) (hg : ∀ b, H'.get b = H.get b) (hn_ : hn H' = hn H) (hm_ : hm H' = hm H) : HR P B ι H' w :=
  ⟨fun b r S z hb => by rw [hg]; exact h.blk b r S z hb, fun b hb => h.alive b (by rw [← hg]; exact hb), fun b h1 h2 => h.free b (by rw [← hn_]; exact h1) (by rw [← hm_]; exact h2), h.inj, by rw [hn_]; exact h.pos⟩
theorem kBack_ok {B : Nat} {W0 : World} {ι ι' : Inj} {H0 H2 : HP} {w0 w : World} {v : AV} {v' : Value} (g0 : GS P B W0 ι H0 w0) (hs : HS (fresh H0) H2) (hx : Ext (fresh H0) ι ι') (g2 : GS P B W0 ι' H2 w) (hv : RA ι' v v') {u : AV} {Hr : HP} (hk : kBack v H0 H2 = .v u Hr) :
    u = v ∧ ∃ ι'', HS H0 Hr ∧ Ext H0 ι ι'' ∧ RA ι'' v v' ∧ GS P B W0 ι'' Hr w := by
  obtain ⟨n0, d0, m0, t0⟩ := H0
  obtain ⟨n, d, m, t⟩ := H2
  have hx' : Ext (.mk n0 d0 m0 t0) ι ι' := ⟨hx.toExt0, fun b h1 h2 => hx.un b h1 h2⟩
  have hsn : n0 ≤ n := hs.n
  have hsm : m = m0 := hs.m
  have hsame : ∀ b, t0.get .dead b ≠ .dead → (b < d ∨ (m0 ≤ b ∧ 0 < d)) → t.get .dead b = t0.get .dead b := hs.same
  have h0pos : 0 < n0 := g0.hr.pos
  have keep : ∀ d', d' ≤ d0 → (d' ≤ d ∨ n0 ≤ d) → HS (.mk n0 d0 m0 t0) (.mk n d' m t) ∧ GS P B W0 ι' (.mk n d' m t) w := fun d' h1 h2 => by
    refine ⟨⟨hsn, hsm, h1, fun b hb hc => ?_⟩, ⟨g2.hr.like (fun _ => rfl) rfl rfl, g2.gl, g2.below, g2.size⟩⟩
    refine hsame b hb ?_
    rcases h2 with h2 | h2
    · simp only [hd, hm] at hc; omega
    · have hal : ∃ r S z, ι b = .live r S z := g0.hr.alive b hb
      by_cases hbn : b < n0
      · left; omega
      · by_cases hbm : b < m0
        · obtain ⟨r, S, z, hl⟩ := hal
          rw [g0.hr.free b (by simp only [hn]; omega) hbm] at hl; cases hl
        · right; omega
  have hk' : ite' (Nat.blt d n0) (ite' (Nat.blt d d0) (Out.v v (.mk n d m t)) (Out.v v (.mk n d0 m t))) (ite' (lit v || isUn v) (Out.v v (.mk n0 d0 m0 t0)) (Out.v v (.mk n d0 m t))) = Out.v u Hr := hk
  cases h1 : Nat.blt d n0 with
  | true =>
    rw [h1, ite'_true] at hk'
    cases h2 : Nat.blt d d0 with
    | true =>
      rw [h2, ite'_true] at hk'
      injection hk' with e1 e2
      subst e1; subst e2
      have hlt : d < d0 := by rw [← Nat.blt_eq]; exact h2
      obtain ⟨q1, q2⟩ := keep d (by omega) (.inl (Nat.le_refl _))
      exact ⟨rfl, ι', q1, hx', hv, q2⟩
    | false =>
      rw [h2, ite'_false] at hk'
      injection hk' with e1 e2
      subst e1; subst e2
      have hge : ¬ d < d0 := fun e => by rw [← Nat.blt_eq] at e; rw [e] at h2; cases h2
      obtain ⟨q1, q2⟩ := keep d0 (Nat.le_refl _) (.inl (by omega))
      exact ⟨rfl, ι', q1, hx', hv, q2⟩
  | false =>
    have hge : n0 ≤ d := by
      apply Nat.le_of_not_lt
      intro e; rw [← Nat.blt_eq] at e; rw [e] at h1; cases h1
    rw [h1, ite'_false] at hk'
    cases h2 : (lit v || isUn v) with
    | false =>
      rw [h2, ite'_false] at hk'
      injection hk' with e1 e2
      subst e1; subst e2
      obtain ⟨q1, q2⟩ := keep d0 (Nat.le_refl _) (.inr hge)
      exact ⟨rfl, ι', q1, hx', hv, q2⟩
    | true =>
      rw [h2, ite'_true] at hk'
      injection hk' with e1 e2
      subst e1; subst e2
      let ι'' : Inj := fun b => match ι b with | .un => .un | _ => ι' b
      have hι : ∀ b, ι b ≠ .un → ι'' b = ι' b := fun b hb => by
        show (match ι b with | .un => Lv.un | _ => ι' b) = ι' b
        cases h : ι b with
        | un => exact absurd h hb
        | _ => rfl
      have hιu : ∀ b, ι b = .un → ι'' b = .un := fun b hb => by
        show (match ι b with | .un => Lv.un | _ => ι' b) = .un
        rw [hb]
      have live0 : ∀ b r S z, ι'' b = .live r S z → ι b = .live r S z ∧ ι' b = .live r S z := fun b r S z hb => by
        cases h : ι b with
        | un => rw [hιu b h] at hb; cases hb
        | dead =>
          rw [hι b (by rw [h]; simp), hx.dead b h] at hb; cases hb
        | live r1 S1 z1 =>
          rw [hι b (by rw [h]; simp)] at hb
          rcases hx.live b _ _ _ h with h3 | h3
          · rw [h3] at hb; rw [← hb]; exact ⟨rfl, h3.trans rfl⟩
          · rw [h3] at hb; cases hb
      have same0 : ∀ b, t0.get .dead b ≠ .dead → t.get .dead b = t0.get .dead b := fun b hb => by
        refine hsame b hb ?_
        by_cases hbn : b < n0
        · left; omega
        · by_cases hbm : b < m0
          · obtain ⟨r, S, z, hl⟩ : ∃ r S z, ι b = .live r S z := g0.hr.alive b hb
            rw [g0.hr.free b (by simp only [hn]; omega) hbm] at hl; cases hl
          · right; omega
      refine ⟨rfl, ι'', HS.refl _, ⟨⟨fun b r S z hb => ?_, fun b hb => ?_⟩, fun b hb _ => hιu b hb⟩, ?_, ⟨⟨fun b r S z hb => ?_, fun b hb => ?_, fun b q1 q2 => hιu b (g0.hr.free b q1 q2), fun b b' r S z S' z' q1 q2 => ?_, h0pos⟩, fun q hq => ?_, g2.below, g2.size⟩⟩
      · rw [hι b (by rw [hb]; simp)]; exact hx.live b r S z hb
      · rw [hι b (by rw [hb]; simp)]; exact hx.dead b hb
      · rw [Bool.or_eq_true] at h2
        rcases h2 with h2 | h2
        · rw [hv.lit_inv h2]; exact .inr (.of_lit (lit_lit0 h2))
        · have : v = un := by
            cases v with
            | o x => cases x with
              | tuple vs =>
                have : vs.toList.isEmpty = true := h2
                have : vs = #[] := by simpa using this
                subst this; rfl
              | _ => cases h2
            | _ => cases h2
          subst this
          exact RA.un _ hv.un_nob
      · obtain ⟨q1, q2⟩ := live0 b r S z hb
        have b0 := g0.hr.blk b r S z q1
        have b2 := g2.hr.blk b r S z q2
        have hne : t0.get .dead b ≠ .dead := fun e => by
          have : (HP.mk n0 d0 m0 t0).get b = .dead := e
          rw [this] at b0; exact b0
        have e2 : (HP.mk n d m t).get b = (HP.mk n0 d0 m0 t0).get b := same0 b hne
        rw [e2] at b2
        exact b0.back hι b2
      · obtain ⟨r, S, z, hl⟩ := g0.hr.alive b hb
        have e2 : (HP.mk n d m t).get b = (HP.mk n0 d0 m0 t0).get b := same0 b hb
        obtain ⟨r2, S2, z2, hl2⟩ := g2.hr.alive b (by rw [e2]; exact hb)
        exact ⟨r2, S2, z2, by rw [hι b (by rw [hl]; simp)]; exact hl2⟩
      · exact g2.hr.inj b b' r S z S' z' (live0 b r S z q1).2 (live0 b' r S' z' q2).2
      · have hq0 := g0.gl q hq
        rcases hq0 with hq0 | ⟨S, z, hq0⟩
        · left; rw [hι q (by rw [hq0]; simp)]; exact hx.dead q hq0
        · rw [hι q (by rw [hq0]; simp)]; exact g2.gl q hq
end
end Go.Ev
