import Derived.Test.YtnoppeocbfapdaaGreatDoorEvS2
/-! The evaluator is sound (3): code. -/
namespace Go.Ev
open Go Go.RowKit
set_option linter.unusedVariables false
set_option linter.unusedSimpArgs false
section
variable {P : Program}
def LW (P : Program) (b : Code) (Q : Exit → Act → World → Prop) (a : Act) (w : World) : Prop := ∀ (fr : Frame) (k : List Item) (cs : List Frame), ∃ e a' w', Q e a' w' ∧ Arrives P (lone (fr.at a (.code b :: .inLoop b :: k)) cs w) fr k cs e a' w'
theorem lw_wp {b : Code} {Q : Exit → Act → World → Prop} {a : Act} {w : World} (h : LW P b Q a w) : (Code.loop b).wp P Q a w := fun fr k cs => by
  obtain ⟨e, a', w', hq, harr⟩ := h fr k cs
  exact ⟨e, a', w', hq, .of_steps (.one step_loop) harr⟩
theorem lw_round {b : Code} {Q : Exit → Act → World → Prop} {a : Act} {w : World} (h : b.wp P (Exit.then (LW P b Q) Q) a w) : LW P b Q a w := fun fr k cs => by
  obtain ⟨e, a₁, w₁, hq, harr⟩ := h fr (.inLoop b :: k) cs
  cases e with
  | normal =>
    obtain ⟨e₂, a₂, w₂, hq₂, harr₂⟩ := hq fr k cs
    exact ⟨e₂, a₂, w₂, hq₂, .of_steps (Steps.trans harr (.one step_inLoop)) harr₂⟩
  | exit id => exact ⟨_, a₁, w₁, hq, .pass (x := .inLoop b) rfl (fun _ _ => .inl (by simp)) harr⟩
  | goto l => exact ⟨_, a₁, w₁, hq, .pass (x := .inLoop b) rfl (fun _ _ => .inl (by simp)) harr⟩
  | ret => exact ⟨_, a₁, w₁, hq, .pass (x := .inLoop b) rfl (fun _ _ => .inl (by simp)) harr⟩
  | panic ch => exact ⟨_, a₁, w₁, hq, .pass (x := .inLoop b) rfl (fun _ _ => .inl (by simp)) harr⟩
  | outgrown => exact ⟨_, a₁, w₁, hq, .pass (x := .inLoop b) rfl (fun _ _ => .inl (by simp)) harr⟩
def SW (P : Program) (b c : Code) (Q : Exit → Act → World → Prop) (a : Act) (w : World) : Prop := ∀ (fr : Frame) (k : List Item) (cs : List Frame), ∃ e a' w', Q e a' w' ∧ Arrives P (lone (fr.at a (.code c :: .inScope b :: k)) cs w) fr k cs e a' w'
theorem sw_wp {b : Code} {Q : Exit → Act → World → Prop} {a : Act} {w : World} (h : SW P b b Q a w) : (Code.scope b).wp P Q a w := fun fr k cs => by
  obtain ⟨e, a', w', hq, harr⟩ := h fr k cs
  exact ⟨e, a', w', hq, .of_steps (.one step_scope) harr⟩
def inSc (P : Program) (b : Code) (Q : Exit → Act → World → Prop) : Exit → Act → World → Prop
  | .goto l, a, w => ∃ r, findLabel b l = some r ∧ SW P b r Q a w
  | e, a, w => Q e a w
theorem sw_round {b c : Code} {Q : Exit → Act → World → Prop} {a : Act} {w : World} (h : c.wp P (inSc P b Q) a w) : SW P b c Q a w := fun fr k cs => by
  obtain ⟨e, a₁, w₁, hq, harr⟩ := h fr (.inScope b :: k) cs
  cases e with
  | normal => exact ⟨.normal, a₁, w₁, hq, Steps.trans harr (.one step_inScope)⟩
  | exit id => exact ⟨.exit id, a₁, w₁, hq, fun k' hk => harr k' (by simp [exitTo, hk])⟩
  | goto l =>
    obtain ⟨r, hf, hsw⟩ := hq
    obtain ⟨e₂, a₂, w₂, hq₂, harr₂⟩ := hsw fr k cs
    exact ⟨e₂, a₂, w₂, hq₂, .of_steps (harr _ (by simp [gotoIn, hf])) harr₂⟩
  | ret => exact ⟨_, a₁, w₁, hq, harr⟩
  | panic ch => exact ⟨_, a₁, w₁, hq, harr⟩
  | outgrown => exact ⟨_, a₁, w₁, hq, harr⟩
structure CodeOK (P : Program) (n : Nat) (c : Code) (tm : Tr AV) (H : HP) (o : Out) : Prop where
  wp : ∀ e tm' H', o = .st e tm' H' → ∀ B W0 ι a w, St P B W0 n ι tm H a w → c.wp P (Post P B W0 n ι H o) a w
  lp : ∀ b, c = .loop b → ∀ e tm' H', o = .st e tm' H' → ∀ B W0 ι a w, St P B W0 n ι tm H a w → LW P b (Post P B W0 n ι H o) a w
def ScopeOK (P : Program) (n : Nat) (b c : Code) (tm : Tr AV) (H : HP) (o : Out) : Prop := ∀ e tm' H', o = .st e tm' H' → ∀ B W0 ι a w, St P B W0 n ι tm H a w → SW P b c (Post P B W0 n ι H o) a w
def PostA (P : Program) (B : Nat) (W0 : World) (n n0 : Nat) (ι : Inj) (H : HP) (o : Out) : Exit → Act → World → Prop := fun e' a' w' => match o with
  | .st e tm' H' => e' = exOf e ∧ ∃ ι', HS H H' ∧ Ext (setN n0 (hm H) H) ι ι' ∧ St P B W0 n ι' tm' H' a' w'
  | _ => False
def AnyOK (P : Program) (n : Nat) (all : Array Oper) (fuel : Nat) (listed : Array Bool) (tm : Tr AV) (H : HP) (n0 : Nat) (o : Out) : Prop := ∀ e tm' H', o = .st e tm' H' → ∀ B W0 ι a w, St P B W0 n ι tm H a w →
  (∀ i, listed.getD i true = false → ∀ b, n0 + stride * i ≤ b → b < n0 + stride * (i + 1) → ι b = .un) → 0 < n0 → n0 ≤ hn H → n0 + stride * all.size ≤ hm H → Region.noSelect all = true → wpAny P .any all (PostA P B W0 n n0 ι H o) fuel listed a w
structure RecOK (P : Program) (rec : K) : Prop where
  fn : ∀ f args H, FnOK P f args H (rec (.fn f args H))
  ops : ∀ n all l tm H, n ≤ 4000 → OpsOK P n all l tm H (rec (.ops n all l tm H))
  any : ∀ n all fuel listed tm H n0, n ≤ 4000 → AnyOK P n all fuel listed tm H n0 (rec (.any n all fuel listed tm H n0))
  code : ∀ n c tm H, n ≤ 4000 → CodeOK P n c tm H (rec (.code n c tm H))
  scope : ∀ n b c tm H, n ≤ 4000 → ScopeOK P n b c tm H (rec (.scope n b c tm H))
theorem HR.drawn {B : Nat} {ι : Inj} {H : HP} {w : World} (h : HR P B ι H w) (k : Nat) : HR P B ι H { w with drawn := k } := h.heap fun _ _ => rfl
theorem St.drawn {B n : Nat} {W0 : World} {ι : Inj} {tm : Tr AV} {H : HP} {a : Act} {w : World} (h : St P B W0 n ι tm H a w) (k : Nat) : St P B W0 n ι tm H a { w with drawn := k } :=
  ⟨h.sr, ⟨h.gs.hr.drawn k, h.gs.gl, h.gs.below.trans ⟨rfl, rfl, rfl, Nat.le_refl _, fun _ _ => rfl⟩, h.gs.size⟩, h.sz, h.df⟩
theorem wpAny_mono' {md : Region.Mode} {ops : Array Oper} {Q Q' : Exit → Act → World → Prop} (h : ∀ e a w, Q e a w → Q' e a w) : ∀ (fuel : Nat) (listed : Array Bool) (a : Act) (w : World), wpAny P md ops Q fuel listed a w → wpAny P md ops Q' fuel listed a w
  | 0, _, _, _, hh => ⟨hh.1, h _ _ _ hh.2⟩
  | fuel + 1, listed, a, w, hh => ⟨fun h0 => h _ _ _ (hh.1 h0), fun i hi => by
      have h1 := hh.2 i hi
      unfold wpOp at h1 ⊢
      split
      · rename_i ho; rw [ho] at h1; exact wpAny_mono' h fuel _ a w h1
      · rename_i o ho
        rw [ho] at h1
        dsimp only at h1
        split
        · rename_i hw
          rw [if_pos hw] at h1
          rcases h1 with h1 | ⟨q1, a', w', q2⟩
          · exact .inl (upon_mono (fun a w => wpAny_mono' h fuel _ a w) h h1)
          · exact .inr ⟨q1, a', w', h _ _ _ q2⟩
        · rename_i hw; rw [if_neg hw] at h1; exact wpAny_mono' h fuel _ _ w h1⟩
theorem no_code {n : Nat} {c : Code} {tm : Tr AV} {H : HP} : CodeOK P n c tm H .no := ⟨(fun e tm' H' he => by cases he), (fun b hb e tm' H' he => by cases he)⟩
/-- what comes behind -/
theorem seq_post {B n : Nat} {W0 : World} {ι : Inj} {H : HP} {o : Out} {k : Tr AV → HP → Out} {K : Act → World → Prop} (hne : ∃ e tm' H', kSeq o k = .st e tm' H')
    (hk : ∀ tm1 H1, o = .st .nrm tm1 H1 → ∀ ι1 a1 w1, HS H H1 → Ext H ι ι1 → St P B W0 n ι1 tm1 H1 a1 w1 → K a1 w1) {e : Exit} {a : Act} {w : World} (h : Post P B W0 n ι H o e a w) : Exit.then K (Post P B W0 n ι H (kSeq o k)) e a w := by
  cases o with
  | no => exact h.elim
  | v v H1 => exact h.elim
  | st e' tm1 H1 =>
    obtain ⟨rfl, ι1, q1, q2, q3⟩ := h
    cases e' with
    | nrm => exact hk tm1 H1 rfl ι1 a w q1 q2 q3
    | exit j => exact ⟨rfl, ι1, q1, q2, q3⟩
    | goto l => exact ⟨rfl, ι1, q1, q2, q3⟩
    | ret => exact ⟨rfl, ι1, q1, q2, q3⟩
theorem kSeq_left {o : Out} {k : Tr AV → HP → Out} {e : Ex} {tm : Tr AV} {H : HP} (h : kSeq o k = .st e tm H) : ∃ e1 tm1 H1, o = .st e1 tm1 H1 := by
  cases o with
  | no => cases h
  | v v H1 => cases h
  | st e1 tm1 H1 => exact ⟨_, _, _, rfl⟩
theorem code_ok {n : Nat} (hn_ : n ≤ 4000) (hm_ : P.follows .mixedOrders = true) (c : Code) {rec : K} (hrec : RecOK P rec) (tm : Tr AV) (H : HP) : CodeOK P n c tm H (unBx (sCode n c) rec tm H) := by
  have self : ∀ (e0 : Ex) (o : Out), o = .st e0 tm H → ∀ B W0 ι a w, St P B W0 n ι tm H a w → Post P B W0 n ι H o (exOf e0) a w := fun e0 o ho B W0 ι a w h => by
    subst ho; exact ⟨rfl, ι, HS.refl H, Ext.refl H ι, h⟩
  cases c with
  | skip => exact ⟨fun e tm' H' he B W0 ι a w h => wp_skip (self .nrm _ rfl B W0 ι a w h), (fun b hb => by cases hb)⟩
  | label l => exact ⟨fun e tm' H' he B W0 ι a w h => wp_label (self .nrm _ rfl B W0 ι a w h), (fun b hb => by cases hb)⟩
  | exit id => exact ⟨fun e tm' H' he B W0 ι a w h => wp_exit (self (.exit id) _ rfl B W0 ι a w h), (fun b hb => by cases hb)⟩
  | goto l => exact ⟨fun e tm' H' he B W0 ι a w h => wp_goto (self (.goto l) _ rfl B W0 ι a w h), (fun b hb => by cases hb)⟩
  | ret => exact ⟨fun e tm' H' he B W0 ι a w h => wp_ret (self .ret _ rfl B W0 ι a w h), (fun b hb => by cases hb)⟩
  | seq x y =>
    refine ⟨fun e tm' H' he B W0 ι a w h => ?_, (fun b hb => by cases hb)⟩
    show (Code.seq x y).wp P (Post P B W0 n ι H (kSeq (rec (.code n x tm H)) fun tm H => rec (.code n y tm H))) a w
    have he' : kSeq (rec (.code n x tm H)) (fun tm H => rec (.code n y tm H)) = .st e tm' H' := he
    obtain ⟨e1, tm1, H1, ho⟩ := kSeq_left he'
    refine wp_seq (wp_mono ((hrec.code n x tm H hn_).wp e1 tm1 H1 ho B W0 ι a w h) fun e' a' w' hp => seq_post ⟨_, _, _, he'⟩ (fun tm2 H2 ho2 ι2 a2 w2 q1 q2 q3 => ?_) hp)
    rw [ho2] at he' ⊢
    exact wp_mono ((hrec.code n y tm2 H2 hn_).wp e tm' H' he' B W0 ι2 a2 w2 q3) fun e a w hp => Post.trans q1 q2 hp
  | cond cd x y =>
    refine ⟨fun e tm' H' he B W0 ι a w h => ?_, (fun b hb => by cases hb)⟩
    have e0 : unBx (sCode n (.cond cd x y)) rec tm H = kCond (aval cd tm) (rec (.code n x tm H)) (rec (.code n y tm H)) := rfl
    rw [e0] at he ⊢
    have hc := opd h.sr h.gs.gl cd
    cases hv : aval cd tm with
    | b t =>
      rw [hv] at hc he
      refine wp_cond hc.b ?_
      cases t with
      | true => exact (hrec.code n x tm H hn_).wp e tm' H' he B W0 ι a w h
      | false => exact (hrec.code n y tm H hn_).wp e tm' H' he B W0 ι a w h
    | _ => rw [hv] at he; cases he
  | block id b =>
    refine ⟨fun e tm' H' he B W0 ι a w h => ?_, (fun b hb => by cases hb)⟩
    have he' : kBlock (rec (.code n b tm H)) id = .st e tm' H' := he
    show (Code.block id b).wp P (Post P B W0 n ι H (kBlock (rec (.code n b tm H)) id)) a w
    cases ho : rec (.code n b tm H) with
    | no => rw [ho] at he'; cases he'
    | v v H1 => rw [ho] at he'; cases he'
    | st e1 tm1 H1 =>
      have hb := (hrec.code n b tm H hn_).wp e1 tm1 H1 ho B W0 ι a w h
      rw [ho] at hb
      refine wp_block (wp_mono hb fun e' a' w' hp => ?_)
      obtain ⟨rfl, ι1, q1, q2, q3⟩ := hp
      cases e1 with
      | nrm => exact ⟨rfl, ι1, q1, q2, q3⟩
      | goto l => exact ⟨rfl, ι1, q1, q2, q3⟩
      | ret => exact ⟨rfl, ι1, q1, q2, q3⟩
      | exit j =>
        show (if j = id then Post P B W0 n ι H (kBlock (.st (.exit j) tm1 H1) id) .normal a' w' else Post P B W0 n ι H (kBlock (.st (.exit j) tm1 H1) id) (.exit j) a' w')
        have e0 : kBlock (.st (.exit j) tm1 H1) id = ite' (Nat.beq j id) (.st .nrm tm1 H1) (.st (.exit j) tm1 H1) := rfl
        rw [e0]
        by_cases hj : j = id
        · rw [if_pos hj, show Nat.beq j id = true by rw [Nat.beq_eq]; exact hj]
          exact ⟨rfl, ι1, q1, q2, q3⟩
        · rw [if_neg hj, show Nat.beq j id = false by rw [Bool.eq_false_iff]; intro hh; rw [Nat.beq_eq] at hh; exact hj hh]
          exact ⟨rfl, ι1, q1, q2, q3⟩
  | loop b =>
    have key : ∀ e tm' H', unBx (sCode n (.loop b)) rec tm H = .st e tm' H' → ∀ B W0 ι a w, St P B W0 n ι tm H a w → LW P b (Post P B W0 n ι H (unBx (sCode n (.loop b)) rec tm H)) a w := by
      intro e tm' H' he B W0 ι a w h
      have he' : kSeq (rec (.code n b tm H)) (fun tm H => rec (.code n (.loop b) tm H)) = .st e tm' H' := he
      show LW P b (Post P B W0 n ι H (kSeq (rec (.code n b tm H)) fun tm H => rec (.code n (.loop b) tm H))) a w
      obtain ⟨e1, tm1, H1, ho⟩ := kSeq_left he'
      refine lw_round (wp_mono ((hrec.code n b tm H hn_).wp e1 tm1 H1 ho B W0 ι a w h) fun e' a' w' hp => seq_post ⟨_, _, _, he'⟩ (fun tm2 H2 ho2 ι2 a2 w2 q1 q2 q3 => ?_) hp)
      rw [ho2] at he' ⊢
      intro fr k cs
      obtain ⟨e3, a3, w3, hq, harr⟩ := (hrec.code n (.loop b) tm2 H2 hn_).lp b rfl e tm' H' he' B W0 ι2 a2 w2 q3 fr k cs
      exact ⟨e3, a3, w3, Post.trans q1 q2 hq, harr⟩
    exact ⟨fun e tm' H' he B W0 ι a w h => lw_wp (key e tm' H' he B W0 ι a w h), fun b' hb => by injection hb with hb; subst hb; exact key⟩
  | scope b =>
    refine ⟨fun e tm' H' he B W0 ι a w h => ?_, (fun b hb => by cases hb)⟩
    exact sw_wp (hrec.scope n b b tm H hn_ e tm' H' he B W0 ι a w h)
  | region id ops draw =>
    refine ⟨fun e tm' H' he B W0 ι a w h => ?_, (fun b hb => by cases hb)⟩
    have e0 : unBx (sCode n (.region id ops draw)) = unBx (sRegion n ops draw) := rfl
    rw [e0] at he ⊢
    unfold sRegion at he ⊢
    have hl : ∀ j, ops.toList[j]? = ops[0 + j]? := fun j => by simp
    cases hd1 : (!draw || (stillB ops && Region.lexB .any ops)) with
    | true =>
      rw [hd1] at he
      have he' : rec (.ops n ops ops.toList tm H) = .st e tm' H' := he
      rw [ite'_true]
      show (Code.region id ops draw).wp P (Post P B W0 n ι H (rec (.ops n ops ops.toList tm H))) a w
      cases draw with
      | false =>
        refine wp_region ?_
        have := (hrec.ops n ops ops.toList tm H hn_).run e tm' H' he' B W0 ι a w 0 hl h
        rw [List.range_eq_range']
        simpa using this
      | true =>
        simp only [Bool.not_true, Bool.false_or, Bool.and_eq_true] at hd1
        refine wp_region_still hm_ hd1.2 ?_
        exact (hrec.ops n ops ops.toList tm H hn_).still (by have := hd1.1; unfold stillB at this; exact this) e tm' H' he' B W0 ι a _ (h.drawn _)
    | false =>
      rw [hd1] at he
      rw [ite'_false] at he ⊢
      cases hns : Region.noSelect ops with
      | false => rw [hns] at he; cases he
      | true =>
        rw [hns] at he
        rw [ite'_true] at he ⊢
        show (Code.region id ops draw).wp P (Post P B W0 n ι H (ite' (Nat.ble (Nat.add (numN H) (Nat.mul stride ops.size)) (limN H)) (rec (.any n ops ops.size (Array.replicate ops.size false) tm H (numN H))) .no)) a w
        have he2 : ite' (Nat.ble (Nat.add (numN H) (Nat.mul stride ops.size)) (limN H)) (rec (.any n ops ops.size (Array.replicate ops.size false) tm H (numN H))) .no = .st e tm' H' := he
        have hnn : numN H = hn H := by cases H; rfl
        have hlm : limN H = hm H := by cases H; rfl
        cases hb : Nat.ble (Nat.add (numN H) (Nat.mul stride ops.size)) (limN H) with
        | false => rw [hb] at he2; cases he2
        | true =>
          rw [hb, ite'_true] at he2
          rw [ite'_true]
          have hble : numN H + stride * ops.size ≤ limN H := Nat.le_of_ble_eq_true hb
          rw [hnn, hlm] at hble
          cases draw with
          | false => simp at hd1
          | true =>
            refine wp_region_any hm_ (wpAny_mono' (fun e a w hp => ?_) _ _ _ _ (hrec.any n ops ops.size (Array.replicate ops.size false) tm H (numN H) hn_ e tm' H' he2 B W0 ι a _ (h.drawn _) (fun i hi b h1 h2 => ?_) (by rw [hnn]; exact h.gs.hr.pos) (by rw [hnn]; exact Nat.le_refl _) (by rw [hnn]; exact hble) hns))
            case refine_1 =>
              rw [hnn] at hp
              have hse : setN (hn H) (hm H) H = H := by cases H; rfl
              unfold PostA at hp
              rw [hse] at hp
              exact hp
            rw [hnn] at h1 h2
            have hi' : i < ops.size := by
              apply Nat.lt_of_not_le
              intro hle
              simp [Array.getD_eq_getD_getElem?, Array.getElem?_eq_none (by simpa using hle : (Array.replicate ops.size false).size ≤ i)] at hi
            refine h.gs.hr.free b (by omega) ?_
            have : stride * (i + 1) ≤ stride * ops.size := Nat.mul_le_mul_left _ (by omega)
            omega
  | _ => exact no_code
theorem scope_ok {n : Nat} (hn_ : n ≤ 4000) (b c : Code) {rec : K} (hrec : RecOK P rec) (tm : Tr AV) (H : HP) : ScopeOK P n b c tm H (kScope n (rec (.code n c tm H)) rec b) := by
  intro e tm' H' he B W0 ι a w h
  cases ho : rec (.code n c tm H) with
  | no => rw [ho] at he; cases he
  | v v H1 => rw [ho] at he; cases he
  | st e1 tm1 H1 =>
    have hb := (hrec.code n c tm H hn_).wp e1 tm1 H1 ho B W0 ι a w h
    rw [ho] at hb he
    refine sw_round (wp_mono hb fun e' a' w' hp => ?_)
    obtain ⟨rfl, ι1, q1, q2, q3⟩ := hp
    cases e1 with
    | nrm => exact ⟨rfl, ι1, q1, q2, q3⟩
    | exit j => exact ⟨rfl, ι1, q1, q2, q3⟩
    | ret => exact ⟨rfl, ι1, q1, q2, q3⟩
    | goto l =>
      have he2 : kGoto n (findLabel b l) rec b l tm1 H1 = .st e tm' H' := he
      show ∃ r, findLabel b l = some r ∧ SW P b r (Post P B W0 n ι H (kGoto n (findLabel b l) rec b l tm1 H1)) a' w'
      cases hf : findLabel b l with
      | none => rw [hf] at he2; cases he2
      | some r =>
        rw [hf] at he2
        refine ⟨r, rfl, ?_⟩
        intro fr k cs
        obtain ⟨e3, a3, w3, hq, harr⟩ := hrec.scope n b r tm1 H1 hn_ e tm' H' he2 B W0 ι1 a' w' q3 fr k cs
        exact ⟨e3, a3, w3, Post.trans q1 q2 hq, harr⟩
end
end Go.Ev
