import Derived.Test.YtnoppeocbfapdaaGreatDoorEvJ
/-! The evaluator is sound (8): regions that draw: every order. -/
namespace Go.Ev
open Go Go.RowKit
set_option linter.unusedVariables false
set_option linter.unusedSimpArgs false
section
variable {P : Program}
theorem setN_n (a b : Nat) (H : HP) : hn (setN a b H) = a := by cases H; rfl
theorem setN_m (a b : Nat) (H : HP) : hm (setN a b H) = b := by cases H; rfl
theorem setN_d (a b : Nat) (H : HP) : hd (setN a b H) = hd H := by cases H; rfl
theorem setN_get (a b : Nat) (H : HP) (i : Nat) : (setN a b H).get i = H.get i := by cases H; rfl
theorem numN_eq (H : HP) : numN H = hn H := by cases H; rfl
theorem limN_eq (H : HP) : limN H = hm H := by cases H; rfl
theorem maxN_le (a b : Nat) : a ≤ maxN a b ∧ b ≤ maxN a b := by
  unfold maxN
  cases h : Nat.ble a b with
  | true => have := Nat.le_of_ble_eq_true h; rw [ite'_true]; omega
  | false =>
    have : ¬ a ≤ b := fun e => by rw [← Nat.ble_eq] at e; rw [e] at h; cases h
    rw [ite'_false]; omega
theorem GS.setN {B : Nat} {W0 : World} {ι : Inj} {H : HP} {w : World} (g : GS P B W0 ι H w) {a b : Nat} (h0 : 0 < a) (hf : ∀ x, a ≤ x → x < b → ι x = .un) : GS P B W0 ι (setN a b H) w :=
  ⟨⟨fun x r S z hx => by rw [setN_get]; exact g.hr.blk x r S z hx, fun x hx => g.hr.alive x (by rw [← setN_get a b H x]; exact hx), fun x h1 h2 => hf x (by rw [setN_n] at h1; exact h1) (by rw [setN_m] at h2; exact h2), g.hr.inj, by rw [setN_n]; exact h0⟩, g.gl, g.below, g.size⟩
theorem anyAll_ok (rec : K) (n : Nat) (all : Array Oper) (fuel : Nat) (listed : Array Bool) (tm : Tr AV) (H : HP) (n0 : Nat) (o : Out) : ∀ (l : List Nat), anyAll P rec n all fuel listed tm H n0 o l = .no ∨ (anyAll P rec n all fuel listed tm H n0 o l = o ∧ ∀ i ∈ l, anyOne P rec n all fuel listed tm H n0 i = o) := by
  intro l
  induction l with
  | nil => exact .inr ⟨rfl, fun i hi => by cases hi⟩
  | cons j l ih =>
    have e0 : anyAll P rec n all fuel listed tm H n0 o (j :: l) = ite' (eqO o (anyOne P rec n all fuel listed tm H n0 j)) (anyAll P rec n all fuel listed tm H n0 o l) .no := rfl
    rw [e0]
    cases he : eqO o (anyOne P rec n all fuel listed tm H n0 j) with
    | false => exact .inl rfl
    | true =>
      rw [ite'_true]
      rcases ih with h | ⟨h1, h2⟩
      · exact .inl h
      · refine .inr ⟨h1, fun i hi => ?_⟩
        rcases List.mem_cons.1 hi with rfl | hi
        · exact (eqO_eq _ _ he).1.symm
        · exact h2 i hi
theorem any_ok (po : PO P) {n : Nat} (hn_ : n ≤ 4000) {rec : K} (hrec : RecOK P rec) (all : Array Oper) (fuel : Nat) (listed : Array Bool) (tm : Tr AV) (H : HP) (n0 : Nat) : AnyOK P n all fuel listed tm H n0 (sAny P rec n all fuel listed tm H n0) := by
  intro e tm' H' he B W0 ι a w hst hun h0 hn0 hsz hns
  cases fuel with
  | zero =>
    have he2 : ite' (Region.ready .any all listed).isEmpty (Out.st .nrm tm H) Out.no = Out.st e tm' H' := he
    show wpAny P .any all (PostA P B W0 n n0 ι H (ite' (Region.ready .any all listed).isEmpty (Out.st .nrm tm H) Out.no)) 0 listed a w
    cases hr : (Region.ready .any all listed).isEmpty with
    | false => rw [hr] at he2; cases he2
    | true =>
      refine ⟨by simpa using hr, rfl, ι, HS.refl H, ⟨Ext0.refl ι, fun _ h _ => h⟩, hst⟩
  | succ fuel =>
    have stepI : ∀ i ∈ Region.ready .any all listed, anyOne P rec n all fuel listed tm H n0 i = .st e tm' H' → ∃ o, all[i]? = some o ∧ opW P all o a w (wpAny P .any all (PostA P B W0 n n0 ι H (.st e tm' H')) fuel (listed.setIfInBounds i true)) (PostA P B W0 n n0 ι H (.st e tm' H')) ∧
        (quietB P o.op = true → Region.wanted o (yielded all a.tmps) = true → ∃ v, (execOp a.eval o).run P w = .ok (.value v) w) := by
      intro i hi hone
      obtain ⟨hli, o, ho, hall⟩ := mem_ready.1 hi
      have hisz : i < all.size := (Array.getElem?_eq_some_iff.1 ho).1
      unfold anyOne at hone
      rw [ho] at hone
      have e2 : ∀ x : Bx SO, Bx.rec (motive := fun _ => Out) (fun f => f P rec tm (setN (Nat.add n0 (Nat.mul stride i)) (Nat.add n0 (Nat.mul stride (Nat.succ i))) H) fun tm H' =>
          rec (.any n all fuel (listed.setIfInBounds i true) tm (setN (ite' (Nat.beq (numN H') (Nat.add n0 (Nat.mul stride i))) (numN H) (maxN (numN H) (numN H'))) (limN H) H') n0)) x
          = unBx x P rec tm (setN (Nat.add n0 (Nat.mul stride i)) (Nat.add n0 (Nat.mul stride (Nat.succ i))) H) fun tm H' =>
          rec (.any n all fuel (listed.setIfInBounds i true) tm (setN (ite' (Nat.beq (numN H') (Nat.add n0 (Nat.mul stride i))) (numN H) (maxN (numN H) (numN H'))) (limN H) H') n0) := fun x => by cases x; rfl
      have hone2 := (e2 (sOpG P n all o)).symm.trans hone
      have hrange : n0 + stride * (i + 1) ≤ hm H := by
        have : stride * (i + 1) ≤ stride * all.size := Nat.mul_le_mul_left _ (by omega)
        omega
      have hstr : stride * (i + 1) = stride * i + stride := Nat.mul_succ _ _
      rcases opG_ok po hn_ all o rec hrec.fn tm (setN (n0 + stride * i) (n0 + stride * (i + 1)) H) (fun tm H' =>
          rec (.any n all fuel (listed.setIfInBounds i true) tm (setN (ite' (Nat.beq (numN H') (Nat.add n0 (Nat.mul stride i))) (numN H) (maxN (numN H) (numN H'))) (limN H) H') n0)) with h1 | ⟨tm1, H1, h1, h2, h3⟩
      · have := h1.symm.trans hone2; cases this
      · have hrest := h1.symm.trans hone2
        have hst' : St P B W0 n ι tm (setN (n0 + stride * i) (n0 + stride * (i + 1)) H) a w := ⟨hst.sr, hst.gs.setN (by omega) (hun i (by
          have := hli
          rw [Array.getD_eq_getD_getElem?] at this ⊢
          exact this)), hst.sz, hst.df⟩
        have := h2 B W0 ι a w hst' (wpAny P .any all (PostA P B W0 n n0 ι H (.st e tm' H')) fuel (listed.setIfInBounds i true)) (PostA P B W0 n n0 ι H (.st e tm' H')) (fun ι1 a1 w1 q1 q2 q3 => ?_)
        · exact ⟨o, ho, this, fun hq hw => by
            have := (h3 (quiet_still hq) B W0 ι a w hst').2 (fun _ => True) (fun _ _ => trivial)
            rw [if_pos hw] at this
            exact quiet_val hq this⟩
        · generalize hnn : ite' (Nat.beq (numN H1) (Nat.add n0 (Nat.mul stride i))) (numN H) (maxN (numN H) (numN H1)) = nn at hrest
          rw [limN_eq] at hrest
          have q1n := q1.n
          have q1m := q1.m
          have q1d := q1.d
          rw [setN_n] at q1n
          rw [setN_m] at q1m
          rw [setN_d] at q1d
          have hnnH : hn H ≤ nn := by
            rw [← hnn, numN_eq, numN_eq]
            have := maxN_le (hn H) (hn H1)
            cases Nat.beq (hn H1) (Nat.add n0 (Nat.mul stride i)) with
            | true => rw [ite'_true]; exact Nat.le_refl _
            | false => rw [ite'_false]; exact this.1
          have hnn1 : hn H1 ≤ nn ∨ hn H1 = n0 + stride * i := by
            rw [← hnn, numN_eq, numN_eq]
            have := maxN_le (hn H) (hn H1)
            cases hq : Nat.beq (hn H1) (Nat.add n0 (Nat.mul stride i)) with
            | true => rw [Nat.beq_eq] at hq; right; exact hq
            | false => rw [ite'_false]; left; exact this.2
          have hfree1 : ∀ x, nn ≤ x → x < hm H → ι1 x = .un := fun x p1 p2 => by
            by_cases hin : n0 + stride * i ≤ x ∧ x < n0 + stride * (i + 1)
            · exact q3.gs.hr.free x (by omega) (by rw [q1m]; exact hin.2)
            · exact q2.un x (hst.gs.hr.free x (by omega) p2) (by rw [setN_n, setN_m]; exact hin)
          have hst2 : St P B W0 n ι1 tm1 (setN nn (hm H) H1) a1 w1 := ⟨q3.sr, q3.gs.setN (by have := hst.gs.hr.pos; omega) hfree1, q3.sz, q3.df⟩
          have hrec2 := hrec.any n all fuel (listed.setIfInBounds i true) tm1 (setN nn (hm H) H1) n0 hn_ e tm' H' hrest B W0 ι1 a1 w1 hst2 (fun j hj b b1 b2 => ?_) h0 (by rw [setN_n]; omega) (by rw [setN_m]; exact hsz) hns
          · rw [hrest] at hrec2
            refine wpAny_mono' (fun e' a' w' hp => ?_) _ _ _ _ hrec2
            obtain ⟨rfl, ι', p1, p2, p3⟩ := hp
            have hHS : HS H (setN nn (hm H) H1) := ⟨by rw [setN_n]; exact hnnH, by rw [setN_m], by rw [setN_d]; exact q1d, fun b hb hc => by
              rw [setN_d] at hc
              rw [setN_get]
              have := q1.same b (by rw [setN_get]; exact hb) (by rw [setN_m]; omega)
              rw [this, setN_get]⟩
            refine ⟨rfl, ι', hHS.trans p1, ⟨q2.toExt0.trans p2.toExt0, fun b hb hc => ?_⟩, p3⟩
            rw [setN_n, setN_m] at hc
            refine p2.un b (q2.un b hb ?_) (by rw [setN_n, setN_m, setN_m]; exact hc)
            rw [setN_n, setN_m]; omega
          · have hji : j ≠ i := fun e => by
              subst e
              by_cases hjl : j < listed.size
              · simp [hjl] at hj
              · rw [Array.getD_eq_getD_getElem?, Array.getElem?_eq_none (by simp; omega)] at hj; cases hj
            have hj' : listed.getD j true = false := by rw [← hj, getD_set_ne true (Ne.symm hji)]
            refine q2.un b (hun j hj' b b1 b2) ?_
            rw [setN_n, setN_m]
            unfold stride at b1 b2 ⊢
            omega
    have e00 : sAny P rec n all (fuel + 1) listed tm H n0 = Option.rec (motive := fun _ => Out) (anyList P rec n all fuel listed tm H n0 (Region.ready .any all listed)) (fun i => anyOne P rec n all fuel listed tm H n0 i) (firstQ P all listed (Region.ready .any all listed)) := rfl
    cases hfq : firstQ P all listed (Region.ready .any all listed) with
    | some i =>
      have e0 : sAny P rec n all (fuel + 1) listed tm H n0 = anyOne P rec n all fuel listed tm H n0 i := by rw [e00, hfq]
      rw [e0] at he ⊢
      have hmem : i ∈ Region.ready .any all listed := List.mem_of_find?_eq_some hfq
      have hpr := List.find?_some hfq
      obtain ⟨o, ho, hw, hq⟩ := stepI i hmem he
      rw [he]
      rw [ho] at hpr
      have hpr' : (quietB P o.op && Region.free .any all listed i) = true := hpr
      rw [Bool.and_eq_true] at hpr'
      unfold opW at hw
      have hQ : ∀ v c a' w', PostA P B W0 n n0 ι H (.st e tm' H') (.panic c) (a'.put o.dst v) w' → PostA P B W0 n n0 ι H (.st e tm' H') (.panic c) a' w' := fun v c a' w' hp => by
        have := hp.1
        cases e <;> cases this
      cases hwt : Region.wanted o (yielded all a.tmps) with
      | true =>
        rw [if_pos hwt] at hw
        obtain ⟨v, hv⟩ := hq hpr'.1 hwt
        unfold Oper.wp at hw
        rw [hv, Oper.upon_value] at hw
        exact wpAny_take ho hns hpr'.2 (by simpa using hmem) (hQ v) (.inl ⟨hwt, run_still_any hpr'.1 hv⟩) hw
      | false =>
        rw [if_neg (by rw [hwt]; simp)] at hw
        exact wpAny_take ho hns hpr'.2 (by simpa using hmem) (hQ undef) (.inr ⟨hwt, rfl⟩) hw
    | none =>
    have e0 : sAny P rec n all (fuel + 1) listed tm H n0 = anyList P rec n all fuel listed tm H n0 (Region.ready .any all listed) := by rw [e00, hfq]
    rw [e0] at he ⊢
    have key : (Region.ready .any all listed = [] ∧ anyList P rec n all fuel listed tm H n0 (Region.ready .any all listed) = .st .nrm tm H) ∨ (Region.ready .any all listed ≠ [] ∧ ∀ i ∈ Region.ready .any all listed, anyOne P rec n all fuel listed tm H n0 i = anyList P rec n all fuel listed tm H n0 (Region.ready .any all listed)) := by
      cases hr : Region.ready .any all listed with
      | nil => exact .inl ⟨rfl, rfl⟩
      | cons i l =>
        rw [hr] at he
        have e1 : anyList P rec n all fuel listed tm H n0 (i :: l) = anyAll P rec n all fuel listed tm H n0 (anyOne P rec n all fuel listed tm H n0 i) l := rfl
        rcases anyAll_ok (P := P) rec n all fuel listed tm H n0 (anyOne P rec n all fuel listed tm H n0 i) l with h | ⟨h1, h2⟩
        · rw [e1, h] at he; cases he
        · refine .inr ⟨by simp, fun j hj => ?_⟩
          rw [e1, h1]
          rcases List.mem_cons.1 hj with rfl | hj
          · rfl
          · exact h2 j hj
    generalize anyList P rec n all fuel listed tm H n0 (Region.ready .any all listed) = out at he key
    subst he
    rcases key with ⟨hr, hk⟩ | ⟨hne, key⟩
    · injection hk with k1 k2 k3
      subst k1; subst k2; subst k3
      exact wpAny_done hr ⟨rfl, ι, HS.refl _, ⟨Ext0.refl ι, fun _ h _ => h⟩, hst⟩ _
    · refine ⟨fun hr => ?_, fun i hi => ?_⟩
      · exact absurd hr hne
      · obtain ⟨o, ho, hw, _⟩ := stepI i hi (key i hi)
        unfold wpOp
        rw [ho]
        unfold opW at hw
        dsimp only
        split
        · rename_i h1; rw [if_pos h1] at hw; exact .inl hw
        · rename_i h1; rw [if_neg h1] at hw; exact hw
end
end Go.Ev
