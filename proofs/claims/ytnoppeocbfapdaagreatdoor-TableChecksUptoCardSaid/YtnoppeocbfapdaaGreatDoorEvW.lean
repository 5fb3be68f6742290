import Derived.Test.YtnoppeocbfapdaaGreatDoorEvU
import Derived.Lib.MakeNoZero
import Derived.Deep.AppendSrc
/-! The evaluator's operations answer as the model's do (4): blocks: new, changed, dead. -/
namespace Go.Ev
open Go Go.RowKit
set_option linter.unusedVariables false
set_option linter.unusedSimpArgs false
section
variable {P : Program} {o : Oper}
theorem GS.ext {B : Nat} {W0 : World} {H H1 : HP} {ι ι' : Inj} {w w1 : World} (g : GS P B W0 ι H w) (e : Ext0 ι ι') (hr : HR P B ι' H1 w1) (hb : Below B W0 w1) (hs : B ≤ w1.heap.size) : GS P B W0 ι' H1 w1 :=
  ⟨hr, fun q hq => by
    rcases g.gl q hq with h | ⟨S, z, h⟩
    · exact .inl (e.dead _ h)
    · rcases e.live _ _ _ _ h with h | h
      · exact .inr ⟨S, z, h⟩
      · exact .inl h, hb, hs⟩
/-- a new block -/
theorem new_ok {Q : R → Prop} (hno : Q .no) {B : Nat} {W0 : World} {H : HP} {ι : Inj} {w : World} (g : GS P B W0 ι H w) (x : Blk) (hx : x ≠ .dead) (r S z : Nat) (w1 : World)
    (hfree : ∀ b S' z', ι b ≠ .live r S' z') (hsame : ∀ k, k < w.heap.size → k ≠ r → w1.heap[k]? = w.heap[k]?) (hbel : Below B W0 w1) (hsz : w.heap.size ≤ w1.heap.size) (hbr : ∀ ι', Ext0 ι ι' → BR P B ι' x r S z w1) {k : Nat → HP → R}
    (hk : ∀ H1 ι', HS H H1 → Ext H ι ι' → ι' (hn H) = .live r S z → (∀ i, i ≠ hn H → ι' i = ι i) → H1.get (hn H) = x → GS P B W0 ι' H1 w1 → Q (k (hn H) H1)) : Q (H.newK x .no k) := by
  by_cases hb : hn H < hm H ∧ hn H < 1000000
  · have hdead : H.get (hn H) = .dead := by
      cases hg : H.get (hn H) with
      | dead => rfl
      | _ =>
        obtain ⟨r', S', z', h'⟩ := g.hr.alive (hn H) (by rw [hg]; simp)
        rw [g.hr.free _ (Nat.le_refl _) hb.1] at h'; cases h'
    obtain ⟨H1, e1, e2, e3, e4, e5⟩ := newK_spec (β := R) H x hb.1 hb.2 hdead
    rw [e1]
    have hun : ι (hn H) = .un := g.hr.free _ (Nat.le_refl _) hb.1
    have ext : Ext0 ι (upd ι (hn H) (.live r S z)) := ⟨fun b r' S' z' h => by
        by_cases e : b = hn H
        · subst e; rw [hun] at h; cases h
        · exact .inl (by rw [upd_ne _ _ e]; exact h), fun b h => by
        by_cases e : b = hn H
        · subst e; rw [hun] at h; cases h
        · rw [upd_ne _ _ e]; exact h⟩
    refine hk H1 _ e2 ⟨ext, fun b h hn_ => ?_⟩ (upd_self _ _ _) (fun i hi => upd_ne _ _ hi) (by rw [e5]; simp) (g.ext ext ⟨fun b r' S' z' h => ?_, fun b h => ?_, fun b h1 h2 => ?_, fun b b' r' S' z' S'' z'' h1 h2 => ?_, by have := g.hr.pos; omega⟩ hbel (Nat.le_trans g.size hsz))
    · by_cases e : b = hn H
      · exact absurd ⟨by omega, by omega⟩ hn_
      · rw [upd_ne _ _ e]; exact h
    · by_cases e : b = hn H
      · subst e
        rw [upd_self] at h
        injection h with a1 a2 a3
        subst a1; subst a2; subst a3
        rw [e5, if_pos rfl]
        exact hbr _ ext
      · rw [upd_ne _ _ e] at h
        rw [e5, if_neg e]
        have := g.hr.blk b r' S' z' h
        exact this.mono ext (hsame r' this.lt (fun e0 => by subst e0; exact hfree _ _ _ h))
    · by_cases e : b = hn H
      · subst e; exact ⟨r, S, z, upd_self _ _ _⟩
      · rw [e5, if_neg e] at h
        rw [upd_ne _ _ e]; exact g.hr.alive b h
    · have : b ≠ hn H := by omega
      rw [upd_ne _ _ this]
      exact g.hr.free b (by omega) (by rw [← e2.m]; exact h2)
    · by_cases e : b = hn H
      · by_cases e' : b' = hn H
        · rw [e, e']
        · subst e
          rw [upd_self] at h1; rw [upd_ne _ _ e'] at h2
          injection h1 with a1 a2 a3; subst a1
          exact absurd h2 (hfree _ _ _)
      · by_cases e' : b' = hn H
        · subst e'
          rw [upd_self] at h2; rw [upd_ne _ _ e] at h1
          injection h2 with a1 a2 a3; subst a1
          exact absurd h1 (hfree _ _ _)
        · rw [upd_ne _ _ e] at h1; rw [upd_ne _ _ e'] at h2
          exact g.hr.inj _ _ _ _ _ _ _ h1 h2
  · rw [newK_no H x hb]; exact hno
/-- .. in a world that has one block more -/
theorem push_ok {Q : R → Prop} (hno : Q .no) {B : Nat} {W0 : World} {H : HP} {ι : Inj} {w : World} (g : GS P B W0 ι H w) (x : Blk) (hx : x ≠ .dead) (S z : Nat) (w1 : World) (ob : Obj) (hw : w1.heap = w.heap.push ob) (hbel : Below B W0 w1)
    (hbr : ∀ ι', Ext0 ι ι' → BR P B ι' x w.heap.size S z w1) {k : Nat → HP → R}
    (hk : ∀ H1 ι', HS H H1 → Ext H ι ι' → ι' (hn H) = .live w.heap.size S z → GS P B W0 ι' H1 w1 → Q (k (hn H) H1)) : Q (H.newK x .no k) :=
  new_ok hno g x hx w.heap.size S z w1 (fun b S' z' h => by have := (g.hr.blk b _ _ _ h).lt; omega) (fun k hk _ => by rw [hw, Array.getElem?_push, if_neg (by omega)]) hbel (by rw [hw]; simp) hbr fun H1 ι' a b c _ _ d => hk H1 ι' a b c d
/-- a block is changed -/
theorem set_ok {Q : R → Prop} (hno : Q .no) {B : Nat} {W0 : World} {H : HP} {ι : Inj} {w : World} (g : GS P B W0 ι H w) {b r S z : Nat} (hl : ι b = .live r S z) (x : Blk) (w1 : World)
    (hsame : ∀ k, k ≠ r → w1.heap[k]? = w.heap[k]?) (hsz : w.heap.size ≤ w1.heap.size) (hbel : Below B W0 w1) (hbr : BR P B ι x r S z w1) {k : HP → R}
    (hk : ∀ H1, HS H H1 → GS P B W0 ι H1 w1 → Q (k H1)) : Q (H.setK b x .no k) := by
  by_cases hb : b < 1000000
  · obtain ⟨H1, e1, e2, e3, e5⟩ := setK_spec (β := R) H b x hb (.inr trivial)
    rw [e1]
    refine hk H1 e2 (g.ext (Ext0.refl ι) ⟨fun b' r' S' z' h => ?_, fun b' h => ?_, fun b' h1 h2 => ?_, g.hr.inj, by rw [e3]; exact g.hr.pos⟩ hbel (Nat.le_trans g.size hsz))
    · by_cases e : b' = b
      · subst e
        rw [hl] at h
        injection h with a1 a2 a3
        subst a1; subst a2; subst a3
        rw [e5, if_pos rfl]; exact hbr
      · rw [e5, if_neg e]
        have := g.hr.blk b' r' S' z' h
        exact this.mono (Ext0.refl ι) (hsame r' fun e0 => by subst e0; exact e (g.hr.inj _ _ _ _ _ _ _ h hl))
    · by_cases e : b' = b
      · subst e; exact ⟨r, S, z, hl⟩
      · rw [e5, if_neg e] at h; exact g.hr.alive b' h
    · exact g.hr.free b' (by rw [← e3]; exact h1) (by rw [← e2.m]; exact h2)
  · rw [setK_no H b x hb]; exact hno
/-- a block is forgotten -/
theorem dead_ok {Q : R → Prop} (hno : Q .no) {B : Nat} {W0 : World} {H : HP} {ι : Inj} {w : World} (g : GS P B W0 ι H w) {b r S z : Nat} (hl : ι b = .live r S z) {k : HP → R}
    (hk : ∀ H1, HS H H1 → Ext H ι (upd ι b .dead) → GS P B W0 (upd ι b .dead) H1 w → Q (k H1)) : Q (H.setK b .dead .no k) := by
  by_cases hb : b < 1000000
  · obtain ⟨H1, e1, e2, e3, e5⟩ := setK_spec (β := R) H b .dead hb (.inr trivial)
    rw [e1]
    have ext : Ext0 ι (upd ι b .dead) := ⟨fun b' r' S' z' h => by
        by_cases e : b' = b
        · subst e; exact .inr (upd_self _ _ _)
        · exact .inl (by rw [upd_ne _ _ e]; exact h), fun b' h => by
        by_cases e : b' = b
        · subst e; exact upd_self _ _ _
        · rw [upd_ne _ _ e]; exact h⟩
    refine hk H1 e2 ⟨ext, fun b' h _ => ?_⟩ (g.ext ext ⟨fun b' r' S' z' h => ?_, fun b' h => ?_, fun b' h1 h2 => ?_, fun b1 b2 r' S' z' S'' z'' h1 h2 => ?_, by rw [e3]; exact g.hr.pos⟩ g.below g.size)
    · by_cases e : b' = b
      · subst e; rw [hl] at h; cases h
      · rw [upd_ne _ _ e]; exact h
    · by_cases e : b' = b
      · subst e; rw [upd_self] at h; cases h
      · rw [upd_ne _ _ e] at h
        rw [e5, if_neg e]
        exact (g.hr.blk b' r' S' z' h).mono ext rfl
    · by_cases e : b' = b
      · subst e; rw [e5, if_pos rfl] at h; exact absurd rfl h
      · rw [e5, if_neg e] at h; rw [upd_ne _ _ e]; exact g.hr.alive b' h
    · have hu := g.hr.free b' (by rw [← e3]; exact h1) (by rw [← e2.m]; exact h2)
      by_cases e : b' = b
      · subst e; rw [hl] at hu; cases hu
      · rw [upd_ne _ _ e]; exact hu
    · by_cases e : b1 = b
      · subst e; rw [upd_self] at h1; cases h1
      · by_cases e' : b2 = b
        · subst e'; rw [upd_self] at h2; cases h2
        · rw [upd_ne _ _ e] at h1; rw [upd_ne _ _ e'] at h2
          exact g.hr.inj _ _ _ _ _ _ _ h1 h2
  · rw [setK_no H b _ hb]; exact hno
theorem F2.cellsR {ι : Inj} {c : List AV} {vs : List Value} (h : F2 (fun (a : AV) v => RV2 ι a.val v) c vs) : cellsR ι c vs.toArray :=
  ⟨by simp [h.1], fun j a hj => by obtain ⟨v, v1, v2⟩ := h.2 j a hj; exact ⟨v, by simpa using v1, v2⟩⟩
theorem cellsR.mono {ι ι' : Inj} {c : List AV} {cs : Array Value} (h : cellsR ι c cs) (e : Ext0 ι ι') : cellsR ι' c cs :=
  ⟨h.1, fun j a hj => by obtain ⟨v, v1, v2⟩ := h.2 j a hj; exact ⟨v, v1, v2.mono e⟩⟩
theorem cells_one {v : Value} (h : v.oneCell' = true) : v.cells = #[v] := by cases v <;> first | rfl | (simp [Value.oneCell'] at h)
/-- a value's cells -/
theorem valCells_ok {Q : R → Prop} (hno : Q .no) {ι : Inj} {av : AV} {v : Value} (hv : RA ι av v) {k : List AV → R} (hk : ∀ l, F2 (fun (a : AV) v => RV2 ι a.val v) l v.cells.toList → Q (k l)) : Q (valCells av .no k) := by
  have one : ∀ {a : AV}, RV1 ι a.val v → F2 (fun (a : AV) v => RV2 ι a.val v) [a] v.cells.toList := fun {a} h => by
    rw [cells_one h.oneCell]; exact F2.cons (.one h) (F2.nil _)
  cases av with
  | i kd n => rw [hv.i] at hk one; exact hk _ (F2.cons (.one (.lit rfl)) (F2.nil _))
  | b x => rw [hv.b] at hk one; exact hk _ (F2.cons (.one (.lit rfl)) (F2.nil _))
  | p x y =>
    rcases hv.p with ⟨r, S, z, hl, rfl⟩ | ⟨hd, a, rfl⟩
    · exact hk _ (F2.cons (.one (.ptr hl)) (F2.nil _))
    · exact hk _ (F2.cons (.one (.dptr hd)) (F2.nil _))
  | s x y l c =>
    rcases hv.s with ⟨r, S, z, c', hl, hc, hS, rfl⟩ | ⟨hd, a, c', hc, rfl⟩
    · exact hk _ (F2.cons (.one (.sl hl hc hS)) (F2.nil _))
    · exact hk _ (F2.cons (.one (.dsl hd hc)) (F2.nil _))
  | m x =>
    rcases hv.m with ⟨r, S, z, hl, rfl⟩ | ⟨hd, r, rfl⟩
    · exact hk _ (F2.cons (.one (.mp hl)) (F2.nil _))
    · exact hk _ (F2.cons (.one (.dmp hd)) (F2.nil _))
  | o u =>
    show Q (vcells u .no k)
    have gen : (∀ cs, u ≠ .agg cs) → (∀ cs, u ≠ .tuple cs) → Q (k [.o u]) := fun h1 h2 => by
      rcases hv with hv | hv
      · injection hv.1 with hv; exact absurd hv (h2 _)
      · cases hv with
        | three h => cases h with
          | two h => refine hk _ ?_
                     rw [cells_one h.oneCell]; exact F2.cons h (F2.nil _)
          | agg ha => exact absurd rfl (h1 _)
        | tup ha => exact absurd rfl (h2 _)
    cases u with
    | agg cs =>
      show Q (forceL cs.toList k)
      rw [forceL_eq]
      obtain ⟨cs', rfl, hR⟩ := hv.agg
      refine hk _ (F2.map ?_)
      exact hR.imp fun a b h => by rw [of_val]; exact h
    | tuple cs => exact hno
    | _ => exact gen (by intro cs; simp) (by intro cs; simp)
end
end Go.Ev
