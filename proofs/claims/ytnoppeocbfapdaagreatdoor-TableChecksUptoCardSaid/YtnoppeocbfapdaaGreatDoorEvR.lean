import Derived.Test.YtnoppeocbfapdaaGreatDoorEvB
import Derived.WalkKit
/-! What the evaluator's state says of the model's: blocks by a map, values, heap, slots. -/
namespace Go.Ev
open Go
set_option linter.unusedVariables false
set_option linter.unusedSimpArgs false
/-- A block: not yet; no more; the model's block r of S cells, elements of z cells. -/
inductive Lv where
  | un | dead | live (r S z : Nat)
abbrev Inj := Nat → Lv
/-- element by element -/
def F2 {α β : Type} (R : α → β → Prop) (l : List α) (l' : List β) : Prop := l.length = l'.length ∧ ∀ (i : Nat) (v : α), l[i]? = some v → ∃ v' : β, l'[i]? = some v' ∧ R v v'
theorem F2.nil {α β : Type} (R : α → β → Prop) : F2 R [] [] := ⟨rfl, fun i v h => by simp at h⟩
theorem F2.cons {α β : Type} {R : α → β → Prop} {x : α} {y : β} {l : List α} {l' : List β} (h : R x y) (hl : F2 R l l') : F2 R (x :: l) (y :: l') :=
  ⟨by simp [hl.1], fun i v hv => by
    cases i with
    | zero => simp at hv; subst hv; exact ⟨y, rfl, h⟩
    | succ i => exact hl.2 i v (by simpa using hv)⟩
theorem F2.inv {α β : Type} {R : α → β → Prop} {x : α} {l : List α} {l' : List β} (h : F2 R (x :: l) l') : ∃ y r, l' = y :: r ∧ R x y ∧ F2 R l r := by
  cases l' with
  | nil => simp [F2] at h
  | cons y r =>
    obtain ⟨y', hy, hR⟩ := h.2 0 x rfl
    simp at hy; subst hy
    exact ⟨_, _, rfl, hR, by have := h.1; simpa using this, fun i v hv => by have := h.2 (i + 1) v (by simpa using hv); simpa using this⟩
theorem F2.nil_inv {α β : Type} {R : α → β → Prop} {l' : List β} (h : F2 R [] l') : l' = [] := by
  have := h.1; cases l' with | nil => rfl | cons => simp at this
theorem F2.imp {α β : Type} {R R' : α → β → Prop} {l : List α} {l' : List β} (h : F2 R l l') (hi : ∀ v v', R v v' → R' v v') : F2 R' l l' :=
  ⟨h.1, fun i v hv => by obtain ⟨v', a, b⟩ := h.2 i v hv; exact ⟨v', a, hi _ _ b⟩⟩
theorem F2.append {α β : Type} {R : α → β → Prop} {l m : List α} {l' m' : List β} (h : F2 R l l') (hm : F2 R m m') : F2 R (l ++ m) (l' ++ m') := by
  induction l generalizing l' with
  | nil => rw [h.nil_inv]; exact hm
  | cons x l ih => obtain ⟨y, r, rfl, h1, h2⟩ := h.inv; exact F2.cons h1 (ih h2)
theorem F2.take {α β : Type} {R : α → β → Prop} {l : List α} {l' : List β} (h : F2 R l l') (n : Nat) : F2 R (l.take n) (l'.take n) := by
  induction l generalizing l' n with
  | nil => rw [h.nil_inv]; simpa using F2.nil R
  | cons x l ih => obtain ⟨y, r, rfl, h1, h2⟩ := h.inv; cases n with
    | zero => simpa using F2.nil R
    | succ n => exact F2.cons h1 (ih h2 n)
theorem F2.drop {α β : Type} {R : α → β → Prop} {l : List α} {l' : List β} (h : F2 R l l') (n : Nat) : F2 R (l.drop n) (l'.drop n) := by
  induction l generalizing l' n with
  | nil => rw [h.nil_inv]; simpa using F2.nil R
  | cons x l ih => obtain ⟨y, r, rfl, h1, h2⟩ := h.inv; cases n with
    | zero => exact F2.cons h1 h2
    | succ n => exact ih h2 n
theorem F2.set {α β : Type} {R : α → β → Prop} {l : List α} {l' : List β} (h : F2 R l l') (i : Nat) {x : α} {y : β} (hx : R x y) : F2 R (l.set i x) (l'.set i y) := by
  induction l generalizing l' i with
  | nil => rw [h.nil_inv]; simpa using F2.nil R
  | cons z l ih => obtain ⟨y', r, rfl, h1, h2⟩ := h.inv; cases i with
    | zero => exact F2.cons hx h2
    | succ i => exact F2.cons h1 (ih h2 i)
theorem F2.sets {α β : Type} {R : α → β → Prop} {vs : List α} {ws : List β} (hv : F2 R vs ws) : ∀ {l : List α} {l' : List β} (h : F2 R l l') (i : Nat), F2 R (sets l i vs) (sets l' i ws) := by
  induction vs generalizing ws with
  | nil => intro l l' h i; rw [hv.nil_inv]; exact h
  | cons v vs ih => obtain ⟨y, r, rfl, h1, h2⟩ := hv.inv; exact fun h i => ih h2 (h.set i h1) (i + 1)
theorem F2.map {α β γ : Type} {R : α → β → Prop} {l : List γ} {f : γ → α} {l' : List β} (h : F2 (fun a b => R (f a) b) l l') : F2 R (l.map f) l' := by
  induction l generalizing l' with
  | nil => rw [h.nil_inv]; exact F2.nil R
  | cons x l ih => obtain ⟨y, r, rfl, h1, h2⟩ := h.inv; exact F2.cons h1 (ih h2)
def nob : Value → Bool
  | .bool _ => false
  | _ => true
inductive RV1 (ι : Inj) : Value → Value → Prop
  | lit {v : Value} (h : lit1 v = true) : RV1 ι v v
  | un {v : Value} (h : v.oneCell' = true) (hb : nob v = true) : RV1 ι undef v
  | ptr {b o r S z : Nat} (h : ι b = .live r S z) : RV1 ι (.pointer (some ⟨b, o, none⟩)) (.pointer (some ⟨r, o, none⟩))
  | dptr {b o : Nat} {a : Addr} (h : ι b = .dead) : RV1 ι (.pointer (some ⟨b, o, none⟩)) (.pointer (some a))
  | sl {b o l c c' r S z : Nat} (h : ι b = .live r S z) (hc : c ≤ c') (hS : o + c' * z ≤ S) : RV1 ι (.slice (some ⟨b, o, none⟩) l c) (.slice (some ⟨r, o, none⟩) l c')
  | dsl {b o l c c' : Nat} {a : Addr} (h : ι b = .dead) (hc : c ≤ c') : RV1 ι (.slice (some ⟨b, o, none⟩) l c) (.slice (some a) l c')
  | mp {b r S z : Nat} (h : ι b = .live r S z) : RV1 ι (.map (some b)) (.map (some r))
  | dmp {b r : Nat} (h : ι b = .dead) : RV1 ι (.map (some b)) (.map (some r))
inductive RV2 (ι : Inj) : Value → Value → Prop
  | one {v v' : Value} (h : RV1 ι v v') : RV2 ι v v'
  | fn {f : Fn} {a a' c c' : Array Value} (ha : F2 (RV1 ι) a.toList a'.toList) (hc : F2 (RV1 ι) c.toList c'.toList) : RV2 ι (.func f a c) (.func f a' c')
inductive RV3 (ι : Inj) : Value → Value → Prop
  | two {v v' : Value} (h : RV2 ι v v') : RV3 ι v v'
  | agg {a a' : Array Value} (ha : F2 (RV2 ι) a.toList a'.toList) : RV3 ι (.agg a) (.agg a')
inductive RV4 (ι : Inj) : Value → Value → Prop
  | three {v v' : Value} (h : RV3 ι v v') : RV4 ι v v'
  | tup {a a' : Array Value} (ha : F2 (RV3 ι) a.toList a'.toList) : RV4 ι (.tuple a) (.tuple a')
def RA (ι : Inj) (a : AV) (v : Value) : Prop := (a = un ∧ nob v = true) ∨ RV4 ι a.val v
/-- no block comes back, none changes its place -/
structure Ext0 (ι ι' : Inj) : Prop where
  live : ∀ b r S z, ι b = .live r S z → ι' b = .live r S z ∨ ι' b = .dead
  dead : ∀ b, ι b = .dead → ι' b = .dead
theorem Ext0.refl (ι : Inj) : Ext0 ι ι := ⟨fun _ _ _ _ h => .inl h, fun _ h => h⟩
theorem Ext0.trans {ι ι' ι'' : Inj} (h : Ext0 ι ι') (k : Ext0 ι' ι'') : Ext0 ι ι'' :=
  ⟨fun b r S z hb => by rcases h.live b r S z hb with e | e
                        · exact k.live b r S z e
                        · exact .inr (k.dead b e), fun b hb => k.dead b (h.dead b hb)⟩
theorem RV1.mono {ι ι' : Inj} {v v' : Value} (h : RV1 ι v v') (e : Ext0 ι ι') : RV1 ι' v v' := by
  cases h with
  | lit h => exact .lit h
  | un h hb => exact .un h hb
  | ptr h => rcases e.live _ _ _ _ h with h | h
             · exact .ptr h
             · exact .dptr h
  | dptr h => exact .dptr (e.dead _ h)
  | sl h hc hS => rcases e.live _ _ _ _ h with h | h
                  · exact .sl h hc hS
                  · exact .dsl h hc
  | dsl h hc => exact .dsl (e.dead _ h) hc
  | mp h => rcases e.live _ _ _ _ h with h | h
            · exact .mp h
            · exact .dmp h
  | dmp h => exact .dmp (e.dead _ h)
theorem RV2.mono {ι ι' : Inj} {v v' : Value} (h : RV2 ι v v') (e : Ext0 ι ι') : RV2 ι' v v' := by
  cases h with
  | one h => exact .one (h.mono e)
  | fn ha hc => exact .fn (ha.imp fun _ _ h => h.mono e) (hc.imp fun _ _ h => h.mono e)
theorem RV3.mono {ι ι' : Inj} {v v' : Value} (h : RV3 ι v v') (e : Ext0 ι ι') : RV3 ι' v v' := by
  cases h with
  | two h => exact .two (h.mono e)
  | agg ha => exact .agg (ha.imp fun _ _ h => h.mono e)
theorem RV4.mono {ι ι' : Inj} {v v' : Value} (h : RV4 ι v v') (e : Ext0 ι ι') : RV4 ι' v v' := by
  cases h with
  | three h => exact .three (h.mono e)
  | tup ha => exact .tup (ha.imp fun _ _ h => h.mono e)
theorem RA.mono {ι ι' : Inj} {a : AV} {v : Value} (h : RA ι a v) (e : Ext0 ι ι') : RA ι' a v := h.imp id fun h => h.mono e
theorem RV1.oneCell {ι : Inj} {v v' : Value} (h : RV1 ι v v') : v'.oneCell' = true := by
  cases h with
  | lit h => cases v <;> simp_all [lit1, Value.oneCell']
  | un h => exact h
  | _ => rfl
theorem RV2.oneCell {ι : Inj} {v v' : Value} (h : RV2 ι v v') : v'.oneCell' = true := by
  cases h with
  | one h => exact h.oneCell
  | fn _ _ => rfl
theorem of_val (v : Value) : (AV.of v).val = v := by
  cases v with
  | pointer a => cases a with
    | none => rfl
    | some a => obtain ⟨b, o, s⟩ := a; cases s <;> rfl
  | slice a l c => cases a with
    | none => rfl
    | some a => obtain ⟨b, o, s⟩ := a; cases s <;> rfl
  | map r => cases r <;> rfl
  | _ => rfl
theorem RA.of {ι : Inj} {v v' : Value} (h : RV4 ι v v') : RA ι (AV.of v) v' := .inr (by rwa [of_val])
theorem RA.un (ι : Inj) {v : Value} (h : nob v = true) : RA ι un v := .inl ⟨rfl, h⟩
theorem RV1.lit_inv {ι : Inj} {v v' : Value} (h : RV1 ι v v') (hl : lit1 v = true) : v' = v := by
  cases h <;> first | rfl | (simp [lit1, undef] at hl)
theorem RV2.lit_inv {ι : Inj} {v v' : Value} (h : RV2 ι v v') (hl : lit1 v = true) : v' = v := by
  cases h with
  | one h => exact h.lit_inv hl
  | fn _ _ => simp [lit1] at hl
theorem RV3.lit_inv {ι : Inj} {v v' : Value} (h : RV3 ι v v') (hl : lit1 v = true) : v' = v := by
  cases h with
  | two h => exact h.lit_inv hl
  | agg _ => simp [lit1] at hl
theorem F2.eq {α : Type} {R : α → α → Prop} {l l' : List α} (h : F2 R l l') (p : α → Bool) (hp : l.all p = true) (hR : ∀ v v', R v v' → p v = true → v' = v) : l' = l := by
  induction l generalizing l' with
  | nil => exact h.nil_inv
  | cons x l ih =>
    obtain ⟨y, r, rfl, h1, h2⟩ := h.inv
    simp only [List.all_cons, Bool.and_eq_true] at hp
    rw [hR _ _ h1 hp.1, ih h2 hp.2]
theorem RV4.lit_inv {ι : Inj} {v v' : Value} (h : RV4 ι v v') (hl : lit0 v = true) : v' = v := by
  cases h with
  | three h => cases h with
    | two h =>
      cases h with
      | one h => cases h with
        | un _ => simp [lit0, undef] at hl
        | lit h => rfl
        | _ => simp [lit0, lit1] at hl
      | fn _ _ => simp [lit0, lit1] at hl
    | agg ha =>
      have e := ha.eq lit1 (by simpa [lit0] using hl) fun _ _ h hp => h.lit_inv hp
      exact congrArg Value.agg (Array.toList_inj.1 e)
  | tup ha =>
    simp only [lit0, Bool.and_eq_true] at hl
    have e := ha.eq lit1 hl.2 fun _ _ h hp => h.lit_inv hp
    exact congrArg Value.tuple (Array.toList_inj.1 e)
theorem F2.refl_of {α : Type} {R : α → α → Prop} (l : List α) (p : α → Bool) (hp : l.all p = true) (hR : ∀ v, p v = true → R v v) : F2 R l l := by
  induction l with
  | nil => exact F2.nil R
  | cons x l ih => simp only [List.all_cons, Bool.and_eq_true] at hp; exact F2.cons (hR _ hp.1) (ih hp.2)
theorem RV4.of_lit {ι : Inj} {v : Value} (hl : lit0 v = true) : RV4 ι v v := by
  cases v with
  | agg a => exact .three (.agg (F2.refl_of _ lit1 (by simpa [lit0] using hl) fun _ h => .one (.lit h)))
  | tuple a =>
    simp only [lit0, Bool.and_eq_true] at hl
    exact .tup (F2.refl_of _ lit1 hl.2 fun _ h => .two (.one (.lit h)))
  | _ => exact .three (.two (.one (.lit (by simpa [lit0] using hl))))
theorem lit_lit0 {a : AV} (h : lit a = true) : lit0 a.val = true := by
  cases a with
  | i k n => rfl
  | b x => rfl
  | o v => exact h
  | _ => simp [lit] at h
theorem RA.lit_inv {ι : Inj} {a : AV} {v : Value} (h : RA ι a v) (hl : lit a = true) : v = a.val := by
  rcases h with ⟨rfl, _⟩ | h
  · exact absurd hl (by decide)
  · exact h.lit_inv (lit_lit0 hl)
theorem RA.i {ι : Inj} {k : IntKind} {n : Int} {v : Value} (h : RA ι (.i k n) v) : v = .int k n := h.lit_inv rfl
theorem RA.b {ι : Inj} {x : Bool} {v : Value} (h : RA ι (.b x) v) : v = .bool x := h.lit_inv rfl
theorem RA.mk_i (ι : Inj) (k : IntKind) (n : Int) : RA ι (.i k n) (.int k n) := .inr (.of_lit rfl)
theorem RA.mk_b (ι : Inj) (x : Bool) : RA ι (.b x) (.bool x) := .inr (.of_lit rfl)
theorem RA.one {ι : Inj} {a : AV} {v : Value} (h : RV1 ι a.val v) : RA ι a v := .inr (.three (.two (.one h)))
theorem RA.p {ι : Inj} {b o : Nat} {v : Value} (h : RA ι (.p b o) v) : (∃ r S z, ι b = .live r S z ∧ v = .pointer (some ⟨r, o, none⟩)) ∨ (ι b = .dead ∧ ∃ a, v = .pointer (some a)) := by
  rcases h with h | h
  · cases h.1
  · cases h with
    | three h => cases h with
      | two h => cases h with
        | one h => cases h with
          | ptr h => exact .inl ⟨_, _, _, h, rfl⟩
          | dptr h => exact .inr ⟨h, _, rfl⟩
          | lit h => simp [AV.val, lit1] at h
theorem RA.s {ι : Inj} {b o l c : Nat} {v : Value} (h : RA ι (.s b o l c) v) :
    (∃ r S z c', ι b = .live r S z ∧ c ≤ c' ∧ o + c' * z ≤ S ∧ v = .slice (some ⟨r, o, none⟩) l c') ∨ (ι b = .dead ∧ ∃ a c', c ≤ c' ∧ v = .slice (some a) l c') := by
  rcases h with h | h
  · cases h.1
  · cases h with
    | three h => cases h with
      | two h => cases h with
        | one h => cases h with
          | sl h hc hS => exact .inl ⟨_, _, _, _, h, hc, hS, rfl⟩
          | dsl h hc => exact .inr ⟨h, _, _, hc, rfl⟩
          | lit h => simp [AV.val, lit1] at h
theorem RA.m {ι : Inj} {b : Nat} {v : Value} (h : RA ι (.m b) v) : (∃ r S z, ι b = .live r S z ∧ v = .map (some r)) ∨ (ι b = .dead ∧ ∃ r, v = .map (some r)) := by
  rcases h with h | h
  · cases h.1
  · cases h with
    | three h => cases h with
      | two h => cases h with
        | one h => cases h with
          | mp h => exact .inl ⟨_, _, _, h, rfl⟩
          | dmp h => exact .inr ⟨h, _, rfl⟩
          | lit h => simp [AV.val, lit1] at h
/- the heap -/
def hn (H : HP) : Nat := match H with | .mk n _ _ _ => n
def hd (H : HP) : Nat := match H with | .mk _ d _ _ => d
def hm (H : HP) : Nat := match H with | .mk _ _ m _ => m
def ht (H : HP) : Tr Blk := match H with | .mk _ _ _ t => t
theorem get_eq (H : HP) (b : Nat) : H.get b = (ht H).get .dead b := by cases H; rfl
def cellsR (ι : Inj) (c : List AV) (cs : Array Value) : Prop := c.length ≤ cs.size ∧ ∀ (j : Nat) (a : AV), c[j]? = some a → ∃ v : Value, cs[j]? = some v ∧ RV2 ι a.val v
def BR (P : Program) (B : Nat) (ι : Inj) (x : Blk) (r S z : Nat) (w : World) : Prop := match x with
  | .dead => False
  | .cells c e own => ∃ cs fr, w.heap[r]? = some (.cells cs e fr) ∧ cs.size = S ∧ zOf P e = z ∧ cellsR ι c cs ∧ (own = true → fr = (0, 0) ∧ B ≤ r)
  | .iter s p => w.heap[r]? = some (.stringIter s p) ∧ B ≤ r
  | .mp es cl => ∃ es', w.heap[r]? = some (.map es' cl) ∧ B ≤ r ∧ F2 (fun (e : AV × AV) (e' : MapEntry) => RA ι e.1 e'.key ∧ RA ι e.2 e'.val) es es'.toList
structure HR (P : Program) (B : Nat) (ι : Inj) (H : HP) (w : World) : Prop where
  blk : ∀ b r S z, ι b = .live r S z → BR P B ι (H.get b) r S z w
  alive : ∀ b, H.get b ≠ .dead → ∃ r S z, ι b = .live r S z
  free : ∀ b, hn H ≤ b → b < hm H → ι b = .un
  inj : ∀ b b' r S z S' z', ι b = .live r S z → ι b' = .live r S' z' → b = b'
  pos : 0 < hn H
/-- what a step may do to the map: new blocks stand in [n, m) -/
structure Ext (H : HP) (ι ι' : Inj) : Prop extends Ext0 ι ι' where
  un : ∀ b, ι b = .un → ¬ (hn H ≤ b ∧ b < hm H) → ι' b = .un
/-- .. and to the evaluator's heap -/
structure HS (H H' : HP) : Prop where
  n : hn H ≤ hn H'
  m : hm H' = hm H
  d : hd H' ≤ hd H
  same : ∀ b, H.get b ≠ .dead → (b < hd H' ∨ (hm H ≤ b ∧ 0 < hd H')) → H'.get b = H.get b
theorem HS.refl (H : HP) : HS H H := ⟨Nat.le_refl _, rfl, Nat.le_refl _, fun _ _ _ => rfl⟩
theorem HS.trans {a b c : HP} (h : HS a b) (k : HS b c) : HS a c :=
  ⟨Nat.le_trans h.n k.n, k.m.trans h.m, Nat.le_trans k.d h.d, fun x hx hd => by
    have h1 := h.same x hx (by have := k.d; omega)
    exact (k.same x (by rw [h1]; exact hx) (by rw [h.m]; exact hd)).trans h1⟩
theorem Ext.refl (H : HP) (ι : Inj) : Ext H ι ι := ⟨Ext0.refl ι, fun _ h _ => h⟩
theorem Ext.trans {H H' : HP} {a b c : Inj} (h : Ext H a b) (s : HS H H') (k : Ext H' b c) : Ext H a c :=
  ⟨h.toExt0.trans k.toExt0, fun x hx hn_ => k.un x (h.un x hx hn_) (fun e => hn_ ⟨Nat.le_trans s.n e.1, by rw [← s.m]; exact e.2⟩)⟩
theorem BR.mono {P : Program} {B : Nat} {ι ι' : Inj} {x : Blk} {r S z : Nat} {w w' : World} (h : BR P B ι x r S z w) (e : Ext0 ι ι') (hw : w'.heap[r]? = w.heap[r]?) : BR P B ι' x r S z w' := by
  cases x with
  | dead => exact h
  | cells c t own =>
    obtain ⟨cs, fr, h1, h2, h3, ⟨h4, h5⟩, h6⟩ := h
    exact ⟨cs, fr, hw.trans h1, h2, h3, ⟨h4, fun j a hj => by obtain ⟨v, a1, a2⟩ := h5 j a hj; exact ⟨v, a1, a2.mono e⟩⟩, h6⟩
  | iter s p => exact ⟨hw.trans h.1, h.2⟩
  | mp es cl =>
    obtain ⟨es', h1, h2, h3⟩ := h
    exact ⟨es', hw.trans h1, h2, h3.imp fun _ _ ⟨a, c⟩ => ⟨a.mono e, c.mono e⟩⟩
theorem BR.lt {P : Program} {B : Nat} {ι : Inj} {x : Blk} {r S z : Nat} {w : World} (h : BR P B ι x r S z w) : r < w.heap.size := by
  have : ∃ o, w.heap[r]? = some o := by
    cases x with
    | dead => exact h.elim
    | cells c t own => obtain ⟨cs, fr, h1, _⟩ := h; exact ⟨_, h1⟩
    | iter s p => exact ⟨_, h.1⟩
    | mp es cl => obtain ⟨es', h1, _⟩ := h; exact ⟨_, h1⟩
  obtain ⟨o, ho⟩ := this
  exact (Array.getElem?_eq_some_iff.1 ho).1
/-- A world with the same blocks. -/
theorem HR.heap {P : Program} {B : Nat} {ι : Inj} {H : HP} {w w' : World} (h : HR P B ι H w) (hw : ∀ r, r < w.heap.size → w'.heap[r]? = w.heap[r]?) : HR P B ι H w' :=
  ⟨fun b r S z hb => (h.blk b r S z hb).mono (Ext0.refl ι) (hw r (h.blk b r S z hb).lt), h.alive, h.free, h.inj, h.pos⟩
def upd (ι : Inj) (b : Nat) (x : Lv) : Inj := fun i => if i = b then x else ι i
theorem upd_self (ι : Inj) (b : Nat) (x : Lv) : upd ι b x b = x := by simp [upd]
theorem upd_ne (ι : Inj) {b i : Nat} (x : Lv) (h : i ≠ b) : upd ι b x i = ι i := by simp [upd, h]
/-- A new block. -/
theorem newK_spec {β : Type} (H : HP) (x : Blk) (h1 : hn H < hm H) (h2 : hn H < 1000000) (h3 : H.get (hn H) = .dead) : ∃ H1 : HP, (∀ no (k : Nat → HP → β), H.newK x no k = k (hn H) H1) ∧ HS H H1 ∧ hn H1 = hn H + 1 ∧ hd H1 = hd H ∧ ∀ j, H1.get j = if j = hn H then x else H.get j := by
  obtain ⟨n, d, m, t⟩ := H
  obtain ⟨t', ht1, ht2⟩ := Tr.setK_spec (β := β) Blk.dead 24 t n x (by simp [hn] at h2; omega)
  refine ⟨.mk (n + 1) d m t', fun no k => ?_, ⟨by simp [hn], rfl, Nat.le_refl _, fun b hb _ => ?_⟩, rfl, rfl, fun j => by rw [get_eq, get_eq]; exact ht2 j⟩
  · show ite' (Nat.blt n m && Nat.blt n 1000000) (t.setK .dead 24 n x fun t => fNat (Nat.succ n) fun n' => k n (.mk n' d m t)) no = _
    have e : (Nat.blt n m && Nat.blt n 1000000) = true := by
      simp only [hn, hm] at h1 h2
      simp [Nat.blt_eq, h1, h2]
    rw [e, ite'_true, ht1]; simp [hn]
  · have hne : b ≠ n := fun e => by subst e; exact hb h3
    rw [get_eq, get_eq]
    exact (ht2 b).trans (if_neg hne)
theorem newK_no {β : Type} (H : HP) (x : Blk) (h : ¬ (hn H < hm H ∧ hn H < 1000000)) (no : β) (k : Nat → HP → β) : H.newK x no k = no := by
  obtain ⟨n, d, m, t⟩ := H
  show ite' (Nat.blt n m && Nat.blt n 1000000) _ no = _
  have e : (Nat.blt n m && Nat.blt n 1000000) = false := by
    rw [Bool.eq_false_iff]
    intro hh
    rw [Bool.and_eq_true, Nat.blt_eq, Nat.blt_eq] at hh
    exact h hh
  rw [e]; rfl
theorem setK_spec {β : Type} (H : HP) (b : Nat) (x : Blk) (h : b < 1000000) (hb : b < hn H ∨ True) : ∃ H1 : HP, (∀ no (k : HP → β), H.setK b x no k = k H1) ∧ HS H H1 ∧ hn H1 = hn H ∧ ∀ j, H1.get j = if j = b then x else H.get j := by
  obtain ⟨n, d, m, t⟩ := H
  obtain ⟨t', ht1, ht2⟩ := Tr.setK_spec (β := β) Blk.dead 24 t b x (by omega)
  have e : Nat.blt b 1000000 = true := by rw [Nat.blt_eq]; exact h
  have hsh : ∀ no (k : HP → β), (HP.mk n d m t).setK b x no k = ite' (Nat.ble m b) (k (.mk n 0 m t')) (ite' (Nat.blt b d) (k (.mk n b m t')) (k (.mk n d m t'))) := fun no k => by
    show ite' (Nat.blt b 1000000) (t.setK .dead 24 b x fun t => ite' (Nat.ble m b) (k (.mk n 0 m t)) (ite' (Nat.blt b d) (k (.mk n b m t)) (k (.mk n d m t)))) no = _
    rw [e, ite'_true, ht1]
  have hg : ∀ d', ∀ j, (HP.mk n d' m t').get j = if j = b then x else (HP.mk n d m t).get j := fun d' j => by rw [get_eq, get_eq]; exact ht2 j
  by_cases hm_ : m ≤ b
  · refine ⟨.mk n 0 m t', fun no k => ?_, ⟨Nat.le_refl _, rfl, Nat.zero_le _, fun j hj hj2 => ?_⟩, rfl, hg 0⟩
    · rw [hsh, show Nat.ble m b = true by rw [Nat.ble_eq]; exact hm_]; rfl
    · simp only [hd] at hj2; omega
  · have em : Nat.ble m b = false := by rw [Bool.eq_false_iff]; intro hh; rw [Nat.ble_eq] at hh; exact hm_ hh
    by_cases hd_ : b < d
    · refine ⟨.mk n b m t', fun no k => ?_, ⟨Nat.le_refl _, rfl, by simp [hd]; omega, fun j hj hj2 => ?_⟩, rfl, hg b⟩
      · rw [hsh, em, show Nat.blt b d = true by rw [Nat.blt_eq]; exact hd_]; rfl
      · simp only [hd, hm] at hj2
        exact (hg b j).trans (if_neg (by omega))
    · have e2 : Nat.blt b d = false := by rw [Bool.eq_false_iff]; intro hh; rw [Nat.blt_eq] at hh; exact hd_ hh
      refine ⟨.mk n d m t', fun no k => ?_, ⟨Nat.le_refl _, rfl, Nat.le_refl _, fun j hj hj2 => ?_⟩, rfl, hg d⟩
      · rw [hsh, em, e2]; rfl
      · simp only [hd, hm] at hj2
        exact (hg d j).trans (if_neg (by omega))
theorem setK_no {β : Type} (H : HP) (b : Nat) (x : Blk) (h : ¬ b < 1000000) (no : β) (k : HP → β) : H.setK b x no k = no := by
  obtain ⟨n, d, m, t⟩ := H
  show ite' (Nat.blt b 1000000) _ no = _
  have e : Nat.blt b 1000000 = false := by rw [Bool.eq_false_iff]; intro hh; rw [Nat.blt_eq] at hh; exact h hh
  rw [e]; rfl
end Go.Ev
