import Derived.Test.YtfmjdoofopamkaaGreatDoorPlN
import Derived.Test.YtfmjdoofopamkaaGreatDoorWx7
import Derived.Test.YtfmjdoofopamkaaGreatDoorWx6
import Derived.Test.YtfmjdoofopamkaaGreatDoorPlF
import Derived.Test.YtfmjdoofopamkaaGreatDoorPlA
import Derived.Test.YtfmjdoofopamkaaGreatDoorWx8
import Derived.Test.YtfmjdoofopamkaaGreatDoorWx12
/-! What the reference's Read answers. -/
namespace Go.Proofs.YtfmjdoofopamkaaGreatDoor.Plain
open Go.RowKit Go.Proofs.YtfmjdoofopamkaaGreatDoorW.PrintWords Go.Proofs.YtfmjdoofopamkaaGreatDoorW.PrintLast Go.Proofs.YtfmjdoofopamkaaGreatDoorW.PrintMore Go.Proofs.YtfmjdoofopamkaaGreatDoor.W
set_option linter.unusedVariables false
set_option linter.unusedSimpArgs false
theorem rdigit (c : Int) : endonymref2_digit.f c = some (dg c) := by
  unfold endonymref2_digit.f dg
  by_cases h : c ≥ 48
  · rw [if_pos h, decide_eq_true (show 48 ≤ c by omega), Bool.true_and]
  · rw [if_neg h, decide_eq_false (show ¬ 48 ≤ c by omega), Bool.false_and]
abbrev RA := Bool × ByteArray × Int × Int × Bool
/-- What Read answers to what numP tells. -/
def ReadIs (z : Option (Bool × List Int × Nat × Int)) (r : RA) : Prop :=
  match z with | some z => r.1 = z.1 ∧ bytesOf r.2.1 = z.2.1 ∧ r.2.2.1 = z.2.2.1 ∧ r.2.2.2.1 = z.2.2.2 ∧ r.2.2.2.2 = decide (numOk z) | none => r.2.2.2.2 = false
theorem cut_one {s : ByteArray} {i : Nat} {c : Int} {t : List Int} (ha : At s i (c :: t)) (D : ByteArray) : bytesOf (D ++ s.extract (i : Int).toNat ((i + 1 : Nat) : Int).toNat) = bytesOf D ++ [c] ∧ (s.extract (i : Int).toNat ((i + 1 : Nat) : Int).toNat).size = 1 := by
  have hlt := ha.lt
  constructor
  · rw [bytesOf_append, bytesOf_extract, Int.toNat_natCast, Int.toNat_natCast, List.drop_take, ha.eq, show i + 1 - i = 1 by omega]; rfl
  · rw [ByteArray.size_extract]; omega
theorem size_bytes (D : ByteArray) : D.size = (bytesOf D).length := (bytesOf_length D).symm
/-- the end, behind a power or none -/
theorem rfin (s : ByteArray) (neg : Bool) (i : Int) (D : ByteArray) (b X : Int) :
    (if i = (s.size : Int) then (if (D.size : Int) ≤ 17 then (if X ≥ (-400) then some (neg, D, b, X, decide (X ≤ 400)) else some (neg, D, b, X, false)) else some (neg, D, b, X, false)) else some (neg, D, b, X, false)) =
    some (neg, D, b, X, decide (i = (s.size : Int) ∧ (bytesOf D).length ≤ 17 ∧ -400 ≤ X ∧ X ≤ 400)) := by
  have hd := size_bytes D
  by_cases h1 : i = (s.size : Int)
  · rw [if_pos h1]
    by_cases h2 : (D.size : Int) ≤ 17
    · rw [if_pos h2]
      by_cases h3 : X ≥ -400
      · rw [if_pos h3]
        have e : decide (X ≤ 400) = decide (i = (s.size : Int) ∧ (bytesOf D).length ≤ 17 ∧ -400 ≤ X ∧ X ≤ 400) := decide_eq_decide.2 ⟨fun h => ⟨h1, by omega, h3, h⟩, fun h => h.2.2.2⟩
        rw [e]
      · rw [if_neg h3, decide_eq_false (fun h => h3 h.2.2.1)]
    · rw [if_neg h2, decide_eq_false (fun h => h2 (by omega))]
  · rw [if_neg h1, decide_eq_false (fun h => h1 h.1)]
/-- Read's power. -/
theorem read_l2 (s : ByteArray) (hs : Sz s) (neg : Bool) (D : ByteArray) (b : Nat) (fr : Nat) (hfr : (fr : Int) ≤ 4611686018427387904) (dn : Bool) : ∀ (m j p : Nat) (v : List Int), j + m = 4 → At s (fr + j) v → p < 10 ^ j →
    ∃ r : RA, Ev (fun k => endonymref2_Read.l2 k s neg ((fr + j : Nat) : Int) D (b : Int) (fr : Int) (p : Int) dn) r ∧
      ReadIs (if v.all dg ∧ 1 ≤ j + v.length ∧ j + v.length ≤ 3 then some (neg, bytesOf D, b, if dn then -(dvF p v : Int) else (dvF p v : Int)) else none) r := by
  intro m
  have fin : ∀ (j p : Nat) (v : List Int), j ≤ 4 → p < 10000 → At s (fr + j) v → (v = [] ∨ (∃ c t, v = c :: t ∧ dg c = false) ∨ j = 4) →
      ∃ r : RA, Ev (fun k => endonymref2_Read.j11 k s neg ((fr + j : Nat) : Int) D (b : Int) (fr : Int) (p : Int) dn) r ∧
      ReadIs (if v.all dg ∧ 1 ≤ j + v.length ∧ j + v.length ≤ 3 then some (neg, bytesOf D, b, if dn then -(dvF p v : Int) else (dvF p v : Int)) else none) r := by
    intro j p v hj hp ha hv
    by_cases hbad : j = 0 ∨ j = 4
    · refine ⟨(false, ⟨#[]⟩, 0, 0, false), Ev.step (f := fun k => endonymref2_Read.j12 k s neg ((fr + j : Nat) : Int) D (b : Int) (p : Int) dn true) (fun k => ?_) (Ev.step (f := fun _ => some (false, ⟨#[]⟩, 0, 0, false)) (fun k => ?_) (Ev.now _)), ?_⟩
      · rw [endonymref2_Read.j11]
        rcases hbad with rfl | rfl
        · rw [if_pos (by omega)]
        · rw [if_neg (by omega), decide_eq_true (by rw [w64 (by omega) (by omega)]; omega)]
      · rw [endonymref2_Read.j12, if_pos rfl]
      · rw [if_neg ?_]
        · exact rfl
        · rintro ⟨h1, h2, h3⟩
          rcases hv with rfl | ⟨c, t, rfl, hc⟩ | rfl
          · simp at h2 h3; omega
          · rw [List.all_cons, hc] at h1; exact absurd h1 (by simp)
          · omega
    · have hj3 : ((fr + j : Nat) : Int) - (fr : Int) ≤ 3 := by omega
      have hwp : wrap64 (-(p : Int)) = -(p : Int) := w64 (by omega) (by omega)
      refine ⟨(neg, D, (b : Int), (if dn then -(p : Int) else (p : Int)), decide (((fr + j : Nat) : Int) = (s.size : Int) ∧ (bytesOf D).length ≤ 17 ∧ -400 ≤ (if dn then -(p : Int) else (p : Int)) ∧ (if dn then -(p : Int) else (p : Int)) ≤ 400)), Ev.step (f := fun k => endonymref2_Read.j12 k s neg ((fr + j : Nat) : Int) D (b : Int) (p : Int) dn false) (fun k => ?_) (Ev.step (f := fun _ => some (neg, D, (b : Int), (if dn then -(p : Int) else (p : Int)), decide (((fr + j : Nat) : Int) = (s.size : Int) ∧ (bytesOf D).length ≤ 17 ∧ -400 ≤ (if dn then -(p : Int) else (p : Int)) ∧ (if dn then -(p : Int) else (p : Int)) ≤ 400))) (fun k => ?_) (Ev.now _)), ?_⟩
      · rw [endonymref2_Read.j11, if_neg (by omega), decide_eq_false (by rw [w64 (by omega) (by omega)]; omega)]
      · rw [endonymref2_Read.j12, if_neg (by simp), hwp]
        cases dn with
        | true => rw [if_pos rfl]; exact rfin s neg _ D b (-(p : Int))
        | false => rw [if_neg (by simp)]; exact rfin s neg _ D b (p : Int)
      · rcases hv with rfl | ⟨c, t, rfl, hc⟩ | rfl
        · have h0 := ha.nil
          rw [if_pos ⟨rfl, by simp; omega, by simp; omega⟩]
          refine ⟨rfl, rfl, rfl, rfl, ?_⟩
          refine decide_eq_decide.2 ?_
          exact ⟨fun h => ⟨h.2.1, h.2.2.1, h.2.2.2⟩, fun h => ⟨by omega, h.1, h.2.1, h.2.2⟩⟩
        · rw [if_neg (by rintro ⟨h1, _⟩; rw [List.all_cons, hc] at h1; exact absurd h1 (by simp))]
          have hlt := ha.lt
          exact decide_eq_false (fun h => by omega)
        · omega
  have p4 : ∀ j p : Nat, j ≤ 4 → p < 10 ^ j → p < 10000 := fun j p hj hp => Nat.lt_of_lt_of_le hp (Nat.le_trans (Nat.pow_le_pow_right (by omega) hj) (by decide))
  induction m with
  | zero =>
    intro j p v hj ha hp
    obtain rfl : j = 4 := by omega
    obtain ⟨r, h1, h2⟩ := fin 4 p v (by omega) (p4 4 p (by omega) hp) ha (.inr (.inr rfl))
    refine ⟨r, Ev.step (fun k => ?_) h1, h2⟩
    rw [endonymref2_Read.l2]
    cases v with
    | nil => have := ha.nil; rw [if_neg (by omega)]
    | cons c t =>
      rw [if_pos ha.lt, if_pos (by omega), rdigit, Option.bind_some, ha.rd]
      by_cases hc : dg c = true
      · rw [if_pos hc, if_neg (by rw [w64 (by omega) (by omega)]; omega)]
      · rw [if_neg hc]
  | succ m ih =>
    intro j p v hj ha hp
    have hp4 := p4 j p (by omega) hp
    cases v with
    | nil =>
      obtain ⟨r, h1, h2⟩ := fin j p [] (by omega) hp4 ha (.inl rfl)
      refine ⟨r, Ev.step (fun k => ?_) h1, h2⟩
      have := ha.nil; rw [endonymref2_Read.l2, if_neg (by omega)]
    | cons c t =>
      by_cases hc : dg c = true
      · have hr := dg_range hc
        have hp' : 10 * p + (c - 48).toNat < 10 ^ (j + 1) := by rw [Nat.pow_succ]; omega
        obtain ⟨r, h1, h2⟩ := ih (j + 1) (10 * p + (c - 48).toNat) t (by omega) ha.next hp'
        refine ⟨r, Ev.step (fun k => ?_) h1, ?_⟩
        · have e1 : wrap64 (wrap64 (10 * (p : Int)) + (c - 48) % 256) = ((10 * p + (c - 48).toNat : Nat) : Int) := by
            rw [w64 (x := 10 * (p : Int)) (by omega) (by omega), w64 (by omega) (by omega)]; omega
          rw [endonymref2_Read.l2, if_pos ha.lt, if_pos (by omega), rdigit, Option.bind_some, ha.rd, if_pos hc, if_pos (by rw [w64 (by omega) (by omega)]; omega), e1, ha.wrap hs]
          rfl
        · have e : (((c :: t).all dg = true ∧ 1 ≤ j + (c :: t).length ∧ j + (c :: t).length ≤ 3) ↔ (t.all dg = true ∧ 1 ≤ j + 1 + t.length ∧ j + 1 + t.length ≤ 3)) := by
            rw [List.all_cons, hc, Bool.true_and, List.length_cons]
            constructor
            · rintro ⟨a, b, c⟩; exact ⟨a, by omega, by omega⟩
            · rintro ⟨a, b, c⟩; exact ⟨a, by omega, by omega⟩
          simp only [e]
          exact h2
      · obtain ⟨r, h1, h2⟩ := fin j p (c :: t) (by omega) hp4 ha (.inr (.inl ⟨c, t, rfl, by simpa using hc⟩))
        refine ⟨r, Ev.step (fun k => ?_) h1, h2⟩
        rw [endonymref2_Read.l2, if_pos ha.lt, if_pos (by omega), rdigit, Option.bind_some, ha.rd, if_neg hc]
/-- Read behind the digits. -/
theorem read_j6 (s : ByteArray) (hs : Sz s) (neg : Bool) (D : ByteArray) (b : Nat) (i : Nat) (r : List Int) (ha : At s i r) :
    ∃ z : RA, Ev (fun k => endonymref2_Read.j6 k s neg (i : Int) D (b : Int)) z ∧ ReadIs (tailP neg (bytesOf D) b r) z := by
  have stay : ∀ (h : r = [] ∨ ∃ c t, r = c :: t ∧ c ≠ 101), Ev (fun k => endonymref2_Read.j6 k s neg (i : Int) D (b : Int)) (neg, D, (b : Int), 0, decide ((i : Int) = (s.size : Int) ∧ (bytesOf D).length ≤ 17 ∧ (-400 : Int) ≤ 0 ∧ (0 : Int) ≤ 400)) := by
    intro h
    refine Ev.step (f := fun k => endonymref2_Read.j7 k s neg (i : Int) D (b : Int) 0 false) (fun k => ?_) (Ev.step (f := fun _ => some (neg, D, (b : Int), 0, decide ((i : Int) = (s.size : Int) ∧ (bytesOf D).length ≤ 17 ∧ (-400 : Int) ≤ 0 ∧ (0 : Int) ≤ 400))) (fun k => ?_) (Ev.now _))
    · rw [endonymref2_Read.j6]
      rcases h with rfl | ⟨c, t, rfl, hc⟩
      · have := ha.nil; rw [if_neg (by omega)]
      · rw [if_pos ha.lt, if_pos (by omega), ha.rd, beq_eq_false_iff_ne.2 hc]
    · rw [endonymref2_Read.j7, if_neg (by simp)]
      exact rfin s neg i D b 0
  cases r with
  | nil =>
    have h0 := ha.nil
    refine ⟨_, stay (.inl rfl), rfl, rfl, rfl, rfl, ?_⟩
    refine decide_eq_decide.2 ⟨fun h => ⟨h.2.1, h.2.2.1, h.2.2.2⟩, fun h => ⟨by omega, h.1, h.2.1, h.2.2⟩⟩
  | cons c t =>
    have hlt := ha.lt
    rw [tailP_cons]
    by_cases hc : c = 101
    · subst hc
      rw [if_pos rfl]
      have hn := ha.next
      have hb1 := hn.bound hs
      by_cases h45 : t.head? = some 45
      · obtain ⟨t', rfl⟩ : ∃ t', t = 45 :: t' := by
          cases t with
          | nil => simp at h45
          | cons a t' => rw [List.head?_cons] at h45; exact ⟨t', by rw [Option.some.inj h45]⟩
        have hn2 := hn.next
        have hb2 := hn2.bound hs
        rw [if_pos h45]
        obtain ⟨z, h1, h2⟩ := read_l2 s hs neg D b (i + 1 + 1) hb2 true 4 0 0 t' rfl hn2 (by decide)
        simp only [Nat.zero_add] at h2
        refine ⟨z, ?_, h2⟩
        refine Ev.step (f := fun k => endonymref2_Read.j7 k s neg (i : Int) D (b : Int) 0 true) (fun k => ?_) (Ev.step (f := fun k => endonymref2_Read.j8 k s neg ((i + 1 : Nat) : Int) D b 0 true) (fun k => ?_) (Ev.step (f := fun k => endonymref2_Read.j9 k s neg ((i + 1 + 1 : Nat) : Int) D b 0 true) (fun k => ?_) (Ev.step (f := fun k => endonymref2_Read.l2 k s neg ((i + 1 + 1 : Nat) : Int) D b ((i + 1 + 1 : Nat) : Int) 0 true) (fun k => ?_) h1)))
        · rw [endonymref2_Read.j6, if_pos hlt, if_pos (by omega), ha.rd]; rfl
        · rw [endonymref2_Read.j7, if_pos rfl, ha.wrap hs, if_pos hn.lt, if_pos (by omega), hn.rd]; rfl
        · rw [endonymref2_Read.j8, if_pos rfl, hn.wrap hs]
        · rw [endonymref2_Read.j9]
      · rw [if_neg h45]
        obtain ⟨z, h1, h2⟩ := read_l2 s hs neg D b (i + 1) hb1 false 4 0 0 t rfl hn (by decide)
        simp only [Nat.zero_add] at h2
        refine ⟨z, ?_, h2⟩
        refine Ev.step (f := fun k => endonymref2_Read.j7 k s neg (i : Int) D (b : Int) 0 true) (fun k => ?_) (Ev.step (f := fun k => endonymref2_Read.j8 k s neg ((i + 1 : Nat) : Int) D b 0 false) (fun k => ?_) (Ev.step (f := fun k => endonymref2_Read.j9 k s neg ((i + 1 : Nat) : Int) D b 0 false) (fun k => ?_) (Ev.step (f := fun k => endonymref2_Read.l2 k s neg ((i + 1 : Nat) : Int) D b ((i + 1 : Nat) : Int) 0 false) (fun k => ?_) h1)))
        · rw [endonymref2_Read.j6, if_pos hlt, if_pos (by omega), ha.rd]; rfl
        · rw [endonymref2_Read.j7, if_pos rfl, ha.wrap hs]
          cases t with
          | nil => have := hn.nil; rw [if_neg (by omega)]
          | cons a t' =>
            have ha45 : a ≠ 45 := fun h => h45 (by rw [List.head?_cons, h])
            rw [if_pos hn.lt, if_pos (by omega), hn.rd, beq_eq_false_iff_ne.2 ha45]
        · rw [endonymref2_Read.j8, if_neg (by simp)]
        · rw [endonymref2_Read.j9]
    · rw [if_neg hc]
      refine ⟨_, stay (.inr ⟨c, t, rfl, hc⟩), ?_⟩
      exact decide_eq_false (fun h => by omega)
/-- Read over the digits ahead of the point. -/
theorem read_l0 (s : ByteArray) (hs : Sz s) (neg : Bool) (fr : Nat) : ∀ (r : List Int) (i : Nat) (D : ByteArray), At s i r → D.size ≤ i → ∀ {y : RA},
    (∀ D' : ByteArray, bytesOf D' = bytesOf D ++ r.takeWhile dg → D'.size ≤ i + (r.takeWhile dg).length → Ev (fun k => endonymref2_Read.j3 k s neg ((i + (r.takeWhile dg).length : Nat) : Int) D' 0 (fr : Int)) y) → Ev (fun k => endonymref2_Read.l0 k s neg (i : Int) D 0 (fr : Int)) y := by
  intro r
  induction r with
  | nil =>
    intro i D ha hD y hy
    refine Ev.step (fun k => ?_) (hy D (by simp) (by simp; omega))
    have := ha.nil
    rw [endonymref2_Read.l0, if_neg (by omega)]; rfl
  | cons a t ih =>
    intro i D ha hD y hy
    have hb := ha.bound hs
    by_cases hd : dg a = true
    · rw [List.takeWhile_cons_of_pos hd] at hy
      obtain ⟨c1, c2⟩ := cut_one ha D
      have hle := ha.lt
      refine Ev.step (fun k => ?_) (ih (i + 1) (D ++ s.extract (i : Int).toNat ((i + 1 : Nat) : Int).toNat) ha.next (by rw [ByteArray.size_append, c2]; omega) (fun D' h1 h2 => ?_))
      · rw [endonymref2_Read.l0, if_pos ha.lt, if_pos (by omega), rdigit, ha.rd, Option.bind_some, if_pos hd, ha.wrap hs, if_pos (by omega), if_pos (by omega), if_pos (by rw [c2]; omega)]
      · have := hy D' (by rw [h1, c1, List.append_assoc]; rfl) (by rw [List.length_cons]; omega)
        rw [List.length_cons, show i + ((t.takeWhile dg).length + 1) = i + 1 + (t.takeWhile dg).length by omega] at this
        exact this
    · rw [List.takeWhile_cons_of_neg hd] at hy
      refine Ev.step (fun k => ?_) (hy D (by simp) (by simp; omega))
      rw [endonymref2_Read.l0, if_pos ha.lt, if_pos (by omega), rdigit, ha.rd, Option.bind_some, if_neg hd]; rfl
/-- Read over the digits behind the point. -/
theorem read_l1 (s : ByteArray) (hs : Sz s) (neg : Bool) (fr : Nat) : ∀ (r : List Int) (i b : Nat) (D : ByteArray), At s i r → D.size ≤ i → b ≤ i → ∀ {y : RA},
    (∀ D' : ByteArray, bytesOf D' = bytesOf D ++ r.takeWhile dg → Ev (fun k => if ((i + (r.takeWhile dg).length : Nat) : Int) = (fr : Int) then some (false, (⟨#[]⟩ : ByteArray), 0, 0, false) else endonymref2_Read.j6 k s neg ((i + (r.takeWhile dg).length : Nat) : Int) D' ((b + (r.takeWhile dg).length : Nat) : Int)) y) → Ev (fun k => endonymref2_Read.l1 k s neg (i : Int) D (b : Int) (fr : Int)) y := by
  intro r
  induction r with
  | nil =>
    intro i b D ha hD hbi y hy
    refine Ev.step (fun k => ?_) (hy D (by simp))
    have := ha.nil
    rw [endonymref2_Read.l1, if_neg (by omega)]; rfl
  | cons a t ih =>
    intro i b D ha hD hbi y hy
    have hb := ha.bound hs
    by_cases hd : dg a = true
    · rw [List.takeWhile_cons_of_pos hd] at hy
      obtain ⟨c1, c2⟩ := cut_one ha D
      have hle := ha.lt
      refine Ev.step (fun k => ?_) (ih (i + 1) (b + 1) (D ++ s.extract (i : Int).toNat ((i + 1 : Nat) : Int).toNat) ha.next (by rw [ByteArray.size_append, c2]; omega) (by omega) (fun D' h1 => ?_))
      · rw [endonymref2_Read.l1, if_pos ha.lt, if_pos (by omega), rdigit, ha.rd, Option.bind_some, if_pos hd, ha.wrap hs, if_pos (by omega), if_pos (by omega), if_pos (by rw [c2]; omega), up1 b (by omega)]
      · have := hy D' (by rw [h1, c1, List.append_assoc]; rfl)
        rw [List.length_cons, show i + ((t.takeWhile dg).length + 1) = i + 1 + (t.takeWhile dg).length by omega, show b + ((t.takeWhile dg).length + 1) = b + 1 + (t.takeWhile dg).length by omega] at this
        exact this
    · rw [List.takeWhile_cons_of_neg hd] at hy
      refine Ev.step (fun k => ?_) (hy D (by simp))
      rw [endonymref2_Read.l1, if_pos ha.lt, if_pos (by omega), rdigit, ha.rd, Option.bind_some, if_neg hd]; rfl
theorem Read_body (s : ByteArray) (hs : Sz s) (neg : Bool) (i : Nat) (r : List Int) (ha : At s i r) :
    ∃ z : RA, Ev (fun k => endonymref2_Read.l0 k s neg (i : Int) (⟨#[]⟩ : ByteArray) 0 (i : Int)) z ∧ ReadIs (bodyP neg r) z := by
  have hb := ha.bound hs
  have hk := ha.skip
  have hkb := hk.bound hs
  unfold bodyP
  obtain ⟨d1, hd1⟩ : ∃ d1, r.takeWhile dg = d1 := ⟨_, rfl⟩
  have hnil : bytesOf (⟨#[]⟩ : ByteArray) = [] := rfl
  obtain ⟨D, hD, hDs⟩ : ∃ D : ByteArray, bytesOf D = d1 ∧ D.size ≤ i + d1.length := by
    refine ⟨strOfNums d1, ?_, ?_⟩
    · refine bytesOf_strOfNums d1 fun x hx => ?_
      have h := tw_all r
      rw [hd1] at h
      have := dg_range (List.all_eq_true.1 h x hx); omega
    · have h := tw_all r
      rw [hd1] at h
      rw [size_bytes, bytesOf_strOfNums d1 (fun x hx => by have := dg_range (List.all_eq_true.1 h x hx); omega)]; omega
  have start : ∀ {y : RA}, Ev (fun k => endonymref2_Read.j3 k s neg ((i + d1.length : Nat) : Int) D 0 (i : Int)) y → Ev (fun k => endonymref2_Read.l0 k s neg (i : Int) (⟨#[]⟩ : ByteArray) 0 (i : Int)) y := fun h => read_l0 s hs neg i r i _ ha (Nat.zero_le _) (fun D' h1 h2 => by
    have e : D' = D := bytesOf_inj (by rw [h1, hnil, hd1, hD, List.nil_append])
    rw [hd1, e]; exact h)
  rw [hd1] at hk hkb ⊢
  by_cases h0 : d1 = []
  · rw [if_pos h0]
    refine ⟨(false, ⟨#[]⟩, 0, 0, false), start (Ev.step (f := fun _ => some (false, ⟨#[]⟩, 0, 0, false)) (fun k => ?_) (Ev.now _)), rfl⟩
    rw [h0, endonymref2_Read.j3]
    exact if_pos (by simp)
  · rw [if_neg h0]
    have hl : 1 ≤ d1.length := by cases d1 with | nil => exact absurd rfl h0 | cons a t => simp
    have hne : ¬ ((i + d1.length : Nat) : Int) = (i : Int) := by omega
    obtain ⟨u, hu⟩ : ∃ u, r.dropWhile dg = u := ⟨_, rfl⟩
    rw [hu] at hk ⊢
    have plain : (u = [] ∨ ∃ c t, u = c :: t ∧ c ≠ 46) → ∃ z : RA, Ev (fun k => endonymref2_Read.l0 k s neg (i : Int) (⟨#[]⟩ : ByteArray) 0 (i : Int)) z ∧ ReadIs (tailP neg d1 0 u) z := by
      intro hc
      obtain ⟨z, h1, h2⟩ := read_j6 s hs neg D 0 _ u hk
      rw [hD] at h2
      refine ⟨z, start (Ev.step (f := fun k => endonymref2_Read.j4 k s neg ((i + d1.length : Nat) : Int) D 0 false) (fun k => ?_) (Ev.step (fun k => ?_) h1)), h2⟩
      · rw [endonymref2_Read.j3, if_neg hne]
        rcases hc with rfl | ⟨c, t, rfl, hc⟩
        · have := hk.nil; rw [if_neg (by omega)]
        · rw [if_pos hk.lt, if_pos (by omega), hk.rd, beq_eq_false_iff_ne.2 hc]
      · rw [endonymref2_Read.j4, if_neg (by simp)]; rfl
    cases u with
    | nil => exact plain (.inl rfl)
    | cons c t =>
      simp only
      by_cases hc : c = 46
      · subst hc
        rw [if_pos rfl]
        have hn := hk.next
        have hnb := hn.bound hs
        have hn2 := hn.skip
        obtain ⟨d2, hd2⟩ : ∃ d2, t.takeWhile dg = d2 := ⟨_, rfl⟩
        have go : ∀ {y : RA}, (∀ D' : ByteArray, bytesOf D' = d1 ++ d2 → Ev (fun k => if ((i + d1.length + 1 + d2.length : Nat) : Int) = ((i + d1.length + 1 : Nat) : Int) then some (false, (⟨#[]⟩ : ByteArray), 0, 0, false) else endonymref2_Read.j6 k s neg ((i + d1.length + 1 + d2.length : Nat) : Int) D' ((d2.length : Nat) : Int)) y) → Ev (fun k => endonymref2_Read.l0 k s neg (i : Int) (⟨#[]⟩ : ByteArray) 0 (i : Int)) y := by
          intro y h
          have h3 := read_l1 s hs neg (i + d1.length + 1) t (i + d1.length + 1) 0 D hn (by omega) (by omega) (y := y) (fun D' h1 => by
            rw [hd2] at h1 ⊢
            rw [Nat.zero_add]
            exact h D' (by rw [h1, hD]))
          refine start (Ev.step (f := fun k => endonymref2_Read.j4 k s neg ((i + d1.length : Nat) : Int) D 0 true) (fun k => ?_) (Ev.step (fun k => ?_) h3))
          · rw [endonymref2_Read.j3, if_neg hne, if_pos hk.lt, if_pos (by omega), hk.rd]; rfl
          · rw [endonymref2_Read.j4, if_pos rfl, hk.wrap hs]; rfl
        rw [hd2] at hn2 ⊢
        by_cases h2 : d2 = []
        · rw [if_pos h2]
          refine ⟨(false, ⟨#[]⟩, 0, 0, false), go (fun D' h1 => ?_), rfl⟩
          refine Ev.congr (f := fun _ => some (false, ⟨#[]⟩, 0, 0, false)) (fun k => ?_) (Ev.now _)
          rw [h2]
          exact if_pos (by simp)
        · rw [if_neg h2]
          have hl2 : 1 ≤ d2.length := by cases d2 with | nil => exact absurd rfl h2 | cons a t => simp
          have hall : ∀ x ∈ d1 ++ d2, 0 ≤ x ∧ x ≤ 255 := by
            intro x hx
            have g1 := tw_all r
            have g2 := tw_all t
            rw [hd1] at g1
            rw [hd2] at g2
            rcases List.mem_append.1 hx with h | h
            · have := dg_range (List.all_eq_true.1 g1 x h); omega
            · have := dg_range (List.all_eq_true.1 g2 x h); omega
          obtain ⟨D2, hD2⟩ : ∃ D2 : ByteArray, bytesOf D2 = d1 ++ d2 := ⟨strOfNums (d1 ++ d2), bytesOf_strOfNums _ hall⟩
          obtain ⟨z, h3, h4⟩ := read_j6 s hs neg D2 d2.length _ _ hn2
          rw [hD2] at h4
          refine ⟨z, go (fun D' h1 => ?_), h4⟩
          have e : D' = D2 := bytesOf_inj (by rw [h1, hD2])
          rw [e]
          exact Ev.congr (fun k => by rw [if_neg (by omega)]) h3
      · rw [if_neg hc]
        exact plain (.inr ⟨c, t, rfl, hc⟩)
/-- Read -/
theorem Read_ok (s : ByteArray) (hs : Sz s) : ∃ z : RA, Ev (fun k => endonymref2_Read.f k s) z ∧ ReadIs (numP (bytesOf s)) z := by
  have ha := At.start s
  obtain ⟨L, hL⟩ : ∃ L, bytesOf s = L := ⟨_, rfl⟩
  rw [hL] at ha ⊢
  cases L with
  | nil =>
    have h0 := ha.nil
    obtain ⟨z, h1, h2⟩ := Read_body s hs false 0 [] ha
    refine ⟨z, ?_, h2⟩
    refine Ev.congr (f := fun k => endonymref2_Read.j0 k s false 0 false) (fun k => ?_) (Ev.step (f := fun k => endonymref2_Read.j1 k s false 0) (fun k => ?_) (Ev.step (fun k => ?_) h1))
    · unfold endonymref2_Read.f; rw [if_neg (by omega)]
    · rw [endonymref2_Read.j0, if_neg (by simp)]
    · rw [endonymref2_Read.j1]; rfl
  | cons c t =>
    have hlt := ha.lt
    have hrd : bt s 0 = c := ha.rd
    by_cases hc : c = 45
    · subst hc
      obtain ⟨z, h1, h2⟩ := Read_body s hs true 1 t ha.next
      refine ⟨z, ?_, by show ReadIs (if (45 : Int) = 45 then bodyP true t else bodyP false (45 :: t)) z; rw [if_pos rfl]; exact h2⟩
      refine Ev.congr (f := fun k => endonymref2_Read.j0 k s false 0 true) (fun k => ?_) (Ev.step (f := fun k => endonymref2_Read.j1 k s true 1) (fun k => ?_) (Ev.step (fun k => ?_) h1))
      · unfold endonymref2_Read.f; rw [if_pos (by omega), hrd]; rfl
      · rw [endonymref2_Read.j0, if_pos rfl, w64 (x := (0 : Int) + 1) (by omega) (by omega)]; rfl
      · rw [endonymref2_Read.j1]; rfl
    · obtain ⟨z, h1, h2⟩ := Read_body s hs false 0 (c :: t) ha
      refine ⟨z, ?_, by show ReadIs (if c = 45 then bodyP true t else bodyP false (c :: t)) z; rw [if_neg hc]; exact h2⟩
      refine Ev.congr (f := fun k => endonymref2_Read.j0 k s false 0 false) (fun k => ?_) (Ev.step (f := fun k => endonymref2_Read.j1 k s false 0) (fun k => ?_) (Ev.step (fun k => ?_) h1))
      · unfold endonymref2_Read.f; rw [if_pos (by omega), hrd, beq_eq_false_iff_ne.2 hc]
      · rw [endonymref2_Read.j0, if_neg (by simp)]
      · rw [endonymref2_Read.j1]; rfl
end Go.Proofs.YtfmjdoofopamkaaGreatDoor.Plain
/-! The reference's whole numbers: what its functions answer, on digits to the base 2^16. -/
namespace Go.Proofs.YtfmjdoofopamkaaGreatDoor.Plain
open Go.RowKit Go.Proofs.YtfmjdoofopamkaaGreatDoorW.PrintWords Go.Proofs.YtfmjdoofopamkaaGreatDoorW.PrintLast Go.Proofs.YtfmjdoofopamkaaGreatDoorW.PrintMore Go.Proofs.YtfmjdoofopamkaaGreatDoor.W
set_option linter.unusedVariables false
set_option linter.unusedSimpArgs false
abbrev B16 : Nat := 65536
theorem b16 : 2 ≤ B16 := by decide
/-- the reference's form of a number -/
def rl (n : Nat) : List Int := dl B16 n
theorem rl_zero : rl 0 = [] := dl_zero _
theorem rl_dig (n : Nat) : Dig B16 (rl n) := Dig.dl b16 n
theorem nv_rl (n : Nat) : nv B16 (rl n) = n := nv_dl b16 n
theorem rl_nv {l : List Int} (hd : Dig B16 l) (hn : Norm l) : rl (nv B16 l) = l := dl_nv b16 hd hn
theorem pow16 (k : Nat) : B16 ^ k = 2 ^ (16 * k) := by rw [show B16 = 2 ^ 16 from rfl, ← Nat.pow_mul]
theorem rl_len_of {n : Nat} (m : Nat) (h : bl n ≤ 16 * m) : (rl n).length ≤ m := by
  refine dl_len_le b16 ?_
  rw [pow16]
  exact Nat.lt_of_lt_of_le (lt_two_bl n) (Nat.pow_le_pow_right (by omega) h)
theorem rd_dig {x : List Int} (hd : Dig B16 x) (i : Nat) (hi : i < x.length) : ∃ R : Nat, rd x (i : Int) = (R : Int) ∧ R < 65536 := by
  have hr : 0 ≤ rd x (i : Int) ∧ rd x (i : Int) < 65536 := hd.rd i hi
  exact ⟨(rd x (i : Int)).toNat, by omega, by omega⟩
theorem succ_w (i : Nat) (h : i ≤ 4611686018427387904) : wrap64 ((i : Int) + 1) = ((i + 1 : Nat) : Int) := by rw [w64 (by omega) (by omega)]; omega
theorem dig_nat {n : Nat} (h : n < 65536) : (0 : Int) ≤ ((n : Nat) : Int) ∧ ((n : Nat) : Int) < ((B16 : Nat) : Int) := ⟨by omega, by show _ < (65536 : Int); omega⟩
theorem nv_snoc (B : Nat) (l : List Int) (d : Int) : nv B (l ++ [d]) = nv B l + B ^ l.length * d.toNat := by rw [nv_append]; simp [nv]
/-- trim -/
theorem rtrim_loop (l : List Int) (hd : Dig B16 l) (hl : l.length ≤ 4611686018427387904) : ∀ n : Nat, n ≤ l.length → Ev (fun k => endonymref2_trim.l0 k l (n : Int)) (rl (nv B16 (l.take n)))
  | 0, h => by
    refine Ev.step (f := fun _ => some []) (fun k => ?_) ?_
    · rw [endonymref2_trim.l0, if_neg (by omega), if_pos (by omega), if_pos (by omega)]; simp
    · have e : rl (nv B16 (l.take 0)) = [] := by rw [List.take_zero, nv, rl_zero]
      rw [e]; exact Ev.now _
  | n + 1, h => by
    obtain ⟨R, hR, hR2⟩ := rd_dig hd n (by omega)
    have hw : wrap64 (((n + 1 : Nat) : Int) - 1) = (n : Int) := by rw [w64 (by omega) (by omega)]; omega
    have hs : ∀ k, endonymref2_trim.l0 (k + 1) l ((n + 1 : Nat) : Int) = if rd l (n : Int) = 0 then endonymref2_trim.l0 k l (n : Int) else some (l.take (n + 1)) := by
      intro k
      rw [endonymref2_trim.l0, if_pos (by omega), hw, if_pos (by omega), if_pos (by omega)]
      by_cases h0 : rd l (n : Int) = 0
      · rw [if_pos h0, if_pos h0]
      · rw [if_neg h0, if_neg h0, if_pos (by omega), if_pos (by omega), Int.toNat_natCast]
    by_cases h0 : rd l (n : Int) = 0
    · rw [nv_take_succ B16 l n (by omega), h0]
      have ih := rtrim_loop l hd hl n (by omega)
      have e : nv B16 (l.take n) + B16 ^ n * (0 : Int).toNat = nv B16 (l.take n) := by simp
      rw [e]
      exact Ev.step (fun k => by rw [hs k, if_pos h0]) ih
    · have e : rl (nv B16 (l.take (n + 1))) = l.take (n + 1) := by
        refine rl_nv (hd.take _) ?_
        rw [take_rd l n (by omega)]
        simp [Norm, h0]
      rw [e]
      exact Ev.step (f := fun _ => some (l.take (n + 1))) (fun k => by rw [hs k, if_neg h0]) (Ev.now _)
theorem rtrim_ok {l : List Int} (hd : Dig B16 l) (hl : l.length ≤ 4611686018427387904) : Ev (fun k => endonymref2_trim.f k l) (rl (nv B16 l)) := by
  have h := rtrim_loop l hd hl l.length (Nat.le_refl _)
  rw [List.take_length] at h
  exact h
/-- Of -/
theorem and16 (m : Nat) (h : m < 18446744073709551616) : Go.bits .and .u64 (m : Int) 65535 = ((m % 65536 : Nat) : Int) := by
  have h1 := u64_and m 65535 (by omega) (by omega)
  refine h1.trans ?_
  rw [show 65535 = 2 ^ 16 - 1 from rfl, Nat.and_two_pow_sub_one_eq_mod]
theorem u32w {x : Int} (h0 : 0 ≤ x) (h1 : x ≤ 4294967295) : IntKind.u32.wrap x = x := by
  have e5 : IntKind.u32.wrap x = x % 4294967296 := rfl
  rw [e5]; omega
theorem and16' (m : Nat) (h : m < 4294967296) : Go.bits .and .u32 (m : Int) 65535 = ((m % 65536 : Nat) : Int) := by
  have h1 := (bits_nat .u32 32 (by decide) (fun n h0 h1 => u32w h0 (by omega)) m 65535 (by omega) (by omega)).1
  refine h1.trans ?_
  rw [show 65535 = 2 ^ 16 - 1 from rfl, Nat.and_two_pow_sub_one_eq_mod]
theorem of_loop : ∀ (m : Nat) (u : Nat) (acc : List Int), u < B16 ^ m → u < 18446744073709551616 → acc.length + m ≤ 1000 → Ev (fun k => endonymref2_Of.l0 k (u : Int) acc) (acc ++ rl u)
  | 0, u, acc, hu, h64, ha => by
    have h0 : u = 0 := by rw [Nat.pow_zero] at hu; omega
    subst h0
    rw [rl_zero, List.append_nil]
    exact Ev.step (f := fun _ => some acc) (fun k => by rw [endonymref2_Of.l0, if_neg (by omega)]) (Ev.now _)
  | m + 1, u, acc, hu, h64, ha => by
    by_cases h0 : u = 0
    · subst h0
      rw [rl_zero, List.append_nil]
      exact Ev.step (f := fun _ => some acc) (fun k => by rw [endonymref2_Of.l0, if_neg (by omega)]) (Ev.now _)
    · have hdiv : u / 65536 < B16 ^ m := Nat.div_lt_of_lt_mul (by rw [Nat.pow_succ, Nat.mul_comm] at hu; exact hu)
      have ih := of_loop m (u / 65536) (acc ++ [((u % 65536 : Nat) : Int)]) hdiv (by omega) (by rw [List.length_append, List.length_singleton]; omega)
      have e : acc ++ rl u = acc ++ [((u % 65536 : Nat) : Int)] ++ rl (u / 65536) := by
        rw [List.append_assoc]; congr 1
        exact dl_pos b16 h0
      rw [e]
      refine Ev.step (fun k => ?_) ih
      rw [endonymref2_Of.l0, if_pos (by omega), if_pos (by omega), and16 u h64]
      have e1 : ((u : Nat) : Int) / 65536 = ((u / 65536 : Nat) : Int) := by omega
      have e2 : ((u % 65536 : Nat) : Int) % 4294967296 = ((u % 65536 : Nat) : Int) := by omega
      rw [e1, e2]
theorem of_ok (u : Nat) (h : u < 18446744073709551616) : Ev (fun k => endonymref2_Of.f k (u : Int)) (rl u) :=
  of_loop 4 u [] (by rw [pow16]; exact h) h (by simp)
/-- Times -/
theorem times_carry : ∀ (m c : Nat) (out : List Int), c < B16 ^ m → m ≤ 2 → Dig B16 out → out.length + m ≤ 10000000 → Ev (fun k => endonymref2_Times.l1 k out (c : Int)) (rl (nv B16 out + B16 ^ out.length * c))
  | 0, c, out, hc, hm, hd, hl => by
    have h0 : c = 0 := by rw [Nat.pow_zero] at hc; omega
    subst h0
    have e : nv B16 out + B16 ^ out.length * 0 = nv B16 out := by rw [Nat.mul_zero, Nat.add_zero]
    rw [e]
    exact Ev.step (fun k => by rw [endonymref2_Times.l1, if_neg (by omega)]) (Ev.bind (rtrim_ok hd (by omega)) (Ev.now _))
  | m + 1, c, out, hc, hm, hd, hl => by
    by_cases h0 : c = 0
    · subst h0
      have e : nv B16 out + B16 ^ out.length * 0 = nv B16 out := by rw [Nat.mul_zero, Nat.add_zero]
      rw [e]
      exact Ev.step (fun k => by rw [endonymref2_Times.l1, if_neg (by omega)]) (Ev.bind (rtrim_ok hd (by omega)) (Ev.now _))
    · have hc32 : c < 4294967296 := Nat.lt_of_lt_of_le hc (Nat.le_trans (Nat.pow_le_pow_right (by decide) hm) (by decide))
      have hdiv : c / 65536 < B16 ^ m := Nat.div_lt_of_lt_mul (by rw [Nat.pow_succ, Nat.mul_comm] at hc; exact hc)
      have hdg := dig_nat (Nat.mod_lt c (show 0 < 65536 by omega))
      have ih := times_carry m (c / 65536) (out ++ [((c % 65536 : Nat) : Int)]) hdiv (by omega) (hd.append (Dig.cons hdg.1 hdg.2 (Dig.nil _))) (by rw [List.length_append, List.length_singleton]; omega)
      have e : nv B16 (out ++ [((c % 65536 : Nat) : Int)]) + B16 ^ (out ++ [((c % 65536 : Nat) : Int)]).length * (c / 65536) = nv B16 out + B16 ^ out.length * c := by
        rw [nv_snoc, List.length_append, List.length_singleton, Nat.pow_succ, Int.toNat_natCast, Nat.mul_assoc, Nat.add_assoc, ← Nat.mul_add]
        congr 2
        exact Nat.mod_add_div c 65536
      rw [e] at ih
      refine Ev.step (fun k => ?_) ih
      rw [endonymref2_Times.l1, if_pos (by omega), if_pos (by omega), and16' c hc32]
      rfl
theorem times_num (c R m : Nat) (hc : c < 65536) (hR : R < 65536) (hm : m < 65536) : c + R * m < 4294967296 ∧ (c + R * m) / 65536 < 65536 := by
  have h1 : R * m ≤ 65535 * 65535 := Nat.mul_le_mul (by omega) (by omega)
  omega
theorem rtimes_loop (l : List Int) (hd : Dig B16 l) (hl : l.length ≤ 1000000) (m : Nat) (hm : m < 65536) : ∀ (d i : Nat) (out : List Int) (c : Nat), i + d = l.length → out.length = i → Dig B16 out → c < 65536 →
    Ev (fun k => endonymref2_Times.l0 k l (m : Int) out (c : Int) (i : Int)) (rl (nv B16 out + B16 ^ i * (c + nv B16 (l.drop i) * m)))
  | 0, i, out, c, hi, ho, hdo, hc => by
    have e : l.drop i = [] := List.drop_eq_nil_of_le (by omega)
    have e2 : nv B16 out + B16 ^ i * (c + nv B16 (l.drop i) * m) = nv B16 out + B16 ^ out.length * c := by rw [e, nv, Nat.zero_mul, Nat.add_zero, ho]
    rw [e2]
    refine Ev.step (fun k => ?_) (times_carry 1 c out (by rw [Nat.pow_one]; exact hc) (by omega) hdo (by omega))
    rw [endonymref2_Times.l0, if_neg (by omega)]
  | d + 1, i, out, c, hi, ho, hdo, hc => by
    have hlt : i < l.length := by omega
    obtain ⟨R, hR, hR2⟩ := rd_dig hd i hlt
    obtain ⟨n1, n2⟩ := times_num c R m hc hR2 hm
    have hdg := dig_nat (Nat.mod_lt (c + R * m) (show 0 < 65536 by omega))
    have ih := rtimes_loop l hd hl m hm d (i + 1) (out ++ [(((c + R * m) % 65536 : Nat) : Int)]) ((c + R * m) / 65536) (by omega) (by rw [List.length_append, List.length_singleton, ho]) (hdo.append (Dig.cons hdg.1 hdg.2 (Dig.nil _))) n2
    have e : nv B16 (out ++ [(((c + R * m) % 65536 : Nat) : Int)]) + B16 ^ (i + 1) * ((c + R * m) / 65536 + nv B16 (l.drop (i + 1)) * m) = nv B16 out + B16 ^ i * (c + nv B16 (l.drop i) * m) := by
      rw [nv_snoc, ho, drop_rd l i hlt, nv, hR, Int.toNat_natCast, Int.toNat_natCast, Nat.pow_succ, Nat.mul_assoc, Nat.add_assoc, ← Nat.mul_add]
      congr 2
      obtain ⟨X, hX⟩ : ∃ X, nv B16 (l.drop (i + 1)) * m = X := ⟨_, rfl⟩
      obtain ⟨Y, hY⟩ : ∃ Y, R * m = Y := ⟨_, rfl⟩
      rw [Nat.add_mul, Nat.mul_assoc, hX, hY]
      show (c + Y) % 65536 + 65536 * ((c + Y) / 65536 + X) = c + (Y + 65536 * X)
      omega
    rw [e] at ih
    refine Ev.step (fun k => ?_) ih
    have e3 : ((c : Int) + (R : Int) * (m : Int)) % 4294967296 = ((c + R * m : Nat) : Int) := by
      rw [show ((c : Int) + (R : Int) * (m : Int)) = ((c + R * m : Nat) : Int) by rw [Int.natCast_add, Int.natCast_mul]]
      omega
    rw [endonymref2_Times.l0, if_pos (by omega), if_pos (by omega), if_pos (by omega), hR, e3, and16' _ n1, succ_w i (by omega)]
    rfl
theorem rtimes_ok (a m c : Nat) (ha : (rl a).length ≤ 1000000) (hm : m < 65536) (hc : c < 65536) : Ev (fun k => endonymref2_Times.f k (rl a) (m : Int) (c : Int)) (rl (a * m + c)) := by
  have h := rtimes_loop (rl a) (rl_dig a) ha m hm (rl a).length 0 [] c (by omega) rfl (Dig.nil _) hc
  rw [List.drop_zero, nv_rl, Nat.pow_zero, Nat.one_mul, nv, Nat.zero_add, Nat.add_comm] at h
  exact h
/-- Cmp -/
def cmpS (a b : Nat) : Int := if a < b then -1 else if b < a then 1 else 0
theorem rcmp_loop (a b : List Int) (hl : a.length = b.length) (hda : Dig B16 a) (hdb : Dig B16 b) (hb : a.length ≤ 4611686018427387904) : ∀ n : Nat, n ≤ a.length → a.drop n = b.drop n →
    Ev (fun k => endonymref2_Cmp.l0 k a b ((n : Int) - 1)) (cmpS (nv B16 a) (nv B16 b))
  | 0, h, he => by
    rw [List.drop_zero, List.drop_zero] at he
    rw [he]
    have e : cmpS (nv B16 b) (nv B16 b) = 0 := by unfold cmpS; rw [if_neg (Nat.lt_irrefl _), if_neg (Nat.lt_irrefl _)]
    rw [e]
    exact Ev.step (f := fun _ => some 0) (fun k => by rw [endonymref2_Cmp.l0, if_neg (by omega)]) (Ev.now _)
  | n + 1, h, he => by
    have hs : ∀ k, endonymref2_Cmp.l0 (k + 1) a b (((n + 1 : Nat) : Int) - 1) = if rd a (n : Int) < rd b (n : Int) then some (-1) else if rd a (n : Int) > rd b (n : Int) then some 1 else endonymref2_Cmp.l0 k a b ((n : Int) - 1) := by
      intro k
      rw [show ((n + 1 : Nat) : Int) - 1 = (n : Int) by omega, endonymref2_Cmp.l0, if_pos (by omega), if_pos (by omega), if_pos (by omega), if_pos (by omega), w64 (x := (n : Int) - 1) (by omega) (by omega)]
    by_cases h1 : rd a (n : Int) < rd b (n : Int)
    · have hlt := cmp_at (B := B16) (by decide) a b hl hda hdb n (by omega) he h1
      have e : cmpS (nv B16 a) (nv B16 b) = -1 := by unfold cmpS; rw [if_pos hlt]
      rw [e]
      exact Ev.step (f := fun _ => some (-1)) (fun k => by rw [hs k, if_pos h1]) (Ev.now _)
    · by_cases h2 : rd b (n : Int) < rd a (n : Int)
      · have hlt := cmp_at (B := B16) (by decide) b a hl.symm hdb hda n (by omega) he.symm h2
        have e : cmpS (nv B16 a) (nv B16 b) = 1 := by unfold cmpS; rw [if_neg (by omega), if_pos hlt]
        rw [e]
        exact Ev.step (f := fun _ => some 1) (fun k => by rw [hs k, if_neg h1, if_pos (show rd a (n : Int) > rd b (n : Int) from h2)]) (Ev.now _)
      · have e : a.drop n = b.drop n := by
          rw [drop_rd a n (by omega), drop_rd b n (by omega), he, show rd a (n : Int) = rd b (n : Int) by omega]
        exact Ev.step (fun k => by rw [hs k, if_neg h1, if_neg (show ¬ rd a (n : Int) > rd b (n : Int) from h2)]) (rcmp_loop a b hl hda hdb hb n (by omega) e)
theorem rcmp_ok (a b : Nat) (ha : (rl a).length ≤ 4611686018427387904) (hb : (rl b).length ≤ 4611686018427387904) : Ev (fun k => endonymref2_Cmp.f k (rl a) (rl b)) (cmpS a b) := by
  unfold endonymref2_Cmp.f
  by_cases h1 : (rl a).length = (rl b).length
  · refine Ev.congr (fun k => by rw [if_pos (by omega), w64 (x := ((rl a).length : Int) - 1) (by omega) (by omega)]) ?_
    have h := rcmp_loop (rl a) (rl b) h1 (rl_dig a) (rl_dig b) ha (rl a).length (Nat.le_refl _) (by rw [List.drop_eq_nil_of_le (Nat.le_refl _), List.drop_eq_nil_of_le (by omega)])
    rw [nv_rl, nv_rl] at h
    exact h
  · by_cases h2 : (rl a).length < (rl b).length
    · have hlt := cmp_len b16 h2
      have e : cmpS a b = -1 := by unfold cmpS; rw [if_pos hlt]
      rw [e]
      exact Ev.congr (f := fun _ => some (-1)) (fun k => by rw [if_neg (by omega), if_pos (by omega)]) (Ev.now _)
    · have hlt : b < a := cmp_len b16 (show (dl B16 b).length < (dl B16 a).length by show (rl b).length < (rl a).length; omega)
      have e : cmpS a b = 1 := by unfold cmpS; rw [if_neg (by omega), if_pos hlt]
      rw [e]
      exact Ev.congr (f := fun _ => some 1) (fun k => by rw [if_neg (by omega), if_neg (by omega)]) (Ev.now _)
/-- Product -/
theorem set_addB (B : Nat) (x : List Int) (i d p p' : Nat) (hi : i < x.length) (h : (rd x (i : Int)).toNat + p = d + B * p') : nv B (x.set i (d : Int)) + B ^ (i + 1) * p' = nv B x + B ^ i * p := by
  rw [nv_set B x i hi, nv_at B x i hi, Int.toNat_natCast]
  obtain ⟨R, hR⟩ : ∃ R, (rd x (i : Int)).toNat = R := ⟨_, rfl⟩
  obtain ⟨X, hX⟩ : ∃ X, nv B (x.drop (i + 1)) = X := ⟨_, rfl⟩
  obtain ⟨P, hP⟩ : ∃ P, B ^ i = P := ⟨_, rfl⟩
  rw [hR] at h ⊢
  rw [hX, Nat.pow_succ, hP]
  have e1 : P * (R + p) = P * (d + B * p') := by rw [h]
  simp only [Nat.mul_add, ← Nat.mul_assoc] at e1 ⊢
  omega
theorem prod_num (k C R S : Nat) (hk : k < 65536) (hC : C < 65536) (hR : R < 65536) (hS : S < 65536) : k + C + R * S < 4294967296 ∧ (k + C + R * S) / 65536 < 65536 := by
  have h1 : R * S ≤ 65535 * 65535 := Nat.mul_le_mul (by omega) (by omega)
  omega
theorem wadd (i j : Nat) (hi : i ≤ 1000000) (hj : j ≤ 1000000) : wrap64 ((i : Int) + (j : Int)) = ((i + j : Nat) : Int) := by rw [w64 (by omega) (by omega)]; omega
/-- one row of a product -/
theorem prod_row (a b : List Int) (hda : Dig B16 a) (hdb : Dig B16 b) (hla : a.length ≤ 1000000) (hlb : b.length ≤ 1000000) (i R : Nat) (hi : i < a.length) (hR : rd a (i : Int) = (R : Int)) (hR2 : R < 65536) :
    ∀ (d j : Nat) (c : List Int) (cy : Nat), j + d = b.length → c.length = a.length + b.length + 1 → Dig B16 c → cy < 65536 → nv B16 c + B16 ^ (i + j) * (cy + R * nv B16 (b.drop j)) < B16 ^ (i + 1 + b.length) →
    ∃ c' : List Int, c'.length = a.length + b.length + 1 ∧ Dig B16 c' ∧ nv B16 c' = nv B16 c + B16 ^ (i + j) * (cy + R * nv B16 (b.drop j)) ∧
      ∀ {y : List Int}, Ev (fun k => endonymref2_Product.l0 k a b c' ((i + 1 : Nat) : Int)) y → Ev (fun k => endonymref2_Product.l1 k a b c (i : Int) (cy : Int) (j : Int)) y
  | 0, j, c, cy, hj, hcl, hdc, hcy, hb => by
    have e : b.drop j = [] := List.drop_eq_nil_of_le (by omega)
    have hje : j = b.length := by omega
    have hb' : nv B16 c + B16 ^ (i + b.length) * cy < B16 ^ (i + b.length) * 65536 := by
      rw [e, nv, Nat.mul_zero, Nat.add_zero, hje, show i + 1 + b.length = i + b.length + 1 by omega, Nat.pow_succ] at hb
      exact hb
    have hib : i + b.length < c.length := by omega
    obtain ⟨C, hC, hC2⟩ := rd_dig hdc (i + b.length) hib
    have hsum : C + cy < 65536 := by
      have h1 := nv_at B16 c (i + b.length) hib
      rw [hC, Int.toNat_natCast] at h1
      have h2 : B16 ^ (i + b.length) * (C + cy) < B16 ^ (i + b.length) * 65536 := by
        rw [Nat.mul_add]
        rw [Nat.mul_add] at h1
        omega
      exact Nat.lt_of_mul_lt_mul_left h2
    have hdg := dig_nat hsum
    have hset := set_addB B16 c (i + b.length) (C + cy) cy 0 hib (by rw [hC, Int.toNat_natCast]; omega)
    rw [Nat.mul_zero, Nat.add_zero] at hset
    refine ⟨c.set (i + b.length) ((C + cy : Nat) : Int), by rw [List.length_set]; exact hcl, hdc.set _ hdg.1 hdg.2, ?_, ?_⟩
    · rw [hset, e, nv, Nat.mul_zero, Nat.add_zero, hje]
    · intro y hy
      refine Ev.step (fun k => ?_) hy
      have e2 : ((C : Int) + (cy : Int)) % 4294967296 = ((C + cy : Nat) : Int) := by omega
      rw [endonymref2_Product.l1, if_neg (by omega), wadd i b.length (by omega) hlb, if_pos (by omega), if_pos (by omega), hC, e2, succ_w i (by omega), Int.toNat_natCast]
  | d + 1, j, c, cy, hj, hcl, hdc, hcy, hb => by
    replace hb := Aside0.mk hb
    have hjl : j < b.length := by omega
    have hij : i + j < c.length := by omega
    obtain ⟨S, hS, hS2⟩ := rd_dig hdb j hjl
    obtain ⟨C, hC, hC2⟩ := rd_dig hdc (i + j) hij
    obtain ⟨n1, n2⟩ := prod_num cy C R S hcy hC2 hR2 hS2
    have hdg := dig_nat (Nat.mod_lt (cy + C + R * S) (show 0 < 65536 by omega))
    have hset := set_addB B16 c (i + j) ((cy + C + R * S) % 65536) (cy + R * S) ((cy + C + R * S) / 65536) hij (by
      rw [hC, Int.toNat_natCast]
      obtain ⟨Y, hY⟩ : ∃ Y, R * S = Y := ⟨_, rfl⟩
      rw [hY]
      show C + (cy + Y) = (cy + C + Y) % 65536 + 65536 * ((cy + C + Y) / 65536)
      omega)
    have e : nv B16 (c.set (i + j) (((cy + C + R * S) % 65536 : Nat) : Int)) + B16 ^ (i + (j + 1)) * ((cy + C + R * S) / 65536 + R * nv B16 (b.drop (j + 1))) = nv B16 c + B16 ^ (i + j) * (cy + R * nv B16 (b.drop j)) := by
      rw [Nat.mul_add, ← Nat.add_assoc, ← Nat.add_assoc, hset, drop_rd b j hjl, nv, hS, Int.toNat_natCast, Nat.pow_succ, Nat.add_assoc, Nat.mul_assoc, ← Nat.mul_add]
      congr 2
      rw [Nat.mul_add R, Nat.add_assoc]
      congr 2
      rw [← Nat.mul_assoc, ← Nat.mul_assoc, Nat.mul_comm B16 R]
    have hlen : (c.set (i + j) (((cy + C + R * S) % 65536 : Nat) : Int)).length = a.length + b.length + 1 := by rw [List.length_set]; exact hcl
    have ih := prod_row a b hda hdb hla hlb i R hi hR hR2 d (j + 1) (c.set (i + j) (((cy + C + R * S) % 65536 : Nat) : Int)) ((cy + C + R * S) / 65536) (by omega) hlen (hdc.set _ hdg.1 hdg.2) n2 (by rw [e]; exact hb.out)
    rw [e] at ih
    obtain ⟨c', h1, h2, h3, h4⟩ := ih
    refine ⟨c', h1, h2, h3, fun hy => Ev.step (fun k => ?_) (h4 hy)⟩
    have e3 : ((cy : Int) + (C : Int) + (R : Int) * (S : Int)) % 4294967296 = ((cy + C + R * S : Nat) : Int) := by
      rw [show ((cy : Int) + (C : Int) + (R : Int) * (S : Int)) = ((cy + C + R * S : Nat) : Int) by rw [Int.natCast_add, Int.natCast_add, Int.natCast_mul]]
      omega
    rw [endonymref2_Product.l1, if_pos (by omega), wadd i j (by omega) (by omega), if_pos (by omega), if_pos (by omega), if_pos (by omega), if_pos (by omega), if_pos (by omega), hC, hR, hS, e3, and16' _ n1, succ_w j (by omega), Int.toNat_natCast]
    rfl
theorem prod_rows (a b : List Int) (hda : Dig B16 a) (hdb : Dig B16 b) (hla : a.length ≤ 1000000) (hlb : b.length ≤ 1000000) : ∀ (d i : Nat) (c : List Int), i + d = a.length → c.length = a.length + b.length + 1 → Dig B16 c → nv B16 c = nv B16 (a.take i) * nv B16 b →
    Ev (fun k => endonymref2_Product.l0 k a b c (i : Int)) (rl (nv B16 a * nv B16 b))
  | 0, i, c, hi, hcl, hdc, hv => by
    have e : a.take i = a := List.take_of_length_le (by omega)
    rw [e] at hv
    rw [← hv]
    exact Ev.step (fun k => by rw [endonymref2_Product.l0, if_neg (by omega)]) (Ev.bind (rtrim_ok hdc (by omega)) (Ev.now _))
  | d + 1, i, c, hi, hcl, hdc, hv => by
    have hil : i < a.length := by omega
    obtain ⟨R, hR, hR2⟩ := rd_dig hda i hil
    have e : nv B16 c + B16 ^ (i + 0) * (0 + R * nv B16 (b.drop 0)) = nv B16 (a.take (i + 1)) * nv B16 b := by
      rw [hv, nv_take_succ B16 a i hil, hR, Int.toNat_natCast, List.drop_zero, Nat.add_zero, Nat.zero_add, Nat.add_mul, Nat.mul_assoc]
    have hlt : nv B16 (a.take (i + 1)) * nv B16 b < B16 ^ (i + 1 + b.length) := by
      have h1 := nv_lt (B := B16) (by decide) (hda.take (i + 1))
      have h2 := nv_lt (B := B16) (by decide) hdb
      rw [List.length_take, Nat.min_eq_left (by omega)] at h1
      rw [Nat.pow_add]
      exact Nat.mul_lt_mul_of_lt_of_lt h1 h2
    obtain ⟨c', h1, h2, h3, h4⟩ := prod_row a b hda hdb hla hlb i R hil hR hR2 b.length 0 c 0 (by omega) hcl hdc (by omega) (by rw [e]; exact hlt)
    rw [e] at h3
    refine Ev.step (f := fun k => endonymref2_Product.l1 k a b c (i : Int) ((0 : Nat) : Int) ((0 : Nat) : Int)) (fun k => ?_) (h4 (prod_rows a b hda hdb hla hlb d (i + 1) c' (by omega) h1 h2 h3))
    rw [endonymref2_Product.l0, if_pos (by omega)]; rfl
theorem prod_ok (a b : Nat) (ha : (rl a).length ≤ 1000000) (hb : (rl b).length ≤ 1000000) : Ev (fun k => endonymref2_Product.f k (rl a) (rl b)) (rl (a * b)) := by
  have hw : wrap64 (wrap64 (((rl a).length : Int) + ((rl b).length : Int)) + 1) = (((rl a).length + (rl b).length + 1 : Nat) : Int) := by rw [wadd _ _ ha hb, succ_w _ (by omega)]
  have h := prod_rows (rl a) (rl b) (rl_dig a) (rl_dig b) ha hb (rl a).length 0 (List.replicate ((rl a).length + (rl b).length + 1) 0) (by omega) (by simp) (Dig.zeros _ _ (by decide)) (by rw [nv_zeros, List.take_zero, nv, Nat.zero_mul])
  rw [nv_rl, nv_rl] at h
  unfold endonymref2_Product.f
  refine Ev.congr (fun k => ?_) h
  rw [hw, if_pos (by omega), if_pos (by omega), Int.toNat_natCast]
  rfl
/-- Ten -/
theorem rten_loop (n : Int) (hn : n ≤ 100000) : ∀ (d i a : Nat), (i : Int) + d = n ∨ (d = 0 ∧ n ≤ i) → i ≤ 100000 → bl (a * 10 ^ d) ≤ 16000000 → Ev (fun k => endonymref2_Ten.l0 k n (rl a) (i : Int)) (rl (a * 10 ^ d))
  | 0, i, a, hi, hil, hb => by
    rw [Nat.pow_zero, Nat.mul_one]
    exact Ev.step (f := fun _ => some (rl a)) (fun k => by rw [endonymref2_Ten.l0, if_neg (by omega)]) (Ev.now _)
  | d + 1, i, a, hi, hil, hb => by
    have e : a * 10 ^ (d + 1) = (a * 10) * 10 ^ d := by rw [Nat.pow_succ, Nat.mul_comm (10 ^ d) 10, Nat.mul_assoc]
    have hba : bl a ≤ 16000000 := by
      refine Nat.le_trans (bl_mono ?_) hb
      exact Nat.le_mul_of_pos_right _ (Nat.pow_pos (by omega))
    have ht := rtimes_ok a 10 0 (rl_len_of 1000000 (by omega)) (by omega) (by omega)
    rw [Nat.add_zero] at ht
    have ih := rten_loop n hn d (i + 1) (a * 10) (by omega) (by omega) (by rw [← e]; exact hb)
    rw [e]
    refine Ev.step (fun k => ?_) (Ev.bind (f := fun k t => endonymref2_Ten.l0 k n t ((i + 1 : Nat) : Int)) ht ih)
    rw [endonymref2_Ten.l0, if_pos (by omega), succ_w i (by omega)]
    rfl
theorem rten_ok (n : Int) (hn : n ≤ 100000) : Ev (fun k => endonymref2_Ten.f k n) (rl (10 ^ n.toNat)) := by
  have hb : bl (1 * 10 ^ n.toNat) ≤ 16000000 := by
    rw [Nat.one_mul]
    have h : bl (10 ^ n.toNat) ≤ 4 * n.toNat + 1 := by
      refine bl_le ?_
      have h1 : 10 ^ n.toNat ≤ 16 ^ n.toNat := Nat.pow_le_pow_left (by omega) _
      have h2 : 16 ^ n.toNat = 2 ^ (4 * n.toNat) := by rw [show 16 = 2 ^ 4 from rfl, ← Nat.pow_mul]
      have h3 : 2 ^ (4 * n.toNat) < 2 ^ (4 * n.toNat + 1) := Nat.pow_lt_pow_right (by omega) (by omega)
      omega
    omega
  have h := rten_loop n hn n.toNat 0 1 (by omega) (by omega) hb
  rw [Nat.one_mul] at h
  exact Ev.bind (of_ok 1 (by omega)) h
end Go.Proofs.YtfmjdoofopamkaaGreatDoor.Plain
