import Derived.Test.YtplnakmpogepmabDoorScanDecL
import Derived.Test.YtplnakmpogepmabDoorAx2
import Derived.Test.YtplnakmpogepmabDoorAx4
import Derived.Test.YtplnakmpogepmabDoorAx5
/-! ScanBack. -/
namespace Go.Proofs.YtplnakmpogepmabDoor.Plain
open Go.RowKit Go.Proofs.YtplnakmpogepmabDoorW.PrintWords Go.Proofs.YtplnakmpogepmabDoorW.PrintLast Go.Proofs.YtplnakmpogepmabDoorW.PrintMore Go.Proofs.YtplnakmpogepmabDoor.A
set_option linter.unusedVariables false
set_option linter.unusedSimpArgs false

/-- What Code answers, whatever the rounds. -/
def codeV (a : ByteArray) : Option (Int × Bool) := if a.size < 1 ∨ a.size > 6 ∨ (bt a 0 = 48 ∧ a.size > 1) then some (0, false) else cdAns (cd 0 (bytesOf a))
theorem codeV_eq (a : ByteArray) (k : Nat) (hk : 40 ≤ k) : scan_Code.f k a = codeV a := code_is a k hk
theorem codeV_some (a : ByteArray) : ∃ r, codeV a = some r := by
  unfold codeV
  split
  · exact ⟨_, rfl⟩
  · cases cd 0 (bytesOf a) with
    | none => exact ⟨_, rfl⟩
    | some n => rw [cdAns_some]; split <;> exact ⟨_, rfl⟩
def spanHit (a : ByteArray) (i : Nat) : Option (Int × Int × Bool) :=
  (codeV (a.extract 0 i)).bind fun p => (codeV (a.extract (i + 2) a.size)).bind fun q =>
    (if p.2 = true then (if q.2 = true then (if p.1 ≥ q.1 then (some (0, 0, false)) else (some (p.1, q.1, true))) else (some (0, 0, false))) else (some (0, 0, false)))
theorem span_hit (a : ByteArray) (ha : a.size ≤ 1152921504606846976) (i : Nat) (hi : i + 2 ≤ a.size) (k : Nat) (hk : 50 ≤ k) : scan_Span.j1 k a (i : Int) true = spanHit a i := by
  obtain ⟨k, rfl⟩ : ∃ m, k = m + 1 := ⟨k - 1, by omega⟩
  have e : wrap64 ((i : Int) + 2) = ((i + 2 : Nat) : Int) := by rw [w64 (by omega) (by omega)]; rfl
  have g1 : (0 : Int) ≤ (i : Int) := by omega
  have g2 : (i : Int) ≤ (a.size : Int) := by omega
  have g3 : (0 : Int) ≤ ((i + 2 : Nat) : Int) := by omega
  have g4 : ((i + 2 : Nat) : Int) ≤ (a.size : Int) := by omega
  rw [scan_Span.j1]
  simp only [if_true, if_pos g1, if_pos g2, e, Int.toNat_natCast, if_pos g3, if_pos g4, codeV_eq _ k (by omega)]
  rfl
/-- Where the run of Span ends. -/
theorem span_run (a : ByteArray) (ha : a.size ≤ 1152921504606846976) : ∀ (n i : Nat), i + n = a.size →
    (∃ j, i ≤ j ∧ j + 2 ≤ a.size ∧ bt a (j : Int) = 46 ∧ bt a ((j + 1 : Nat) : Int) = 46 ∧ (∀ z, i ≤ z → z < j → ¬ (bt a (z : Int) = 46 ∧ bt a ((z + 1 : Nat) : Int) = 46)) ∧ ∀ k, 2 * n + 60 ≤ k → scan_Span.l0 k a (i : Int) = spanHit a j) ∨
    ((∀ z, i ≤ z → z + 2 ≤ a.size → ¬ (bt a (z : Int) = 46 ∧ bt a ((z + 1 : Nat) : Int) = 46)) ∧ ∀ k, 2 * n + 60 ≤ k → scan_Span.l0 k a (i : Int) = (codeV a).bind fun c => some (c.1, c.1, c.2)) := by
  intro n
  induction n with
  | zero =>
    intro i hi
    right
    refine ⟨fun z z1 z2 => by omega, fun k hk => ?_⟩
    obtain ⟨k, rfl⟩ : ∃ m, k = m + 1 := ⟨k - 1, by omega⟩
    rw [scan_Span.l0, sh_wsucc i (by omega), if_neg (by omega), codeV_eq _ k (by omega)]
  | succ n ih =>
    intro i hi
    by_cases h : i + 1 < a.size
    · by_cases hh : bt a (i : Int) = 46 ∧ bt a ((i + 1 : Nat) : Int) = 46
      · left
        refine ⟨i, Nat.le_refl _, by omega, hh.1, hh.2, fun z h1 h2 => by omega, fun k hk => ?_⟩
        obtain ⟨k, rfl⟩ : ∃ m, k = m + 1 := ⟨k - 1, by omega⟩
        rw [scan_Span.l0, sh_wsucc i (by omega), if_pos (by omega), if_pos (by omega), if_pos (by omega), if_pos hh.1, if_pos (by omega), show (bt a ((i + 1 : Nat) : Int) == 46) = true from by rw [hh.2]; rfl]
        exact span_hit a ha i (by omega) k (by omega)
      · have go : ∀ k, 2 * (n + 1) + 60 ≤ k → scan_Span.l0 k a (i : Int) = scan_Span.l0 (k - 2) a ((i + 1 : Nat) : Int) := by
          intro k hk
          obtain ⟨k, rfl⟩ : ∃ m, k = m + 2 := ⟨k - 2, by omega⟩
          rw [Nat.add_sub_cancel]
          have jF : scan_Span.j1 (k + 1) a (i : Int) false = scan_Span.l0 k a ((i + 1 : Nat) : Int) := by rw [scan_Span.j1, if_neg (by decide), sh_wsucc i (by omega)]
          rw [scan_Span.l0, sh_wsucc i (by omega), if_pos (by omega), if_pos (by omega), if_pos (by omega)]
          by_cases h1 : bt a (i : Int) = 46
          · rw [if_pos h1, if_pos (by omega), show (bt a ((i + 1 : Nat) : Int) == 46) = false from by simpa using fun h2 => hh ⟨h1, h2⟩]
            exact jF
          · rw [if_neg h1]
            exact jF
        rcases ih (i + 1) (by omega) with ⟨j, h1, h2, h3, h4, h5, h6⟩ | ⟨h5, h6⟩
        · left
          refine ⟨j, by omega, h2, h3, h4, fun z z1 z2 => ?_, fun k hk => by rw [go k hk]; exact h6 (k - 2) (by omega)⟩
          by_cases hz : z = i
          · rw [hz]; exact hh
          · exact h5 z (by omega) z2
        · right
          refine ⟨fun z z1 z2 => ?_, fun k hk => by rw [go k hk]; exact h6 (k - 2) (by omega)⟩
          by_cases hz : z = i
          · rw [hz]; exact hh
          · exact h5 z (by omega) z2
    · right
      refine ⟨fun z z1 z2 => by omega, fun k hk => ?_⟩
      obtain ⟨k, rfl⟩ : ∃ m, k = m + 1 := ⟨k - 1, by omega⟩
      rw [scan_Span.l0, sh_wsucc i (by omega), if_neg (by omega), codeV_eq _ k (by omega)]
theorem span_some (a : ByteArray) (ha : a.size ≤ 1152921504606846976) : ∃ r, ∀ k, 2 * a.size + 60 ≤ k → scan_Span.f k a = some r := by
  have hs : ∀ j, ∃ r, spanHit a j = some r := by
    intro j
    obtain ⟨p, hp⟩ := codeV_some (a.extract 0 j)
    obtain ⟨q, hq⟩ := codeV_some (a.extract (j + 2) a.size)
    unfold spanHit
    rw [hp, hq, Option.bind_some, Option.bind_some]
    split
    · split
      · split <;> exact ⟨_, rfl⟩
      · exact ⟨_, rfl⟩
    · exact ⟨_, rfl⟩
  rcases span_run a ha a.size 0 (by omega) with ⟨j, _, _, _, _, _, h⟩ | ⟨_, h⟩
  · obtain ⟨r, hr⟩ := hs j
    exact ⟨r, fun k hk => (h k hk).trans hr⟩
  · obtain ⟨c, hc⟩ := codeV_some a
    exact ⟨(c.1, c.1, c.2), fun k hk => by rw [show scan_Span.f k a = scan_Span.l0 k a ((0 : Nat) : Int) from rfl, h k hk, hc]; rfl⟩
theorem codeV_back (a : ByteArray) (c : Int) (h : codeV a = some (c, true)) : 0 ≤ c ∧ c ≤ 1114111 ∧ ∀ j, 20 ≤ j → scan_PrintCode.f j c = some a := by
  have h2 := (codeV_eq a 40 (Nat.le_refl _)).trans h
  obtain ⟨h0, h1, _⟩ := code_taken a c 40 (Nat.le_refl _) h2
  exact ⟨h0, h1, code_back a c 40 (Nat.le_refl _) h2⟩
theorem dots (a : ByteArray) (j : Nat) (hj : j + 2 ≤ a.size) (h3 : bt a (j : Int) = 46) (h4 : bt a ((j + 1 : Nat) : Int) = 46) : a.extract 0 j ++ (⟨#[46, 46]⟩ : ByteArray) ++ a.extract (j + 2) a.size = a := by
  apply bytesOf_inj
  have hl : (bytesOf a).length = a.size := (sz a).symm
  rw [bytesOf_append, bytesOf_append, bytesOf_extract, bytesOf_extract, List.drop_zero, List.take_of_length_le (by omega : (bytesOf a).length ≤ a.size), show bytesOf (⟨#[46, 46]⟩ : ByteArray) = [46, 46] from rfl]
  have d1 := drop_rd (bytesOf a) j (by omega)
  have d2 := drop_rd (bytesOf a) (j + 1) (by omega)
  rw [← bt_rd, h3] at d1
  rw [← bt_rd, h4] at d2
  conv => rhs; rw [← List.take_append_drop j (bytesOf a), d1, d2]
  rw [List.append_assoc]
  rfl
theorem ps_same (a : Int) (p : ByteArray) (h : ∀ j, 20 ≤ j → scan_PrintCode.f j a = some p) (k : Nat) (hk : 20 ≤ k) : scan_PrintSpan.f k a a = some p := by
  unfold scan_PrintSpan.f
  rw [if_pos rfl, h k hk]; rfl
theorem ps_two (a b : Int) (p q : ByteArray) (h0 : 0 ≤ a) (hab : a < b) (hb : b ≤ 1114111) (hp : ∀ j, 20 ≤ j → scan_PrintCode.f j a = some p) (hq : ∀ j, 20 ≤ j → scan_PrintCode.f j b = some q) (sp : p.size ≤ 1152921504606846976) (sq : q.size ≤ 1152921504606846976) (k : Nat) (hk : 30 ≤ k) :
    scan_PrintSpan.f k a b = some (p ++ (⟨#[46, 46]⟩ : ByteArray) ++ q) := by
  obtain ⟨k, rfl⟩ : ∃ m, k = m + 1 := ⟨k - 1, by omega⟩
  have s2 : (p ++ (⟨#[46, 46]⟩ : ByteArray)).size = p.size + 2 := sp_app _ _
  unfold scan_PrintSpan.f
  rw [if_neg (by omega), if_pos h0, if_pos hab, decide_eq_true hb, scan_PrintSpan.j0, if_pos rfl, hp k (by omega), Option.bind_some, if_pos (by omega), hq k (by omega), Option.bind_some, if_pos (by omega)]
/-- A span that is taken is what is written. -/
theorem span_back (a : ByteArray) (ha : a.size ≤ 1152921504606846976) (x y : Int) (k : Nat) (hk : 2 * a.size + 60 ≤ k) (h : scan_Span.f k a = some (x, y, true)) : ∀ j, 30 ≤ j → scan_PrintSpan.f j x y = some a := by
  have h' : scan_Span.l0 k a ((0 : Nat) : Int) = some (x, y, true) := h
  rcases span_run a ha a.size 0 (by omega) with ⟨j, _, h2, h3, h4, _, h6⟩ | ⟨_, h6⟩
  · rw [h6 k hk] at h'
    unfold spanHit at h'
    obtain ⟨p, hp⟩ := codeV_some (a.extract 0 j)
    obtain ⟨q, hq⟩ := codeV_some (a.extract (j + 2) a.size)
    rw [hp, hq, Option.bind_some, Option.bind_some] at h'
    obtain ⟨pc, pb⟩ := p
    obtain ⟨qc, qb⟩ := q
    simp only at h'
    cases pb
    · rw [if_neg (by decide)] at h'; exact absurd h' (by simp)
    cases qb
    · rw [if_pos rfl, if_neg (by decide)] at h'; exact absurd h' (by simp)
    rw [if_pos rfl, if_pos rfl] at h'
    by_cases hge : pc ≥ qc
    · rw [if_pos hge] at h'; exact absurd h' (by simp)
    rw [if_neg hge] at h'
    have e := Option.some.inj h'
    have e1 : pc = x := congrArg Prod.fst e
    have e2 : qc = y := congrArg (fun z => z.2.1) e
    subst e1 e2
    obtain ⟨p0, p1, p2⟩ := codeV_back _ _ hp
    obtain ⟨q0, q1, q2⟩ := codeV_back _ _ hq
    intro j2 hj2
    rw [ps_two pc qc _ _ p0 (by omega) q1 p2 q2 (by rw [ByteArray.size_extract]; omega) (by rw [ByteArray.size_extract]; omega) j2 hj2, dots a j h2 h3 h4]
  · rw [h6 k hk] at h'
    obtain ⟨c, hc⟩ := codeV_some a
    obtain ⟨cc, cb⟩ := c
    rw [hc, Option.bind_some] at h'
    have e := Option.some.inj h'
    have e1 : cc = x := congrArg Prod.fst e
    have e2 : cc = y := congrArg (fun z => z.2.1) e
    have e3 : cb = true := congrArg (fun z => z.2.2) e
    subst e1 e2 e3
    obtain ⟨_, _, c2⟩ := codeV_back _ _ hc
    intro j2 hj2
    exact ps_same cc a c2 j2 (by omega)
theorem codeV_hx (a : ByteArray) (n : Nat) (hn : n ≤ 1114111) (ha : bytesOf a = hx n) : codeV a = some ((n : Int), true) :=
  (codeV_eq a 40 (Nat.le_refl _)).symm.trans (code_takes a n hn ha 40 (Nat.le_refl _))
theorem hx_lt (n : Nat) (hn : n ≤ 1114111) : n < 16 ^ 6 := Nat.lt_of_le_of_lt hn (by decide)
/-- What is printed is taken. -/
theorem span_takes (lo hi : Nat) (h1 : lo ≤ hi) (h2 : hi ≤ 1114111) : ∃ s : ByteArray, s.size ≤ 20 ∧ (∀ k, 30 ≤ k → scan_PrintSpan.f k (lo : Int) (hi : Int) = some s) ∧ ∀ k, 100 ≤ k → scan_Span.f k s = some ((lo : Int), (hi : Int), true) := by
  obtain ⟨p, hp1, hp⟩ := pc_is lo (by omega)
  obtain ⟨q, hq1, hq⟩ := pc_is hi h2
  have lp := hx_len 5 lo (hx_lt lo (by omega))
  have lq := hx_len 5 hi (hx_lt hi h2)
  have sp : p.size = (hx lo).length := by rw [sz, hp1]
  have sq : q.size = (hx hi).length := by rw [sz, hq1]
  have np : ∀ z, z < p.size → bt p (z : Int) ≠ 46 := by
    intro z hz
    have hzl : z < (bytesOf p).length := by rw [← sz]; exact hz
    rw [bt_rd, rd_nat _ z hzl]
    have := hx_range 6 lo (hx_lt lo (by omega)) ((bytesOf p)[z]) (by rw [← hp1]; exact List.getElem_mem _)
    omega
  by_cases he : lo = hi
  · subst he
    refine ⟨p, by omega, fun k hk => ps_same _ p hp k (by omega), fun k hk => ?_⟩
    show scan_Span.l0 k p ((0 : Nat) : Int) = _
    rcases span_run p (by omega) p.size 0 (by omega) with ⟨j, _, j2, j3, _, _, _⟩ | ⟨_, h6⟩
    · exact absurd j3 (np j (by omega))
    · rw [h6 k (by omega), codeV_hx p lo (by omega) hp1]; rfl
  · have s2 : (p ++ (⟨#[46, 46]⟩ : ByteArray)).size = p.size + 2 := sp_app _ _
    have s3 : (p ++ (⟨#[46, 46]⟩ : ByteArray) ++ q).size = p.size + 2 + q.size := by rw [sp_app, s2]
    refine ⟨p ++ (⟨#[46, 46]⟩ : ByteArray) ++ q, by omega, fun k hk => ps_two _ _ p q (by omega) (by omega) (by omega) hp hq (by omega) (by omega) k hk, fun k hk => ?_⟩
    show scan_Span.l0 k (p ++ (⟨#[46, 46]⟩ : ByteArray) ++ q) ((0 : Nat) : Int) = _
    have hall : bytesOf (p ++ (⟨#[46, 46]⟩ : ByteArray) ++ q) = bytesOf p ++ ([46, 46] ++ bytesOf q) := by
      rw [bytesOf_append, bytesOf_append, show bytesOf (⟨#[46, 46]⟩ : ByteArray) = [46, 46] from rfl, List.append_assoc]
    have pl : (bytesOf p).length = p.size := (sz p).symm
    have at_p : ∀ z, z < p.size → bt (p ++ (⟨#[46, 46]⟩ : ByteArray) ++ q) (z : Int) = bt p (z : Int) := by
      intro z hz
      rw [bt_rd, bt_rd, hall]
      unfold rd
      rw [Int.toNat_natCast, List.getD_eq_getElem?_getD, List.getD_eq_getElem?_getD, List.getElem?_append_left (by omega)]
    have at_d : ∀ z, z < 2 → bt (p ++ (⟨#[46, 46]⟩ : ByteArray) ++ q) ((p.size + z : Nat) : Int) = 46 := by
      intro z hz
      rw [bt_rd, hall]
      unfold rd
      rw [Int.toNat_natCast, List.getD_eq_getElem?_getD, List.getElem?_append_right (by omega), pl, Nat.add_sub_cancel_left]
      rcases (show z = 0 ∨ z = 1 from by omega) with rfl | rfl <;> rfl
    have hx1 : bytesOf ((p ++ (⟨#[46, 46]⟩ : ByteArray) ++ q).extract 0 p.size) = hx lo := by
      rw [bytesOf_extract, hall, List.drop_zero, ← pl, List.take_left, hp1]
    have hx2 : bytesOf ((p ++ (⟨#[46, 46]⟩ : ByteArray) ++ q).extract (p.size + 2) (p ++ (⟨#[46, 46]⟩ : ByteArray) ++ q).size) = hx hi := by
      rw [bytesOf_extract, List.take_of_length_le (by rw [← sz]; exact Nat.le_refl _), hall, ← pl, ← hq1, show bytesOf p ++ ([46, 46] ++ bytesOf q) = (bytesOf p ++ [46, 46]) ++ bytesOf q from (List.append_assoc _ _ _).symm]
      rw [show (bytesOf p).length + 2 = (bytesOf p ++ [46, 46]).length from by rw [List.length_append]; rfl, List.drop_left]
    rcases span_run (p ++ (⟨#[46, 46]⟩ : ByteArray) ++ q) (by omega) (p ++ (⟨#[46, 46]⟩ : ByteArray) ++ q).size 0 (by omega) with ⟨j, _, j2, j3, j4, j5, h6⟩ | ⟨h5, h6⟩
    · have hj : j = p.size := by
        by_cases hlt : j < p.size
        · exact absurd ((at_p j hlt).symm.trans j3) (np j hlt)
        · by_cases hgt : p.size < j
          · exact absurd ⟨at_d 0 (by omega), at_d 1 (by omega)⟩ (j5 p.size (by omega) hgt)
          · omega
      subst hj
      rw [h6 k (by omega)]
      unfold spanHit
      rw [codeV_hx _ lo (by omega) hx1, codeV_hx _ hi h2 hx2, Option.bind_some, Option.bind_some]
      simp only [if_true]
      rw [if_neg (by omega)]
    · exact absurd ⟨at_d 0 (by omega), at_d 1 (by omega)⟩ (h5 p.size (by omega) (by omega))
theorem and20 (n : Int) : bits .and .i32 n 1048575 = n % 1048576 := by
  have h3 : (BitVec.ofInt 32 1048575).toNat = 2 ^ 20 - 1 := by decide
  have key : (BitVec.ofInt 32 n &&& BitVec.ofInt 32 1048575).toNat = (n % ((2 ^ 32 : Nat) : Int)).toNat % 2 ^ 20 := by
    rw [BitVec.toNat_and, BitVec.toNat_ofInt, h3, Nat.and_two_pow_sub_one_eq_mod]
  show IntKind.i32.wrap ((BitVec.ofInt 32 n &&& BitVec.ofInt 32 1048575).toNat : Nat) = n % 1048576
  rw [key, IntKind.wrap_i32]
  omega
theorem pw_is (n : Int) (h0 : -9223372036854775808 ≤ n) (h1 : n ≤ 9223372036854775807) : scan_PrintWhole.f n = some ⟨(Lib.itoa n).toArray⟩ := by
  unfold scan_PrintWhole.f; rw [if_pos ⟨h0, h1⟩]
theorem whole_back (a : ByteArray) (m : Int) (k : Nat) (hk : 30 ≤ k) (h : scan_Whole.f k a = some (m, true)) : scan_PrintWhole.f m = some a := by
  obtain ⟨h1, h2, h3⟩ := whole_taken a m k hk h
  rw [pw_is m (by omega) (by omega), bytesOf_inj ((ix_itoa m).trans h1.symm)]
theorem whole_some (a : ByteArray) : ∃ r, ∀ k, 30 ≤ k → scan_Whole.f k a = some r := by
  have hj : ∀ (x : ByteArray) (b : Bool), ∃ r, ∀ k, 20 ≤ k → scan_Whole.j1 k x b = some r := by
    intro x b
    have h : ∃ r, (if x.size < 1 ∨ x.size > 9 ∨ bt x 0 = 48 then some (0, false) else wAns b (cdd 0 (bytesOf x))) = some r := by
      split
      · exact ⟨_, rfl⟩
      · cases cdd 0 (bytesOf x) with
        | none => exact ⟨_, rfl⟩
        | some n => rw [wAns_some]; split <;> exact ⟨_, rfl⟩
    obtain ⟨r, hr⟩ := h
    exact ⟨r, fun k hk => (whole_j1 x b k hk).trans hr⟩
  by_cases h0 : a.toList = ([48] : List UInt8)
  · exact ⟨_, fun k hk => by rw [whole_is a k hk, if_pos h0]⟩
  by_cases h1 : a.size > 0 ∧ bt a 0 = 45
  · obtain ⟨r, hr⟩ := hj (a.extract 1 a.size) true
    exact ⟨r, fun k hk => by rw [whole_is a k hk, if_neg h0, if_pos h1]; exact hr (k - 1) (by omega)⟩
  · obtain ⟨r, hr⟩ := hj a false
    exact ⟨r, fun k hk => by rw [whole_is a k hk, if_neg h0, if_neg h1]; exact hr (k - 1) (by omega)⟩
theorem sb_j3 (lo hi : Nat) (n : Int) (h1 : lo ≤ hi) (h2 : hi ≤ 1114111) (hn0 : -9223372036854775808 ≤ n) (hn1 : n ≤ 9223372036854775807) (k : Nat) (hk : 200 ≤ k) : endonymlaw5_ScanBack.j3 k (lo : Int) (hi : Int) n = some true := by
  obtain ⟨k, rfl⟩ : ∃ m, k = m + 1 := ⟨k - 1, by omega⟩
  obtain ⟨s, _, hs1, hs2⟩ := span_takes lo hi h1 h2
  have b1 : Int.tmod n 1000000000 < 1000000000 := Int.tmod_lt_of_pos n (by decide)
  have b0 : -1000000000 < Int.tmod n 1000000000 := Int.lt_tmod_of_pos n (by decide)
  rw [endonymlaw5_ScanBack.j3, hs1 k (by omega), Option.bind_some, hs2 k (by omega), Option.bind_some]
  generalize Int.tmod n 1000000000 = m at b0 b1
  rw [pw_is m (by omega) (by omega), Option.bind_some, whole_takes _ m b0 b1 (ix_itoa m) k (by omega), Option.bind_some, told5p_ok k (by omega), Option.bind_some]
  simp only [if_true, beq_self_eq_true]
theorem sb_j2 (a b n : Int) (hn0 : -9223372036854775808 ≤ n) (hn1 : n ≤ 9223372036854775807) (k : Nat) (hk : 201 ≤ k) : endonymlaw5_ScanBack.j2 k a b n false = some true := by
  obtain ⟨k, rfl⟩ : ∃ m, k = m + 1 := ⟨k - 1, by omega⟩
  rw [endonymlaw5_ScanBack.j2, if_neg (by decide), and20, and20]
  by_cases h : a % 1048576 > b % 1048576
  · rw [if_pos h]
    have := sb_j3 (b % 1048576).toNat (a % 1048576).toNat n (by omega) (by omega) hn0 hn1 k (by omega)
    rwa [show (((b % 1048576).toNat : Nat) : Int) = b % 1048576 from by omega, show (((a % 1048576).toNat : Nat) : Int) = a % 1048576 from by omega] at this
  · rw [if_neg h]
    have := sb_j3 (a % 1048576).toNat (b % 1048576).toNat n (by omega) (by omega) hn0 hn1 k (by omega)
    rwa [show (((b % 1048576).toNat : Nat) : Int) = b % 1048576 from by omega, show (((a % 1048576).toNat : Nat) : Int) = a % 1048576 from by omega] at this
theorem sb_j1 (s : ByteArray) (a b n : Int) (hn0 : -9223372036854775808 ≤ n) (hn1 : n ≤ 9223372036854775807) (k : Nat) (hk : 300 ≤ k) : endonymlaw5_ScanBack.j1 k s a b n false = some true := by
  obtain ⟨k, rfl⟩ : ∃ m, k = m + 1 := ⟨k - 1, by omega⟩
  obtain ⟨r, hr⟩ := whole_some s
  have hrk := hr k (by omega)
  rw [endonymlaw5_ScanBack.j1, if_neg (by decide), hrk, Option.bind_some]
  obtain ⟨m, ok⟩ := r
  cases ok
  · simp only [Bool.false_eq_true, if_false]
    exact sb_j2 a b n hn0 hn1 k (by omega)
  · have hp := whole_back s m k (by omega) hrk
    simp only [if_true, hp, Option.bind_some, bne_self_eq_false]
    exact sb_j2 a b n hn0 hn1 k (by omega)
theorem sb_j0 (s : ByteArray) (hs : s.size ≤ 1152921504606846976) (a b n : Int) (hn0 : -9223372036854775808 ≤ n) (hn1 : n ≤ 9223372036854775807) (k : Nat) (hk : 2 * s.size + 400 ≤ k) : endonymlaw5_ScanBack.j0 k s a b n false = some true := by
  obtain ⟨k, rfl⟩ : ∃ m, k = m + 1 := ⟨k - 1, by omega⟩
  obtain ⟨r, hr⟩ := span_some s hs
  have hrk := hr k (by omega)
  rw [endonymlaw5_ScanBack.j0, if_neg (by decide), hrk, Option.bind_some]
  obtain ⟨x, y, ok⟩ := r
  cases ok
  · simp only [Bool.false_eq_true, if_false]
    exact sb_j1 s a b n hn0 hn1 k (by omega)
  · have hp := span_back s hs x y k (by omega) hrk k (by omega)
    simp only [if_true, hp, Option.bind_some, bne_self_eq_false]
    exact sb_j1 s a b n hn0 hn1 k (by omega)
theorem ScanBack_ok (s : ByteArray) (hs : s.size ≤ 1152921504606846976) (a b n : Int) (hn0 : -9223372036854775808 ≤ n) (hn1 : n ≤ 9223372036854775807) : endonymlaw5_ScanBack.f (2 * s.size + 500) s a b n = some true := by
  obtain ⟨r, hr⟩ := codeV_some s
  have hrk := (codeV_eq s (2 * s.size + 500) (by omega)).trans hr
  unfold endonymlaw5_ScanBack.f
  rw [hrk, Option.bind_some]
  obtain ⟨c, ok⟩ := r
  cases ok
  · simp only [Bool.false_eq_true, if_false]
    exact sb_j0 s hs a b n hn0 hn1 _ (by omega)
  · have hp := (codeV_back s c hr).2.2 (2 * s.size + 500) (by omega)
    simp only [if_true, hp, Option.bind_some, bne_self_eq_false]
    exact sb_j0 s hs a b n hn0 hn1 _ (by omega)
end Go.Proofs.YtplnakmpogepmabDoor.Plain
