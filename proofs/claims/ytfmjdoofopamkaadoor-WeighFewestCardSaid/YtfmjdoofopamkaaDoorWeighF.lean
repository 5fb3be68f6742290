import Derived.Test.YtfmjdoofopamkaaDoorPlP
import Derived.Test.YtfmjdoofopamkaaDoorWeighTold
import Derived.Test.YtfmjdoofopamkaaDoorWx12
/-! WeighFewest: no text that is read as a number has fewer digits than its Print. -/
namespace Go.Proofs.YtfmjdoofopamkaaDoor.Plain
open Go.RowKit Go.Proofs.YtfmjdoofopamkaaDoorW.PrintWords Go.Proofs.YtfmjdoofopamkaaDoorW.PrintLast Go.Proofs.YtfmjdoofopamkaaDoorW.PrintMore Go.Proofs.YtfmjdoofopamkaaDoor.W
set_option linter.unusedVariables false
set_option linter.unusedSimpArgs false
set_option exponentiation.threshold 3000
/-- What a text that is read stands for. -/
theorem parse_inv' (s : ByteArray) (hs : Sz s) (a : Nat) (h : parseS s = (a, 0)) (h1 : ¬ s.toList = sInf) (h2 : ¬ s.toList = sNinf) :
    ∃ z, numP (bytesOf s) = some z ∧ numOk z ∧ decW (dv z.2.1) (z.2.2.2 - z.2.2.1) < INF ∧ a = (if z.1 then P63 else 0) + decW (dv z.2.1) (z.2.2.2 - z.2.2.1) ∧ z.2.1.all dg = true ∧ z.2.2.1 ≤ z.2.1.length := by
  unfold parseS at h
  rw [if_neg h1, if_neg h2] at h
  cases hz : numP (bytesOf s) with
  | none => rw [hz] at h; exact absurd (congrArg Prod.snd h) (by simp [parseN])
  | some z =>
    rw [hz] at h
    unfold parseN at h
    simp only at h
    by_cases hb : numOk z
    · rw [if_pos hb] at h
      by_cases hi : decW (dv z.2.1) (z.2.2.2 - z.2.2.1) = INF
      · rw [if_pos hi] at h; exact absurd (congrArg Prod.snd h) (by simp)
      · rw [if_neg hi] at h
        obtain ⟨_, g1, g2, _, _⟩ := read_ok s hs z hz hb.1
        have hle : decW (dv z.2.1) (z.2.2.2 - z.2.2.1) ≤ INF := wordQ_le _ _
        exact ⟨z, rfl, hb, by omega, (congrArg Prod.fst h).symm, g1, g2⟩
    · rw [if_neg hb] at h; exact absurd (congrArg Prod.snd h) (by simp)
/-- c is how many digits v has, without noughts at either end. -/
def DigOf (v c : Nat) : Prop := (v = 0 ∧ c = 0) ∨ ∃ D m, v = D * 10 ^ m ∧ D % 10 ≠ 0 ∧ 1 ≤ c ∧ 10 ^ (c - 1) ≤ D ∧ D < 10 ^ c
/-- how far digits stands: the first and the last digit that is no nought, how many digits there were -/
def DState (v : Nat) (f g : Int) (n : Nat) : Prop := (v = 0 ∧ f = -1 ∧ g = -1) ∨ ∃ a b c D : Nat, f = (a : Int) ∧ g = ((a + b : Nat) : Int) ∧ n = a + b + 1 + c ∧ 10 ^ (b + c) ≤ v ∧ v < 10 ^ (b + c + 1) ∧ v = D * 10 ^ c ∧ D % 10 ≠ 0
theorem dstate_nought {v : Nat} {f g : Int} {n : Nat} (h : DState v f g n) : DState (10 * v) f g (n + 1) := by
  rcases h with ⟨h1, h2, h3⟩ | ⟨a, b, c, D, h1, h2, h3, h4, h5, h6, h7⟩
  · exact .inl ⟨by omega, h2, h3⟩
  · refine .inr ⟨a, b, c + 1, D, h1, h2, by omega, ?_, ?_, ?_, h7⟩
    · rw [show b + (c + 1) = b + c + 1 by omega, Nat.pow_succ]; omega
    · rw [show b + (c + 1) + 1 = b + c + 1 + 1 by omega, Nat.pow_succ _ (b + c + 1)]; omega
    · rw [h6, Nat.pow_succ, Nat.mul_left_comm, Nat.mul_comm 10]
theorem dstate_first {v : Nat} {f g : Int} {n : Nat} (h : DState v f g n) (hf : f < 0) (d : Nat) (d1 : 1 ≤ d) (d9 : d ≤ 9) : DState (10 * v + d) (n : Int) (n : Int) (n + 1) := by
  rcases h with ⟨h1, h2, h3⟩ | ⟨a, b, c, D, h1, h2, h3, h4, h5, h6, h7⟩
  · refine .inr ⟨n, 0, 0, d, rfl, rfl, by omega, ?_, ?_, ?_, by omega⟩
    · rw [Nat.pow_zero]; omega
    · rw [show (0 : Nat) + 0 + 1 = 1 by omega, Nat.pow_one]; omega
    · rw [Nat.pow_zero]; omega
  · omega
theorem dstate_more {v : Nat} {f g : Int} {n : Nat} (h : DState v f g n) (hf : ¬ f < 0) (d : Nat) (d1 : 1 ≤ d) (d9 : d ≤ 9) : DState (10 * v + d) f (n : Int) (n + 1) := by
  rcases h with ⟨h1, h2, h3⟩ | ⟨a, b, c, D, h1, h2, h3, h4, h5, h6, h7⟩
  · omega
  · refine .inr ⟨a, b + c + 1, 0, 10 * v + d, h1, by omega, by omega, ?_, ?_, by rw [Nat.pow_zero, Nat.mul_one], by omega⟩
    · rw [show b + c + 1 + 0 = b + c + 1 by omega, Nat.pow_succ]; omega
    · rw [show b + c + 1 + 0 + 1 = b + c + 1 + 1 by omega, Nat.pow_succ _ (b + c + 1)]; omega
/-- the digits ahead of e -/
def digl (l : List Int) : List Int := (l.takeWhile (fun c => c != 101)).filter dg
theorem digl_nil : digl [] = [] := rfl
theorem digl_e (t : List Int) : digl (101 :: t) = [] := by unfold digl; rw [List.takeWhile_cons_of_neg (by decide)]; rfl
theorem digl_dig {c : Int} (t : List Int) (hc : dg c = true) : digl (c :: t) = c :: digl t := by
  have hr := dg_range hc
  unfold digl
  rw [List.takeWhile_cons_of_pos (by rw [bne_iff_ne]; omega), List.filter_cons_of_pos hc]
theorem digl_other {c : Int} (t : List Int) (hc : dg c = false) (he : c ≠ 101) : digl (c :: t) = digl t := by
  unfold digl
  rw [List.takeWhile_cons_of_pos (by rw [bne_iff_ne]; exact he), List.filter_cons_of_neg (by rw [hc]; simp)]
theorem digits_end (f g : Int) (n v : Nat) (h : DState v f g n) (hn : (n : Int) ≤ 4611686018427387904) : ∃ c : Nat, (if f < 0 then some 0 else some (wrap64 (wrap64 (g - f) + 1))) = some (c : Int) ∧ DigOf v c := by
  rcases h with ⟨h1, h2, h3⟩ | ⟨a, b, c, D, h1, h2, h3, h4, h5, h6, h7⟩
  · exact ⟨0, by rw [if_pos (by omega)]; rfl, .inl ⟨h1, rfl⟩⟩
  · refine ⟨b + 1, ?_, .inr ⟨D, c, h6, h7, by omega, ?_, ?_⟩⟩
    · rw [if_neg (by omega), w64 (x := g - f) (by omega) (by omega), w64 (by omega) (by omega)]
      congr 1; omega
    · rw [Nat.add_sub_cancel]
      rw [h6, Nat.pow_add] at h4
      exact Nat.le_of_mul_le_mul_right h4 (Nat.pow_pos (by omega))
    · rw [h6, show b + c + 1 = b + 1 + c by omega, Nat.pow_add] at h5
      exact Nat.lt_of_mul_lt_mul_right h5
theorem digits_loop (s : ByteArray) (hs : Sz s) : ∀ (r : List Int) (i n v : Nat) (f g : Int), At s i r → n ≤ i → DState v f g n →
    ∃ c : Nat, Ev (fun k => endonymlaw2_digits.l0 k s f g (n : Int) (i : Int)) (c : Int) ∧ DigOf (dvF v (digl r)) c := by
  intro r
  induction r with
  | nil =>
    intro i n v f g ha hn hd
    have hb := ha.bound hs
    have h0 := ha.nil
    obtain ⟨c, c1, c2⟩ := digits_end f g n v hd (by omega)
    refine ⟨c, ?_, c2⟩
    refine Ev.step (f := fun k => endonymlaw2_digits.j1 k s f g (n : Int) (i : Int) false) (fun k => by rw [endonymlaw2_digits.l0, if_neg (by omega)]) ?_
    exact Ev.step (f := fun _ => some (c : Int)) (fun k => by rw [endonymlaw2_digits.j1, if_neg (by simp), c1]) (Ev.now _)
  | cons b t ih =>
    intro i n v f g ha hn hd
    have hb := ha.bound hs
    have hlt := ha.lt
    have hrd := ha.rd
    have hw := ha.wrap hs
    have hwn : wrap64 ((n : Int) + 1) = ((n + 1 : Nat) : Int) := by rw [w64 (by omega) (by omega)]; omega
    have start : ∀ {y : Int}, Ev (fun k => endonymlaw2_digits.j1 k s f g (n : Int) (i : Int) (b != 101)) y → Ev (fun k => endonymlaw2_digits.l0 k s f g (n : Int) (i : Int)) y := fun hy =>
      Ev.step (fun k => by rw [endonymlaw2_digits.l0, if_pos hlt, if_pos (by omega), hrd]) hy
    by_cases he : b = 101
    · subst he
      obtain ⟨c, c1, c2⟩ := digits_end f g n v hd (by omega)
      rw [digl_e]
      refine ⟨c, start ?_, c2⟩
      exact Ev.step (f := fun _ => some (c : Int)) (fun k => by rw [endonymlaw2_digits.j1, if_neg (by decide), c1]) (Ev.now _)
    · have hbe : (b != 101) = true := bne_iff_ne.2 he
      rw [hbe] at start
      have j1 : ∀ {y : Int}, Ev (fun k => endonymlaw2_digits.j2 k s f g (n : Int) (i : Int) (dg b)) y → Ev (fun k => endonymlaw2_digits.j1 k s f g (n : Int) (i : Int) true) y := by
        intro y hy
        refine Ev.step (fun k => ?_) hy
        rw [endonymlaw2_digits.j1, if_pos rfl, if_pos (by omega), if_pos hlt, hrd]
        unfold dg
        by_cases h48 : b ≥ 48
        · rw [if_pos h48, decide_eq_true (show 48 ≤ b from h48), Bool.true_and]
        · rw [if_neg h48, decide_eq_false (show ¬ 48 ≤ b from h48), Bool.false_and]
      by_cases hdg : dg b = true
      · have hr := dg_range hdg
        rw [hdg] at j1
        rw [digl_dig t hdg]
        by_cases h48 : b = 48
        · subst h48
          obtain ⟨c, c1, c2⟩ := ih (i + 1) (n + 1) (10 * v) f g ha.next (by omega) (dstate_nought hd)
          refine ⟨c, start (j1 (Ev.step (fun k => ?_) c1)), c2⟩
          rw [endonymlaw2_digits.j2, if_pos rfl, if_pos (by omega), if_pos hlt, hrd, if_pos rfl, hwn, hw]
        · obtain ⟨d, hdd⟩ : ∃ d : Nat, b = 48 + (d : Int) := ⟨(b - 48).toNat, by omega⟩
          have hv : dvF v (b :: digl t) = dvF (10 * v + d) (digl t) := by
            show dvF (10 * v + (b - 48).toNat) (digl t) = _
            rw [show (b - 48).toNat = d by omega]
          rw [hv]
          by_cases hf : f < 0
          · obtain ⟨c, c1, c2⟩ := ih (i + 1) (n + 1) (10 * v + d) (n : Int) (n : Int) ha.next (by omega) (dstate_first hd hf d (by omega) (by omega))
            refine ⟨c, start (j1 (Ev.step (fun k => ?_) c1)), c2⟩
            rw [endonymlaw2_digits.j2, if_pos rfl, if_pos (by omega), if_pos hlt, hrd, if_neg h48, if_pos hf, hwn, hw]
          · obtain ⟨c, c1, c2⟩ := ih (i + 1) (n + 1) (10 * v + d) f (n : Int) ha.next (by omega) (dstate_more hd hf d (by omega) (by omega))
            refine ⟨c, start (j1 (Ev.step (fun k => ?_) c1)), c2⟩
            rw [endonymlaw2_digits.j2, if_pos rfl, if_pos (by omega), if_pos hlt, hrd, if_neg h48, if_neg hf, hwn, hw]
      · have hdf : dg b = false := by simpa using hdg
        rw [hdf] at j1
        rw [digl_other t hdf he]
        obtain ⟨c, c1, c2⟩ := ih (i + 1) n v f g ha.next (by omega) hd
        refine ⟨c, start (j1 (Ev.step (fun k => ?_) c1)), c2⟩
        rw [endonymlaw2_digits.j2, if_neg (by simp), hw]
theorem digits_ok (s : ByteArray) (hs : Sz s) : ∃ c : Nat, Ev (fun k => endonymlaw2_digits.f k s) (c : Int) ∧ DigOf (dv (digl (bytesOf s))) c :=
  digits_loop s hs (bytesOf s) 0 0 0 (-1) (-1) (At.start s) (by omega) (.inl ⟨rfl, rfl, rfl⟩)
/-- The digits ahead of e are the number's. -/
theorem digl_app (a b : List Int) (ha : a.all dg = true) : digl (a ++ b) = a ++ digl b := by
  induction a with
  | nil => rfl
  | cons c t ih =>
    rw [List.all_cons, Bool.and_eq_true] at ha
    rw [List.cons_append, digl_dig _ ha.1, ih ha.2]; rfl
theorem digl_tail {neg : Bool} {d : List Int} {b : Nat} {r : List Int} {z : Bool × List Int × Nat × Int} (h : tailP neg d b r = some z) : digl r = [] := by
  cases r with
  | nil => rfl
  | cons c t =>
    rw [tailP_cons] at h
    split at h
    · rename_i hc; rw [hc]; exact digl_e t
    · exact absurd h (by simp)
theorem digl_body {neg : Bool} {r : List Int} {z : Bool × List Int × Nat × Int} (h : bodyP neg r = some z) : digl r = z.2.1 := by
  have hl := List.takeWhile_append_dropWhile (p := dg) (l := r)
  have ha := tw_all r
  unfold bodyP at h
  split at h
  · exact absurd h (by simp)
  · split at h
    · rename_i h1 h2
      rw [h2] at hl
      rw [(tailP_some h).2.1]
      conv => lhs; rw [← hl]
      rw [digl_app _ _ ha, digl_nil, List.append_nil]
    · rename_i h1 c t h2
      rw [h2] at hl
      conv => lhs; rw [← hl]
      rw [digl_app _ _ ha]
      split at h
      · rename_i hc
        split at h
        · exact absurd h (by simp)
        · have hl2 := List.takeWhile_append_dropWhile (p := dg) (l := t)
          have ha2 := tw_all t
          rw [(tailP_some h).2.1, hc, digl_other t (by decide) (by decide)]
          conv => lhs; rw [← hl2]
          rw [digl_app _ _ ha2, digl_tail h, List.append_nil]
      · rw [(tailP_some h).2.1, digl_tail h, List.append_nil]
theorem digl_num {r : List Int} {z : Bool × List Int × Nat × Int} (h : numP r = some z) : digl r = z.2.1 := by
  cases r with
  | nil => exact absurd h (by simp [numP])
  | cons c t =>
    have hnum : numP (c :: t) = if c = 45 then bodyP true t else bodyP false (c :: t) := rfl
    rw [hnum] at h
    split at h
    · rename_i hc
      rw [hc, digl_other t (by decide) (by decide)]
      exact digl_body h
    · exact digl_body h
/-- The power of ten that a number's first digit has. -/
theorem top_ex (F l : Nat) (lo : Int) (hlo : un lo l ≤ F) : ∀ (m : Nat) (q : Int), lo + m = q + 1 → F < un (q + 1) l → ∃ P : Int, lo ≤ P ∧ P ≤ q ∧ un P l ≤ F ∧ F < un (P + 1) l := by
  intro m
  induction m with
  | zero => intro q hq h; rw [show q + 1 = lo by omega] at h; omega
  | succ m ih =>
    intro q hq h
    by_cases hc : un q l ≤ F
    · exact ⟨q, by omega, Int.le_refl _, hc, h⟩
    · obtain ⟨P, p1, p2, p3, p4⟩ := ih (q - 1) (by omega) (by rw [show q - 1 + 1 = q by omega]; omega)
      exact ⟨P, p1, by omega, p3, p4⟩
theorem bare_pow (D : Nat) (hD : D % 10 ≠ 0) : ∀ j k : Nat, D * 10 ^ j = 10 ^ k → D = 1
  | 0, 0, h => by simpa using h
  | 0, k + 1, h => by rw [Nat.pow_zero, Nat.mul_one, Nat.pow_succ] at h; omega
  | j + 1, 0, h => by
    rw [Nat.pow_succ, ← Nat.mul_assoc, Nat.pow_zero] at h; omega
  | j + 1, k + 1, h => by
    rw [Nat.pow_succ, Nat.pow_succ, ← Nat.mul_assoc] at h
    exact bare_pow D hD j k (Nat.eq_of_mul_eq_mul_right (by omega) h)
/-- Print has no more digits than any text. -/
theorem fewest {r l : Nat} (h0 : 0 < r) (h : r < INF) (hl : 1000 ≤ l) {pw Y : Int} {d D j : Nat} (t : Told r l pw Y d D j) (hpw : fv r * 10 ^ l < un (pw + 1) l) {D0 c : Nat} {x0 : Int} (hx0 : -500 ≤ x0) (hc : 1 ≤ c) (hc17 : c ≤ 17) (hD0 : 10 ^ (c - 1) ≤ D0) (hD1 : D0 < 10 ^ c) (hr : decW D0 x0 = r) : D < 10 ^ c := by
  have hone : 1 < 10 ^ c := Nat.one_lt_pow (by omega) (by omega)
  obtain ⟨hok, hdl⟩ := pick_ok t.pick
  have hbare := t.bare
  have hlowY := t.low
  have hleY := t.le
  have hhigh := t.high
  obtain ⟨P, p1, p2, p3, p4⟩ := top_ex (fv r * 10 ^ l) l (-340 + 16) (un_low l hl r h0) (pw + 1 - (-340 + 16)).toNat pw (by
    by_cases hcc : -340 + 16 ≤ pw + 1
    · omega
    · exfalso
      have h1 := un_low l hl r h0
      have h2 := un_mono l (show pw + 1 ≤ -340 + 16 by omega)
      omega) hpw
  obtain ⟨F, hF⟩ : ∃ F, fv r * 10 ^ l = F := ⟨_, rfl⟩
  have hRd : Rd r l (D0 * un x0 l) := by unfold Rd; rw [← decW_un D0 x0 l (by omega)]; exact hr
  rw [hF] at hdl p3 p4
  by_cases hA : P + 1 ≤ Y
  · have hlow : F / un Y l = 0 := Nat.div_eq_of_lt (Nat.lt_of_lt_of_le p4 (un_mono l hA))
    have hd1 : d = 1 := by rw [hlow] at hdl; have := hok.1; omega
    have hD : D = 1 := bare_pow D hbare j 0 (by rw [← t.strip, hd1, Nat.pow_zero])
    omega
  · obtain ⟨e, he⟩ : ∃ e : Nat, P + 1 = Y + e := ⟨(P + 1 - Y).toNat, by omega⟩
    have hu := un_add Y l (by omega) e
    rw [← he] at hu
    have hlow : F / un Y l < 10 ^ e := by rw [Nat.div_lt_iff_lt_mul (un_pos Y l), ← hu]; exact p4
    have hde : d ≤ 10 ^ e := by omega
    by_cases hcase : d = 10 ^ e
    · have hD : D = 1 := bare_pow D hbare j e (by rw [← t.strip]; exact hcase)
      omega
    · have hDd : D ≤ d := by rw [t.strip]; exact Nat.le_mul_of_pos_right _ (Nat.pow_pos (by omega))
      have hDe : D < 10 ^ e := by omega
      refine Nat.lt_of_lt_of_le hDe (Nat.pow_le_pow_right (by omega) (Nat.not_lt.1 fun hce => ?_))
      -- at the place P + 1 - c something is told
      obtain ⟨z, hz⟩ : ∃ z : Int, P + 1 - c = z := ⟨_, rfl⟩
      have hnone := t.none z (by omega) (by omega)
      have hzl : -(l : Int) ≤ z := by omega
      have uc := un_add z l hzl c
      rw [show z + (c : Int) = P + 1 by omega] at uc
      have uc1 := un_add z l hzl (c - 1)
      rw [show z + ((c - 1 : Nat) : Int) = P by omega] at uc1
      have hzF : un z l ≤ F := Nat.le_trans (un_mono l (by omega)) p3
      have hex : ∃ D2, Rd r l (D2 * un z l) := by
        by_cases s1 : un (P + 1) l ≤ D0 * un x0 l
        · exact ⟨10 ^ c, by rw [← uc]; exact rd_between h hRd (.inr ⟨by rw [hF]; omega, s1⟩)⟩
        · by_cases s2 : D0 * un x0 l < un P l
          · exact ⟨10 ^ (c - 1), by rw [← uc1]; exact rd_between h hRd (.inl ⟨Nat.le_of_lt s2, by rw [hF]; exact p3⟩)⟩
          · have hxz : z ≤ x0 := by
              refine Int.not_lt.1 fun hcc => ?_
              have u1 := un_add x0 l (by omega) c
              have h1 : D0 * un x0 l < 10 ^ c * un x0 l := Nat.mul_lt_mul_of_pos_right hD1 (un_pos x0 l)
              rw [← u1] at h1
              have h2 := un_mono l (show x0 + c ≤ P by omega)
              omega
            obtain ⟨i, hi⟩ : ∃ i : Nat, x0 = z + i := ⟨(x0 - z).toNat, by omega⟩
            have u2 := un_add z l hzl i
            rw [← hi] at u2
            exact ⟨D0 * 10 ^ i, by rw [Nat.mul_assoc, ← u2]; exact hRd⟩
      obtain ⟨D2, hD2⟩ := hex
      obtain ⟨d2, hd2⟩ := pick_of h hzl (by rw [hF]; exact hzF) hD2
      rw [hd2] at hnone
      exact absurd hnone (by simp)
theorem digof_lt {D c : Nat} (h : DigOf D c) (hD : D % 10 ≠ 0) : 1 ≤ c ∧ 10 ^ (c - 1) ≤ D := by
  rcases h with ⟨h1, _⟩ | ⟨E, m, h1, h2, h3, h4, h5⟩
  · omega
  · refine ⟨h3, ?_⟩
    rw [h1]; exact Nat.le_trans h4 (Nat.le_mul_of_pos_right _ (Nat.pow_pos (by omega)))
/-- WeighFewest -/
theorem WeighFewest_ok (s : ByteArray) (hs : Sz s) : ∃ k, endonymlaw2_WeighFewest.f k s = some true := by
  refine Ev.rounds ?_
  unfold endonymlaw2_WeighFewest.f
  refine Ev.bind (parse_ok s hs) ?_
  obtain ⟨⟨a, e⟩, hp⟩ : ∃ z, parseS s = z := ⟨_, rfl⟩
  rw [hp]
  simp only
  have good : ∀ a : Nat, Ev (fun k => endonymlaw2_WeighFewest.j0 k s a true) true := fun a =>
    Ev.step (f := fun k => (endonymlaw2_told.f k).bind fun t609 => (some t609)) (fun k => by rw [endonymlaw2_WeighFewest.j0, if_pos rfl]) (Ev.bind told_ok (Ev.now _))
  by_cases c1 : e = 0
  · by_cases c2 : (FloatKind.f64.format.order a (0 : Nat) == some .eq) = true
    · exact Ev.congr (fun k => by rw [if_pos c1, if_pos c2]) (good a)
    · by_cases c3 : s.toList = sInf
      · exact Ev.congr (fun k => by rw [if_pos c1, if_neg c2, if_pos c3]) (good a)
      · by_cases c4 : s.toList = sNinf
        · have e4 : (s.toList == ([45, 105, 110, 102] : List UInt8)) = true := by rw [beq_iff_eq]; exact c4
          exact Ev.congr (fun k => by rw [if_pos c1, if_neg c2, if_neg c3, e4]) (good a)
        · have e4 : (s.toList == ([45, 105, 110, 102] : List UInt8)) = false := by rw [Bool.eq_false_iff]; intro h; exact c4 (beq_iff_eq.1 h)
          refine Ev.congr (fun k => by rw [if_pos c1, if_neg c2, if_neg c3, e4]) ?_
          rw [c1] at hp
          obtain ⟨z, z1, z2, z3, z4, z5, z6⟩ := parse_inv' s hs a hp c3 c4
          obtain ⟨w, hw⟩ : ∃ w, decW (dv z.2.1) (z.2.2.2 - z.2.2.1) = w := ⟨_, rfl⟩
          rw [hw] at z3 z4
          have hw63 : w < P63 := by unfold INF P63 at *; omega
          have ham : a % P63 = w := by rw [z4]; cases z.1 <;> simp <;> (unfold P63 at *; omega)
          have ha64 : a < 18446744073709551616 := by rw [z4]; cases z.1 <;> simp <;> (unfold P63 at *; omega)
          have hw0 : 0 < w := by
            refine Nat.pos_of_ne_zero fun h0 => c2 ?_
            rw [h0] at z4
            cases hz : z.1 with
            | true => rw [hz] at z4; rw [z4]; decide +kernel
            | false => rw [hz] at z4; rw [z4]; decide +kernel
          obtain ⟨pw, Y, d, D, j, t1, t2, _, t4⟩ := print_fin a 1000 ha64 (by omega) (by omega) (Nat.le_refl _)
          rw [ham] at t1 t2
          have q1 := t1.low
          have q2 := t1.le
          have q3 := t1.high
          have q4 := t1.few
          have hD18 : D < 10 ^ 18 := Nat.lt_trans t1.small (by decide)
          have hsz : Sz (sgB (decide (P63 ≤ a)) ++ wtext D (Y + j)) := by
            have h2 : (sgB (decide (P63 ≤ a)) ++ wtext D (Y + j)).size ≤ 1 + (wtext D (Y + j)).size := by rw [ByteArray.size_append]; have := sgB_size (decide (P63 ≤ a)); omega
            have h3 := wtext_size D (Y + j) hD18 (by omega) (by omega)
            unfold Sz; omega
          have hnp := numP_wtext (decide (P63 ≤ a)) D (Y + j) hD18 (by omega) (by omega)
          obtain ⟨cp, p1, p2⟩ := digits_ok _ hsz
          obtain ⟨cs, s1, s2⟩ := digits_ok s hs
          rw [digl_num hnp] at p2
          rw [digl_num z1] at s2
          simp only at p2
          rw [(dx_facts 17 D hD18).2.1] at p2
          obtain ⟨g1, g2⟩ := digof_lt p2 t1.bare
          have hle : cp ≤ cs := by
            rcases s2 with ⟨h1, _⟩ | ⟨D0, m, h1, h2, h3, h4, h5⟩
            · exfalso
              rw [h1] at hw
              unfold decW at hw
              rw [Nat.zero_mul, Nat.zero_mul, wordQ_zero _ (Nat.pow_pos (by omega))] at hw
              omega
            · have hn17 : dv z.2.1 < 10 ^ 17 := Nat.lt_of_lt_of_le (dv_lt _ z5) (Nat.pow_le_pow_right (by omega) z2.1)
              have hD0n : D0 ≤ dv z.2.1 := by rw [h1]; exact Nat.le_mul_of_pos_right _ (Nat.pow_pos (by omega))
              have hcs : cs ≤ 17 := by
                refine Nat.not_lt.1 fun hcc => ?_
                have : 10 ^ 17 ≤ 10 ^ (cs - 1) := Nat.pow_le_pow_right (by omega) (by omega)
                omega
              rw [h1, decW_strip] at hw
              have hf := fewest hw0 z3 (Nat.le_refl 1000) t1 t2 (D0 := D0) (c := cs) (x0 := z.2.2.2 - z.2.2.1 + m) (by have := z2.1; have := z2.2.1; omega) h3 hcs h4 h5 hw
              refine Nat.not_lt.1 fun hcc => ?_
              have : 10 ^ cs ≤ 10 ^ (cp - 1) := Nat.pow_le_pow_right (by omega) (by omega)
              omega
          refine Ev.step (f := fun k => (endonymlaw2_told.f k).bind fun t610 => (if t610 = true then ((weigh_Print.f k a).bind fun t611 => ((endonymlaw2_digits.f k t611).bind fun t612 => ((endonymlaw2_digits.f k s).bind fun t613 => (some (decide (t612 ≤ t613)))))) else (some false))) (fun k => by rw [endonymlaw2_WeighFewest.j0, if_neg (by simp)]) (Ev.bind told_ok ?_)
          refine Ev.congr (fun k => by rw [if_pos rfl]) (Ev.bind t4 (Ev.bind p1 (Ev.bind s1 ?_)))
          rw [decide_eq_true (show (cp : Int) ≤ (cs : Int) by omega)]
          exact Ev.now _
  · exact Ev.congr (fun k => by rw [if_neg c1]) (good a)
end Go.Proofs.YtfmjdoofopamkaaDoor.Plain
