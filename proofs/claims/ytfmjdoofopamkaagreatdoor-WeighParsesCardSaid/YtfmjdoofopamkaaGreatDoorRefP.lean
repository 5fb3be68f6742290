import Derived.Test.YtfmjdoofopamkaaGreatDoorPlT
import Derived.Test.YtfmjdoofopamkaaGreatDoorWx13
import Derived.Test.YtfmjdoofopamkaaGreatDoorWx19
/-! The reference's Nearest and Parse; the law WeighParses. -/
namespace Go.Proofs.YtfmjdoofopamkaaGreatDoor.Plain
open Go.RowKit Go.Proofs.YtfmjdoofopamkaaGreatDoorW.PrintWords Go.Proofs.YtfmjdoofopamkaaGreatDoorW.PrintLast Go.Proofs.YtfmjdoofopamkaaGreatDoorW.PrintMore Go.Proofs.YtfmjdoofopamkaaGreatDoor.W
set_option linter.unusedVariables false
set_option linter.unusedSimpArgs false
set_option exponentiation.threshold 3000
theorem bind_pair (o : Option (Int × Bool)) : (o.bind fun b => some (b.1, b.2)) = o := by cases o <;> rfl
/-- Nearest, behind the digits -/
theorem nearest_end (n : Nat) (x : Int) (hn : bl n ≤ 90000) (hx0 : -2000 ≤ x) (hx1 : x ≤ 2000) : Ev (fun k => if x ≥ 0 then ((endonymref2_Ten.f k x).bind fun t420 => ((endonymref2_Product.f k (rl n) t420).bind fun t423 => ((endonymref2_Of.f k 1).bind fun t426 => ((endonymref2_Near.f k t423 t426).bind fun bt429 => (some (bt429.1, bt429.2)))))) else ((endonymref2_Ten.f k (wrap64 (-x))).bind fun t431 => ((endonymref2_Near.f k (rl n) t431).bind fun bt434 => (some (bt434.1, bt434.2))))) (nearS (decW n x)) := by
  by_cases h : 0 ≤ x
  · have h1 := bl_mul10 n x.toNat
    have h2 := bl_pow10 x.toNat
    have hnr := near_ok (n * 10 ^ x.toNat) 1 (by omega) (by omega) (by decide)
    have e : wordQ (n * 10 ^ x.toNat * 2 ^ 1074) 1 = decW n x := by unfold decW; rw [show (-x).toNat = 0 by omega, Nat.pow_zero]
    rw [e] at hnr
    refine Ev.congr (fun k => by rw [if_pos h]) (Ev.bind (rten_ok x (by omega)) (Ev.bind (prod_ok n (10 ^ x.toNat) (rl_bl _ (by omega)) (rl_bl _ (by omega))) (Ev.bind (of_ok 1 (by omega)) ?_)))
    exact Ev.congr (fun k => bind_pair _) hnr
  · have h2 := bl_pow10 (-x).toNat
    have hnr := near_ok n (10 ^ (-x).toNat) (Nat.ne_of_gt (Nat.pow_pos (by omega))) (by omega) (by omega)
    have e : wordQ (n * 2 ^ 1074) (10 ^ (-x).toNat) = decW n x := by unfold decW; rw [show x.toNat = 0 by omega, Nat.pow_zero, Nat.mul_one]
    rw [e] at hnr
    refine Ev.congr (fun k => by rw [if_neg h, w64 (x := -x) (by omega) (by omega)]) (Ev.bind (rten_ok (-x) (by omega)) ?_)
    exact Ev.congr (fun k => bind_pair _) hnr
theorem nearest_loop (D : ByteArray) (hs : Sz D) (x : Int) (hx0 : -2000 ≤ x) (hx1 : x ≤ 2000) : ∀ (r : List Int) (i a m : Nat), At D i r → r.all dg = true → a < 10 ^ m → m + r.length ≤ 1000 →
    Ev (fun k => endonymref2_Nearest.l0 k D x (rl a) (i : Int)) (nearS (decW (dvF a r) x)) := by
  intro r
  induction r with
  | nil =>
    intro i a m ha hd ham hm
    have h0 := ha.nil
    have hba : bl a ≤ 4001 := by
      have h1 := bl_pow10 m
      have h2 := bl_mono (Nat.le_of_lt ham)
      simp at hm; omega
    refine Ev.step (fun k => ?_) (nearest_end a x (by omega) hx0 hx1)
    rw [endonymref2_Nearest.l0, if_neg (by omega)]
  | cons c t ih =>
    intro i a m ha hd ham hm
    rw [List.all_cons, Bool.and_eq_true] at hd
    rw [List.length_cons] at hm
    have hr := dg_range hd.1
    have hlt := ha.lt
    have hba : bl a ≤ 4001 := by
      have h1 := bl_pow10 m
      have h2 := bl_mono (Nat.le_of_lt ham)
      omega
    have ht := rtimes_ok a 10 (c - 48).toNat (Nat.le_trans (rl_len_of 1000 (by omega)) (by omega)) (by omega) (by omega)
    have hnx := ih (i + 1) (a * 10 + (c - 48).toNat) (m + 1) ha.next hd.2 (by rw [Nat.pow_succ]; omega) (by omega)
    have e : dvF (a * 10 + (c - 48).toNat) t = dvF a (c :: t) := by
      rw [Nat.mul_comm]; rfl
    rw [e] at hnx
    have e2 : (c - 48) % 256 = (((c - 48).toNat : Nat) : Int) := by omega
    refine Ev.step (f := fun k => (endonymref2_Times.f k (rl a) ((10 : Nat) : Int) (((c - 48).toNat : Nat) : Int)).bind fun t417 => (endonymref2_Nearest.l0 k D x t417 ((i + 1 : Nat) : Int))) (fun k => ?_) (Ev.bind ht hnx)
    rw [endonymref2_Nearest.l0, if_pos hlt, if_pos (by omega), ha.rd, e2, ha.wrap hs]
    rfl
theorem nearest_ok (D : ByteArray) (x : Int) (hx0 : -2000 ≤ x) (hx1 : x ≤ 2000) (hd : (bytesOf D).all dg = true) (hl : (bytesOf D).length ≤ 100) : Ev (fun k => endonymref2_Nearest.f k D x) (nearS (decW (dv (bytesOf D)) x)) := by
  have h := nearest_loop D (by unfold Sz; rw [size_bytes]; omega) x hx0 hx1 (bytesOf D) 0 0 0 (At.start D) hd (by decide) (by omega)
  rw [rl_zero] at h
  exact h
/-- how long a number's text can be -/
theorem tailP_len {neg : Bool} {d : List Int} {b : Nat} {r : List Int} {z : Bool × List Int × Nat × Int} (h : tailP neg d b r = some z) : r.length ≤ 5 := by
  cases r with
  | nil => simp
  | cons c t =>
    rw [tailP_cons] at h
    split at h
    · split at h
      · split at h
        · rename_i h1 h2
          rw [List.length_tail] at h2
          rw [List.length_cons]; omega
        · exact absurd h (by simp)
      · split at h
        · rename_i h1 h2
          rw [List.length_cons]; omega
        · exact absurd h (by simp)
    · exact absurd h (by simp)
theorem tw_dw_len (l : List Int) : l.length = (l.takeWhile dg).length + (l.dropWhile dg).length := by
  have h := congrArg List.length (List.takeWhile_append_dropWhile (p := dg) (l := l))
  rw [List.length_append] at h
  omega
theorem bodyP_len {neg : Bool} {r : List Int} {z : Bool × List Int × Nat × Int} (h : bodyP neg r = some z) : r.length ≤ z.2.1.length + 6 := by
  have hl := tw_dw_len r
  unfold bodyP at h
  split at h
  · exact absurd h (by simp)
  · split at h
    · rename_i h1 h2
      rw [h2] at hl
      rw [(tailP_some h).2.1]
      simp at hl ⊢; omega
    · rename_i h1 c t h2
      rw [h2] at hl
      rw [List.length_cons] at hl
      split at h
      · split at h
        · exact absurd h (by simp)
        · have h3 := tailP_len h
          have h4 := tw_dw_len t
          rw [(tailP_some h).2.1, List.length_append]
          omega
      · have h3 := tailP_len h
        rw [(tailP_some h).2.1]
        rw [List.length_cons] at h3
        omega
theorem numP_len {r : List Int} {z : Bool × List Int × Nat × Int} (h : numP r = some z) : r.length ≤ z.2.1.length + 7 := by
  cases r with
  | nil => simp
  | cons c t =>
    have hnum : numP (c :: t) = if c = 45 then bodyP true t else bodyP false (c :: t) := rfl
    rw [hnum] at h
    split at h
    · have := bodyP_len h; rw [List.length_cons]; omega
    · have := bodyP_len h; omega
/-- Parse: the reference's -/
theorem rparse_ok (s : ByteArray) (hs : Sz s) : Ev (fun k => endonymref2_Parse.f k s) (((parseS s).1 : Int), (parseS s).2) := by
  unfold endonymref2_Parse.f parseS
  by_cases h1 : s.toList = sInf
  · rw [if_pos h1]
    exact Ev.congr (f := fun _ => some (((INF : Nat) : Int), (0 : Int))) (fun k => by rw [if_pos h1]; rfl) (Ev.now _)
  · rw [if_neg h1]
    by_cases h2 : s.toList = sNinf
    · rw [if_pos h2]
      exact Ev.congr (f := fun _ => some (((NINF : Nat) : Int), (0 : Int))) (fun k => by rw [if_neg h1, if_pos h2]; rfl) (Ev.now _)
    · rw [if_neg h2]
      refine Ev.congr (fun k => by rw [if_neg h1, if_neg h2]) ?_
      have bad : Ev (fun _ => some ((0 : Int), (20 : Int))) (((0 : Nat) : Int), (20 : Int)) := Ev.now _
      by_cases h64 : (s.size : Int) > 64
      · refine Ev.congr (f := fun _ => some ((0 : Int), (20 : Int))) (fun k => by rw [if_pos h64]) ?_
        cases hz : numP (bytesOf s) with
        | none => exact bad
        | some z =>
          have hl := numP_len hz
          rw [← size_bytes] at hl
          unfold parseN
          simp only
          rw [if_neg (by unfold numOk; omega)]
          exact bad
      · refine Ev.congr (fun k => by rw [if_neg h64]) ?_
        obtain ⟨r, hr, hi⟩ := Read_ok s hs
        refine Ev.bind hr ?_
        cases hz : numP (bytesOf s) with
        | none =>
          rw [hz] at hi
          have hi' : r.2.2.2.2 = false := hi
          exact Ev.congr (f := fun _ => some ((0 : Int), (20 : Int))) (fun k => by rw [hi', if_neg (by simp)]) bad
        | some z =>
          rw [hz] at hi
          obtain ⟨i1, i2, i3, i4, i5⟩ := hi
          unfold parseN
          simp only
          by_cases hb : numOk z
          · rw [if_pos hb]
            rw [decide_eq_true hb] at i5
            obtain ⟨b1, b2, b3⟩ := hb
            obtain ⟨r1, r2, r3, r4, r5⟩ := read_ok s hs z hz b1
            obtain ⟨p, hp⟩ : ∃ p : Int, z.2.2.2 - z.2.2.1 = p := ⟨_, rfl⟩
            have hw : wrap64 (r.2.2.2.1 - r.2.2.1) = p := by rw [i3, i4, hp, w64 (by omega) (by omega)]
            have hn := nearest_ok r.2.1 p (by omega) (by omega) (by rw [i2]; exact r2) (by rw [i2]; omega)
            rw [i2] at hn
            refine Ev.congr (fun k => by rw [i5, if_pos rfl, hw, i1]) (Ev.bind hn ?_)
            rw [hp]
            obtain ⟨w, hwd⟩ : ∃ w, decW (dv z.2.1) p = w := ⟨_, rfl⟩
            have hwle : w ≤ INF := by rw [← hwd]; exact wordQ_le _ _
            rw [hwd]
            unfold nearS
            by_cases hinf : w = INF
            · rw [if_pos hinf, if_pos hinf]
              exact Ev.congr (f := fun _ => some ((0 : Int), (21 : Int))) (fun k => by rw [if_neg (by simp)]) (Ev.now _)
            · rw [if_neg hinf, if_neg hinf]
              have hlt : w < P63 := by unfold P63 INF at *; omega
              cases hneg : z.1 with
              | true =>
                have e : Go.bits .or .u64 (w : Int) 9223372036854775808 = (((P63 + w : Nat)) : Int) := by
                  have h3 := u64_or w (2 ^ 63) (by unfold P63 at hlt; omega) (by omega)
                  have h4 : w ||| 2 ^ 63 = P63 + w := by
                    have := Nat.two_pow_add_eq_or_of_lt (i := 63) (b := w) hlt 1
                    rw [Nat.mul_one] at this
                    rw [Nat.or_comm]; exact this.symm
                  rw [h4] at h3
                  exact h3
                exact Ev.congr (f := fun _ => some (((P63 + w : Nat) : Int), (0 : Int))) (fun k => by rw [if_pos rfl, if_pos rfl, e]) (Ev.now _)
              | false =>
                have e : (if false = true then P63 else 0) + w = w := by simp
                rw [e]
                exact Ev.congr (f := fun _ => some ((w : Int), (0 : Int))) (fun k => by rw [if_pos rfl, if_neg (by simp)]) (Ev.now _)
          · rw [if_neg hb]
            rw [decide_eq_false hb] at i5
            exact Ev.congr (f := fun _ => some ((0 : Int), (20 : Int))) (fun k => by rw [i5, if_neg (by simp)]) bad
/-- WeighParses -/
theorem WeighParses_ok (s : ByteArray) (hs : Sz s) : ∃ k, endonymlaw2_WeighParses.f k s = some true := by
  refine Ev.rounds ?_
  unfold endonymlaw2_WeighParses.f
  refine Ev.bind (parse_ok s hs) (Ev.bind (rparse_ok s hs) (Ev.bind told_ok ?_))
  refine Ev.congr (f := fun _ => some true) (fun k => ?_) (Ev.now _)
  rw [if_pos rfl, if_pos rfl]
  unfold api_Bits.f
  simp
end Go.Proofs.YtfmjdoofopamkaaGreatDoor.Plain
