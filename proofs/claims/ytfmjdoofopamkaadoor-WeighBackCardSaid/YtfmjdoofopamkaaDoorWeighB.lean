import Derived.Test.YtfmjdoofopamkaaDoorPlP
import Derived.Test.YtfmjdoofopamkaaDoorWeighTold
import Derived.Test.YtfmjdoofopamkaaDoorWx11
import Derived.Test.YtfmjdoofopamkaaDoorWx1
/-! WeighBack: Parse of Print. -/
namespace Go.Proofs.YtfmjdoofopamkaaDoor.Plain
open Go.RowKit Go.Proofs.YtfmjdoofopamkaaDoorW.PrintWords Go.Proofs.YtfmjdoofopamkaaDoorW.PrintLast Go.Proofs.YtfmjdoofopamkaaDoorW.PrintMore Go.Proofs.YtfmjdoofopamkaaDoor.W
set_option linter.unusedVariables false
set_option linter.unusedSimpArgs false
set_option exponentiation.threshold 3000
theorem sg_app (neg : Bool) (a : ByteArray) : (sgB neg ++ a).size ≤ 1 + a.size := by
  rw [ByteArray.size_append]; have := sgB_size neg; omega
/-- What Print tells of a number is read as it. -/
theorem print_back (x : Nat) (hx : x < 18446744073709551616) (h : x % P63 ≤ INF) : ∃ t : ByteArray, Sz t ∧ Ev (fun k => weigh_Print.f k x) t ∧ parseS t = (x, 0) := by
  have hsg : (if decide (P63 ≤ x) = true then P63 else 0) + x % P63 = x := by
    by_cases hc : P63 ≤ x
    · rw [decide_eq_true hc, if_pos rfl]; unfold P63 at *; omega
    · rw [decide_eq_false hc, if_neg (by simp)]; unfold P63 at *; omega
  by_cases h0 : x % P63 = 0
  · refine ⟨_, ?_, print_zero x hx h0, ?_⟩
    · have := sg_app (decide (P63 ≤ x)) ⟨#[48]⟩
      have e : (⟨#[48]⟩ : ByteArray).size = 1 := rfl
      unfold Sz; omega
    · rw [h0, Nat.add_zero] at hsg
      have key : ∀ neg : Bool, parseS (sgB neg ++ ⟨#[48]⟩) = (if neg then P63 else 0, 0) := by
        intro neg
        have hb : bytesOf (sgB neg ++ ⟨#[48]⟩) = (if neg then [45] else []) ++ [48] := by rw [bytesOf_append, sgB_bytes]; rfl
        have hn : numP (bytesOf (sgB neg ++ ⟨#[48]⟩)) = some (neg, [48], 0, 0) := by rw [hb]; cases neg <;> decide
        obtain ⟨n1, n2⟩ := not_inf _ (by rw [hn]; simp)
        have hz : decW (dv [48]) (0 - ((0 : Nat) : Int)) = 0 := by
          rw [show dv [48] = 0 by decide]
          unfold decW; rw [Nat.zero_mul, Nat.zero_mul]; exact wordQ_zero _ (Nat.pow_pos (by omega))
        unfold parseS
        rw [if_neg n1, if_neg n2, hn]
        unfold parseN
        simp only
        rw [if_pos ⟨by simp, by show (-400 : Int) ≤ 0; decide, by show (0 : Int) ≤ 400; decide⟩, hz, if_neg (by decide)]
        cases neg <;> rfl
      rw [key, hsg]
  · by_cases h1 : x % P63 = INF
    · refine ⟨_, ?_, print_inf x hx h1, ?_⟩
      · have := sg_app (decide (P63 ≤ x)) ⟨#[105, 110, 102]⟩
        have e : (⟨#[105, 110, 102]⟩ : ByteArray).size = 3 := rfl
        unfold Sz; omega
      · rw [h1] at hsg
        by_cases hc : P63 ≤ x
        · rw [decide_eq_true hc] at hsg ⊢
          have e : (sgB true ++ (⟨#[105, 110, 102]⟩ : ByteArray)).toList = sNinf := by
            rw [ByteArray.toList_eq]; decide
          unfold parseS
          rw [if_neg (by rw [e]; decide), if_pos e, ← hsg]; rfl
        · rw [decide_eq_false hc] at hsg ⊢
          have e : (sgB false ++ (⟨#[105, 110, 102]⟩ : ByteArray)).toList = sInf := by
            rw [ByteArray.toList_eq]; decide
          unfold parseS
          rw [if_pos e, ← hsg]; rfl
    · obtain ⟨pw, Y, d, D, j, t1, t2, t3, t4⟩ := print_fin x 1000 hx (by omega) (by omega) (Nat.le_refl _)
      refine ⟨_, ?_, t4, ?_⟩
      · have h2 := sg_app (decide (P63 ≤ x)) (wtext D (Y + j))
        have h3 := wtext_size D (Y + j) (Nat.lt_trans t1.small (by decide)) (by have := t1.low; omega) (by have := t1.le; have := t1.high; have := t1.few; omega)
        unfold Sz; omega
      · have hok := (pick_ok t1.pick).1
        have hb : -400 ≤ Y + j ∧ Y + j ≤ 400 := by
          have a1 := t1.low
          refine ⟨by omega, Int.not_lt.1 fun hc => ?_⟩
          -- 10^401 is above all
          have h2 : decW D (Y + j) = x % P63 := by rw [← decW_strip, ← t1.strip]; exact hok.2
          have hD : 1 ≤ D := by have := t1.bare; omega
          obtain ⟨l, hl⟩ : ∃ l : Nat, l = 2000 := ⟨2000, rfl⟩
          rw [decW_un D (Y + j) l (by omega)] at h2
          have h3 := rd_mono l (show un 400 l ≤ D * un (Y + j) l by
            have := un_mono l (show (400 : Int) ≤ Y + j by omega)
            exact Nat.le_trans this (Nat.le_mul_of_pos_left _ hD))
          rw [h2] at h3
          have h4 : wordQ (un 400 l) (10 ^ l) = INF := by
            have h5 := decW_un 1 400 l (by omega)
            rw [Nat.one_mul] at h5
            rw [← h5]
            unfold decW
            refine wordQ_big _ _ (Nat.pow_pos (by omega)) ?_
            rw [show (-(400 : Int)).toNat = 0 by decide, show (400 : Int).toNat = 400 by decide, Nat.pow_zero, Nat.mul_one, Nat.one_mul]
            decide +kernel
          omega
        rw [parse_wtext _ D (Y + j) t1.small hb.1 hb.2, ← decW_strip, ← t1.strip, hok.2, if_neg (by omega), hsg]
/-- WeighBack -/
theorem WeighBack_ok (u : Nat) (hu : u < 18446744073709551616) : ∃ k, endonymlaw2_WeighBack.f k (u : Int) = some true := by
  refine Ev.rounds ?_
  unfold endonymlaw2_WeighBack.f
  have hf : api_Float.f (u : Int) = some u := by unfold api_Float.f; simp
  rw [hf]
  simp only [Option.bind_some]
  by_cases hn : INF < u % P63
  · refine Ev.congr (fun k => by rw [if_pos (isnan_true hn)]) (Ev.bind told_ok ?_)
    refine Ev.congr (fun k => by rw [if_pos rfl]) (Ev.bind (print_nan u hu hn) ?_)
    have e : ((⟨#[110, 97, 110]⟩ : ByteArray).toList == ([110, 97, 110] : List UInt8)) = true := by rw [ByteArray.toList_eq]; rfl
    rw [e]; exact Ev.now _
  · refine Ev.congr (fun k => by rw [isnan_false (Nat.not_lt.1 hn), if_neg (by simp)]) ?_
    obtain ⟨t, s1, s2, s3⟩ := print_back u hu (Nat.not_lt.1 hn)
    have hp := parse_ok t s1
    rw [s3] at hp
    refine Ev.bind s2 (Ev.bind hp (Ev.bind told_ok ?_))
    refine Ev.congr (f := fun _ => some true) (fun k => ?_) (Ev.now _)
    rw [if_pos rfl, if_pos rfl]
    unfold api_Bits.f
    simp
end Go.Proofs.YtfmjdoofopamkaaDoor.Plain
