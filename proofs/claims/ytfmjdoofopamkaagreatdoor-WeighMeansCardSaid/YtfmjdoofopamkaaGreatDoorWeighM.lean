import Derived.Test.YtfmjdoofopamkaaGreatDoorRefS
import Derived.Test.YtfmjdoofopamkaaGreatDoorFloatsL
import Derived.Test.YtfmjdoofopamkaaGreatDoorWeighTold
import Derived.Test.YtfmjdoofopamkaaGreatDoorWx28
import Derived.Test.YtfmjdoofopamkaaGreatDoorWx29
import Derived.Test.YtfmjdoofopamkaaGreatDoorWx21
/-! WeighMeans. -/
namespace Go.Proofs.YtfmjdoofopamkaaGreatDoor.Plain
open Go.RowKit Go.Proofs.YtfmjdoofopamkaaGreatDoorW.PrintWords Go.Proofs.YtfmjdoofopamkaaGreatDoorW.PrintLast Go.Proofs.YtfmjdoofopamkaaGreatDoorW.PrintMore Go.Proofs.YtfmjdoofopamkaaGreatDoor.W
set_option linter.unusedVariables false
set_option linter.unusedSimpArgs false
set_option exponentiation.threshold 3000
theorem rmean_ok (l : List Nat) (hl : l.length ≤ 1000) (hw : W64 l) : Ev (fun k => endonymref2_Mean.f k (ui l)) (((meanS l).1 : Int), (meanS l).2) := by
  unfold endonymref2_Mean.f
  refine Ev.bind (odd_ok l hl hw) ?_
  simp only
  rw [oddS_snd l hw]
  have bad : Ev (fun k => endonymref2_Mean.j0 k (ui l) true) (((0 : Nat) : Int), false) := Ev.step (f := fun _ => some (0, false)) (fun k => by rw [endonymref2_Mean.j0, if_pos rfl]) (Ev.now _)
  unfold meanS
  by_cases ho : l.any oddB = true
  · rw [if_pos (.inr ho)]
    exact Ev.congr (fun k => by rw [if_pos ho]) bad
  · have hof : l.any oddB = false := by simpa using ho
    by_cases h0 : l.length = 0
    · rw [if_pos (.inl h0)]
      have e : ((((ui l).length : Nat) : Int) == 0) = true := by rw [beq_iff_eq, ui_len]; omega
      exact Ev.congr (fun k => by rw [if_neg ho, e]) bad
    · rw [if_neg (fun h => h.elim h0 ho)]
      have e : ((((ui l).length : Nat) : Int) == 0) = false := by rw [Bool.eq_false_iff]; intro h; rw [beq_iff_eq, ui_len] at h; omega
      refine Ev.congr (fun k => by rw [if_neg ho, e]) ?_
      refine Ev.step (f := fun k => (endonymref2_Total.f k (ui l)).bind fun bt743 => ((endonymref2_rounded.f k bt743.1 bt743.2 ((l.length : Nat) : Int)).bind fun t747 => (some (t747, true)))) (fun k => by rw [endonymref2_Mean.j0, if_neg (by simp), ui_len]) ?_
      exact exact_sum l l.length hl (fin_of_odd hw hof) h0 hl (Ev.now _)
/-- WeighMeans -/
theorem WeighMeans_ok (l : List Int) (hw : ∀ x ∈ l, 0 ≤ x ∧ x ≤ 18446744073709551615) : ∃ k, endonymlaw2_WeighMeans.f k l = some true := by
  refine Ev.rounds ?_
  unfold endonymlaw2_WeighMeans.f
  refine Ev.bind (floats_ok l 60 (by omega)) ?_
  obtain ⟨h1, h2⟩ := ui_of (l.take 60) (fun x hx => hw x (List.mem_of_mem_take hx))
  obtain ⟨x, hx⟩ : ∃ x, (l.take 60).map Int.toNat = x := ⟨_, rfl⟩
  have hxl : x.length ≤ 1000 := by rw [← hx, List.length_map, List.length_take]; omega
  rw [hx] at h1 h2
  simp only [hx]
  rw [← h1]
  refine Ev.bind (mean_ok x hxl h2) (Ev.bind (rmean_ok x hxl h2) (Ev.bind told_ok ?_))
  refine Ev.congr (f := fun _ => some true) (fun k => ?_) (Ev.now _)
  rw [if_pos rfl, if_pos (beq_iff_eq.2 rfl)]
  unfold api_Bits.f
  simp
end Go.Proofs.YtfmjdoofopamkaaGreatDoor.Plain
