import Derived.Test.YtfmjdoofopamkaaDoorPlR
import Derived.Test.YtfmjdoofopamkaaDoorWeighTold
import Derived.Test.YtfmjdoofopamkaaDoorWx19
/-! Exact and Mean hang on no order. -/
namespace Go.Proofs.YtfmjdoofopamkaaDoor.Plain
open Go.RowKit Go.Proofs.YtfmjdoofopamkaaDoorW.PrintWords Go.Proofs.YtfmjdoofopamkaaDoorW.PrintLast Go.Proofs.YtfmjdoofopamkaaDoorW.PrintMore Go.Proofs.YtfmjdoofopamkaaDoor.W
set_option linter.unusedVariables false
set_option linter.unusedSimpArgs false
theorem ups_perm {l m : List Nat} (h : l.Perm m) : ups l = ups m ∧ downs l = downs m := by
  induction h with
  | nil => exact ⟨rfl, rfl⟩
  | cons x _ ih => simp only [ups, downs, ih.1, ih.2, and_self]
  | swap x y l => simp only [ups, downs]; constructor <;> omega
  | trans _ _ ih1 ih2 => exact ⟨ih1.1.trans ih2.1, ih1.2.trans ih2.2⟩
theorem any_perm {l m : List Nat} (p : Nat → Bool) (h : l.Perm m) : l.any p = m.any p := by
  rw [Bool.eq_iff_iff, List.any_eq_true, List.any_eq_true]
  constructor
  · rintro ⟨x, hx, hp⟩; exact ⟨x, h.mem_iff.1 hx, hp⟩
  · rintro ⟨x, hx, hp⟩; exact ⟨x, h.mem_iff.2 hx, hp⟩
theorem exactS_perm {l m : List Nat} (h : l.Perm m) : exactS l = exactS m := by
  unfold exactS
  rw [any_perm nanB h, (ups_perm h).1, (ups_perm h).2]
  simp only [h.mem_iff]
theorem meanS_perm {l m : List Nat} (h : l.Perm m) : meanS l = meanS m := by
  unfold meanS
  rw [any_perm oddB h, (ups_perm h).1, (ups_perm h).2, h.length_eq]
/-- floats: the first ones, as floats and as bits. -/
theorem floats_loop (l : List Int) (n : Nat) (hn : n ≤ 1000) : ∀ (d i : Nat) (x : List Nat) (u : List Int), i + d = min l.length n → x = (l.take i).map Int.toNat → u = l.take i →
    Ev (fun k => endonymlaw2_floats.l0 k l (n : Int) x u (i : Int)) ((l.take n).map Int.toNat, l.take n)
  | 0, i, x, u, hi, hx, hu => by
    have e : l.take i = l.take n := by
      rcases Nat.le_total l.length n with h | h
      · rw [List.take_of_length_le (by omega), List.take_of_length_le h]
      · rw [show i = n by omega]
    rw [e] at hx hu
    rw [hx, hu]
    refine Ev.step (f := fun _ => some ((l.take n).map Int.toNat, l.take n)) (fun k => ?_) (Ev.now _)
    rw [endonymlaw2_floats.l0]
    by_cases h : (i : Int) < (l.length : Int)
    · rw [if_pos h, if_neg (by omega)]
    · rw [if_neg h]
  | d + 1, i, x, u, hi, hx, hu => by
    have hlt : i < l.length := by omega
    have hil : i < 1000 := by omega
    have ih := floats_loop l n hn d (i + 1) (x ++ [(rd l (i : Int)).toNat]) (u ++ [rd l (i : Int)]) (by omega)
      (by rw [take_rd l i hlt, List.map_append, hx]; rfl) (by rw [take_rd l i hlt, hu])
    have hxl : x.length ≤ 1000 := by rw [hx, List.length_map, List.length_take]; omega
    have hul : u.length ≤ 1000 := by rw [hu, List.length_take]; omega
    refine Ev.step (f := fun k => endonymlaw2_floats.l0 k l (n : Int) (x ++ [(rd l (i : Int)).toNat]) (u ++ [rd l (i : Int)]) ((i + 1 : Nat) : Int)) (fun k => ?_) ih
    rw [endonymlaw2_floats.l0, if_pos (by omega), if_pos (by omega), if_pos (by omega), succ_wrap i (by omega)]
    show (if x.length < 17592186044416 then _ else _) = _
    rw [if_pos (by omega), if_pos (by omega)]
theorem floats_ok (l : List Int) (n : Nat) (hn : n ≤ 1000) : Ev (fun k => endonymlaw2_floats.f k l (n : Int)) ((l.take n).map Int.toNat, l.take n) := by
  unfold endonymlaw2_floats.f
  exact floats_loop l n hn (min l.length n) 0 [] [] (by omega) rfl rfl
theorem and_range (x : Int) : 0 ≤ Go.bits .and .i64 x 1099511627775 ∧ Go.bits .and .i64 x 1099511627775 ≤ 1099511627775 := by
  unfold Go.bits
  have e2 : BitVec.ofInt IntKind.i64.bits (1099511627775 : Int) = BitVec.ofNat 64 1099511627775 := BitVec.ofInt_natCast 64 1099511627775
  show 0 ≤ IntKind.i64.wrap ((BitVec.ofInt IntKind.i64.bits x &&& BitVec.ofInt IntKind.i64.bits (1099511627775 : Int)).toNat : Int) ∧ IntKind.i64.wrap ((BitVec.ofInt IntKind.i64.bits x &&& BitVec.ofInt IntKind.i64.bits (1099511627775 : Int)).toNat : Int) ≤ 1099511627775
  rw [e2]
  have h1 : (BitVec.ofInt 64 x &&& BitVec.ofNat 64 1099511627775).toNat ≤ 1099511627775 := by
    rw [BitVec.toNat_and, BitVec.toNat_ofNat]; exact Nat.and_le_right
  have h2 : IntKind.i64.wrap (((BitVec.ofInt 64 x &&& BitVec.ofNat 64 1099511627775).toNat : Nat) : Int) = (((BitVec.ofInt 64 x &&& BitVec.ofNat 64 1099511627775).toNat : Nat) : Int) := i64_wrap (by omega) (by omega)
  have h3 : 0 ≤ IntKind.i64.wrap (((BitVec.ofInt 64 x &&& BitVec.ofNat 64 1099511627775).toNat : Nat) : Int) ∧ IntKind.i64.wrap (((BitVec.ofInt 64 x &&& BitVec.ofNat 64 1099511627775).toNat : Nat) : Int) ≤ 1099511627775 := by rw [h2]; omega
  exact h3
theorem turns_end (x y : List Nat) (hp : y.Perm x) (hl : x.length ≤ 1000) (hw : W64 x) : Ev (fun k => endonymlaw2_WeighTurns.j1 k x y) true := by
  have h1 := exact_ok x hl hw
  have hw2 : W64 y := fun z hz => hw z (hp.mem_iff.1 hz)
  have hl2 : y.length ≤ 1000 := by rw [hp.length_eq]; exact hl
  have h2 := exact_ok y hl2 hw2
  have h3 := mean_ok x hl hw
  have h4 := mean_ok y hl2 hw2
  rw [exactS_perm hp] at h2
  rw [meanS_perm hp] at h4
  obtain ⟨E, hE⟩ : ∃ E, exactS x = E := ⟨_, rfl⟩
  obtain ⟨⟨M, B⟩, hM⟩ : ∃ M, meanS x = M := ⟨_, rfl⟩
  rw [hE] at h1 h2
  rw [hM] at h3 h4
  refine Ev.step (fun k => by rw [endonymlaw2_WeighTurns.j1]) ?_
  refine Ev.bind h1 (Ev.bind h2 (Ev.bind h3 (Ev.bind h4 (Ev.bind told_ok ?_))))
  refine Ev.congr (f := fun _ => some true) (fun k => ?_) (Ev.now _)
  rw [if_pos rfl]
  have hB : (B == B) = true := beq_self_eq_true B
  have hb : ∀ n : Nat, api_Bits.f n = some (n : Int) := fun n => rfl
  simp only [hb, Option.bind_some, hB, beq_self_eq_true, if_true, ite_self]
theorem turn_idx (A : Int) (m : Nat) (a0 : 0 ≤ A) (hm : (m : Int) > 1) (hm2 : m ≤ 1000) : ∃ p : Nat, Int.tmod A (wrap64 ((m : Int) - 1)) = (p : Int) ∧ p + 1 < m ∧ wrap64 ((m : Int) - 1) = (m : Int) - 1 ∧ wrap64 ((p : Int) + 1) = ((p + 1 : Nat) : Int) ∧
    ¬ wrap64 ((m : Int) - 1) = 0 ∧ 0 ≤ ((p + 1 : Nat) : Int) ∧ ((p + 1 : Nat) : Int) < (m : Int) ∧ 0 ≤ (p : Int) ∧ (p : Int) < (m : Int) := by
  have hw1 : wrap64 ((m : Int) - 1) = (m : Int) - 1 := w64 (by omega) (by omega)
  rw [hw1]
  obtain ⟨n, hn⟩ : ∃ n : Int, (m : Int) - 1 = n := ⟨_, rfl⟩
  rw [hn]
  have ht0 : 0 ≤ Int.tmod A n := Int.tmod_nonneg _ a0
  have ht1 : Int.tmod A n < n := Int.tmod_lt_of_pos _ (by omega)
  obtain ⟨q, hq⟩ : ∃ q, Int.tmod A n = q := ⟨_, rfl⟩
  rw [hq] at ht0 ht1 ⊢
  refine ⟨q.toNat, by omega, by omega, rfl, ?_, by omega, by omega, by omega, by omega, by omega⟩
  rw [w64 (by omega) (by omega)]; omega
theorem turns_loop (x : List Nat) (hl : x.length ≤ 1000) (hw : W64 x) (t : List Int) : ∀ (d i : Nat) (y : List Nat), i + d = min t.length 60 → y.Perm x → Ev (fun k => endonymlaw2_WeighTurns.l0 k t x y (i : Int)) true
  | 0, i, y, hi, hp => by
    refine Ev.step (f := fun k => endonymlaw2_WeighTurns.j1 k x y) (fun k => ?_) (turns_end x y hp hl hw)
    rw [endonymlaw2_WeighTurns.l0]
    by_cases h : (i : Int) < (t.length : Int)
    · rw [if_pos h, if_neg (by omega)]
    · rw [if_neg h]
  | d + 1, i, y, hi, hp => by
    have hlt : (i : Int) < (t.length : Int) := by omega
    have h60 : (i : Int) < 60 := by omega
    have hi0 : (0 : Int) ≤ i := by omega
    have hid : i + 1 + d = min t.length 60 := by omega
    have hyl : y.length ≤ 1000 := by rw [hp.length_eq]; exact hl
    have hwi : wrap64 ((i : Int) + 1) = ((i + 1 : Nat) : Int) := succ_wrap i (by omega)
    by_cases h2 : (y.length : Int) > 1
    · obtain ⟨A, hA, a0⟩ : ∃ A, Go.bits .and .i64 (rd t (i : Int)) 1099511627775 = A ∧ 0 ≤ A := ⟨_, rfl, (and_range _).1⟩
      obtain ⟨p, hp2, hpb, hw1, hw2, h0, h1, h3, h4, h5⟩ := turn_idx A y.length a0 h2 hyl
      have hpa : p < y.length := Nat.lt_of_succ_lt hpb
      have hperm : ((y.set p y[p + 1]).set (p + 1) y[p]).Perm x := (List.set_set_perm hpa hpb).trans hp
      refine Ev.step (f := fun k => endonymlaw2_WeighTurns.l0 k t x ((y.set p y[p + 1]).set (p + 1) y[p]) ((i + 1 : Nat) : Int)) (fun k => ?_) (turns_loop x hl hw t d (i + 1) _ hid hperm)
      rw [endonymlaw2_WeighTurns.l0, if_pos hlt, if_pos h60, if_pos h2, if_pos hi0, hA, hp2, hw2, hwi, rdOf_nat y (p + 1) hpb, rdOf_nat y p hpa, if_neg h0, if_pos h1, if_pos h3, if_pos h4, if_pos h5, Int.toNat_natCast, Int.toNat_natCast]
    · refine Ev.step (f := fun k => endonymlaw2_WeighTurns.j1 k x y) (fun k => ?_) (turns_end x y hp hl hw)
      rw [endonymlaw2_WeighTurns.l0, if_pos hlt, if_pos h60, if_neg h2]
theorem WeighTurns_ok (l t : List Int) (hw : ∀ x ∈ l, 0 ≤ x ∧ x ≤ 18446744073709551615) : ∃ k, endonymlaw2_WeighTurns.f k l t = some true := by
  refine Ev.rounds ?_
  unfold endonymlaw2_WeighTurns.f
  refine Ev.bind (floats_ok l 40 (by omega)) ?_
  obtain ⟨x, hx⟩ : ∃ x, (l.take 40).map Int.toNat = x := ⟨_, rfl⟩
  simp only [hx]
  have hxl : x.length ≤ 40 := by rw [← hx, List.length_map, List.length_take]; omega
  have hxw : W64 x := by
    intro z hz
    rw [← hx] at hz
    obtain ⟨y, hy, rfl⟩ := List.mem_map.1 hz
    have := hw y (List.mem_of_mem_take hy)
    omega
  refine Ev.congr (f := fun k => endonymlaw2_WeighTurns.l0 k t x x 0) (fun k => ?_) (turns_loop x (by omega) hxw t (min t.length 60) 0 x (by omega) (List.Perm.refl _))
  rw [List.nil_append, if_pos (by simp; omega)]
end Go.Proofs.YtfmjdoofopamkaaDoor.Plain
