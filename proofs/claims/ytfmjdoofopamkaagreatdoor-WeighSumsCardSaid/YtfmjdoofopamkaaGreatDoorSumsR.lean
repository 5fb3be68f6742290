import Derived.Test.YtfmjdoofopamkaaGreatDoorRefS
import Derived.Test.YtfmjdoofopamkaaGreatDoorFltZ
import Derived.Test.YtfmjdoofopamkaaGreatDoorSumsP
import Derived.Test.YtfmjdoofopamkaaGreatDoorFloatsL
import Derived.Test.YtfmjdoofopamkaaGreatDoorWeighTold
import Derived.Test.YtfmjdoofopamkaaGreatDoorWx22
import Derived.Test.YtfmjdoofopamkaaGreatDoorWx23
import Derived.Test.YtfmjdoofopamkaaGreatDoorWx13
import Derived.Test.YtfmjdoofopamkaaGreatDoorWx24
import Derived.Test.YtfmjdoofopamkaaGreatDoorWx11
namespace Go.Proofs.YtfmjdoofopamkaaGreatDoor.Plain
open Go.RowKit Go.Proofs.YtfmjdoofopamkaaGreatDoorW.PrintWords Go.Proofs.YtfmjdoofopamkaaGreatDoorW.PrintLast Go.Proofs.YtfmjdoofopamkaaGreatDoorW.PrintMore Go.Proofs.YtfmjdoofopamkaaGreatDoor.W
set_option linter.unusedVariables false
set_option linter.unusedSimpArgs false
set_option exponentiation.threshold 3000
theorem addC_lt (x y : Nat) : addC x y < 18446744073709551616 := by
 unfold addC
 cases h : floatBits .add .f64 x y with
 | none => decide
 | some t => exact FloatKind.f64.format.add_lt h
theorem pair_any (x y : Nat) : [x, y].any nanB = true ↔ (nanB x = true ∨ nanB y = true) := by simp
theorem radd_ok (x y : Nat) (hx : x < 18446744073709551616) (hy : y < 18446744073709551616) : Ev (fun k => endonymref2_Add.f k (x : Int) (y : Int)) ((addC x y : Nat) : Int) := by
 rw [addC_is x y hx hy]
 have hw : W64 [x, y] := by
  intro z hz
  simp only [List.mem_cons, List.not_mem_nil, or_false] at hz
  rcases hz with rfl | rfl
  ·exact hx
  ·exact hy
 have hui : ui [x, y] = [(x : Int), (y : Int)] := rfl
 have hodd := odd_ok [x, y] (by simp) hw
 have hsnd := oddS_snd [x, y] hw
 rw [hui] at hodd
 unfold endonymref2_Add.f
 refine Ev.congr (fun k => by rw [Option.bind_some]) (Ev.bind hodd ?_)
 simp only
 have m1 : (INF ∈ [x, y]) ↔ (x = INF ∨ y = INF) := by simp [eq_comm]
 have m2 : (NINF ∈ [x, y]) ↔ (x = NINF ∨ y = NINF) := by simp [eq_comm]
 unfold addR
 by_cases n : nanB x = true ∨ nanB y = true
 ·have e : oddS [x, y] = (NAN, true) := by unfold oddS; rw [if_pos ((pair_any x y).2 n)]
  rw [if_pos n, e]
  exact Ev.congr (f := fun _ => some ((NAN : Nat) : Int)) (fun k => by rw [if_pos rfl]) (Ev.now _)
 ·have hn : ¬ [x, y].any nanB = true := fun h => n ((pair_any x y).1 h)
  rw [if_neg n]
  by_cases a : x = INF ∨ y = INF
  ·rw [if_pos a]
   by_cases b : x = NINF ∨ y = NINF
   ·have e : oddS [x, y] = (NAN, true) := by unfold oddS; rw [if_neg hn, if_pos ⟨m1.2 a, m2.2 b⟩]
    rw [if_pos b, e]
    exact Ev.congr (f := fun _ => some ((NAN : Nat) : Int)) (fun k => by rw [if_pos rfl]) (Ev.now _)
   ·have e : oddS [x, y] = (INF, true) := by unfold oddS; rw [if_neg hn, if_neg (fun h => b (m2.1 h.2)), if_pos (m1.2 a)]
    rw [if_neg b, e]
    exact Ev.congr (f := fun _ => some ((INF : Nat) : Int)) (fun k => by rw [if_pos rfl]) (Ev.now _)
  ·rw [if_neg a]
   by_cases b : x = NINF ∨ y = NINF
   ·have e : oddS [x, y] = (NINF, true) := by unfold oddS; rw [if_neg hn, if_neg (fun h => a (m1.1 h.1)), if_neg (fun h => a (m1.1 h)), if_pos (m2.2 b)]
    rw [if_pos b, e]
    exact Ev.congr (f := fun _ => some ((NINF : Nat) : Int)) (fun k => by rw [if_pos rfl]) (Ev.now _)
   ·have e : oddS [x, y] = (0, false) := by unfold oddS; rw [if_neg hn, if_neg (fun h => a (m1.1 h.1)), if_neg (fun h => a (m1.1 h)), if_neg (fun h => b (m2.1 h))]
    rw [e] at hsnd
    have hfin := fin_of_odd hw hsnd.symm
    rw [if_neg b, e]
    refine Ev.congr (fun k => by rw [if_neg (by simp)]) ?_
    have hex : Ev (fun k => endonymref2_Add.j0 k [(x : Int), (y : Int)] false) ((shw (ups [x, y]) (downs [x, y]) 1 : Nat) : Int) := by
     refine Ev.step (f := fun k => (endonymref2_Total.f k (ui [x, y])).bind fun bt836 => ((endonymref2_rounded.f k bt836.1 bt836.2 ((1 : Nat) : Int)).bind fun t840 => (some t840))) (fun k => by rw [endonymref2_Add.j0, if_neg (by simp)]; rfl) ?_
     exact exact_sum [x, y] 1 (by simp) hfin (by omega) (by omega) (Ev.now _)
    by_cases c1 : x = P63
    ·by_cases c2 : y = P63
     ·rw [if_pos (show x = P63 ∧ y = P63 from ⟨c1, c2⟩)]
      have e1 : ((y : Int) == 9223372036854775808) = true := by rw [beq_iff_eq, c2]; rfl
      refine Ev.congr (fun k => by rw [if_pos (show (x : Int) = 9223372036854775808 by rw [c1]; rfl), e1]) ?_
      exact Ev.step (f := fun _ => some ((P63 : Nat) : Int)) (fun k => by rw [endonymref2_Add.j0, if_pos rfl]; rfl) (Ev.now _)
     ·rw [if_neg (show ¬ (x = P63 ∧ y = P63) from fun h => c2 h.2)]
      have e1 : ((y : Int) == 9223372036854775808) = false := by rw [Bool.eq_false_iff]; intro h; rw [beq_iff_eq] at h; exact c2 (by unfold P63; omega)
      exact Ev.congr (fun k => by rw [if_pos (show (x : Int) = 9223372036854775808 by rw [c1]; rfl), e1]) hex
    ·rw [if_neg (show ¬ (x = P63 ∧ y = P63) from fun h => c1 h.1)]
     exact Ev.congr (fun k => by rw [if_neg (show ¬ (x : Int) = 9223372036854775808 from fun h => c1 (by unfold P63; omega))]) hex
theorem rsum_loop (l : List Nat) (hw : W64 l) (hl : l.length ≤ 1000) : ∀ (d i s : Nat), i + d = l.length → s < 18446744073709551616 → Ev (fun k => endonymref2_Sum.l0 k (ui l) (s : Int) (i : Int)) ((sumC s (l.drop i) : Nat) : Int)
 | 0, i, s, hi, hs => by
  rw [List.drop_eq_nil_of_le (by omega)]
  exact Ev.step (f := fun _ => some (s : Int)) (fun k => by rw [endonymref2_Sum.l0, if_neg (by rw [ui_len]; omega)]) (Ev.now _)
 | d + 1, i, s, hi, hs => by
  have hlt : i < l.length := by omega
  have hx := hw _ (List.getElem_mem hlt)
  have ih := rsum_loop l hw hl d (i + 1) (addC s l[i]) (by omega) (addC_lt _ _)
  rw [drop_nat l i hlt]
  show Ev _ ((sumC (addC s l[i]) (l.drop (i + 1)) : Nat) : Int)
  refine Ev.step (f := fun k => (endonymref2_Add.f k (s : Int) ((l[i] : Nat) : Int)).bind fun t842 => (endonymref2_Sum.l0 k (ui l) t842 ((i + 1 : Nat) : Int))) (fun k => ?_) (Ev.bind (radd_ok s l[i] hs hx) ih)
  rw [endonymref2_Sum.l0, if_pos (by rw [ui_len]; omega), if_pos (by omega), ui_rd l i hlt, succ_w i (by omega)]
theorem rsum_ok (l : List Nat) (hw : W64 l) (hl : l.length ≤ 1000) : Ev (fun k => endonymref2_Sum.f k (ui l)) ((sumC 0 l : Nat) : Int) :=
 rsum_loop l hw hl l.length 0 0 (by omega) (by omega)
theorem pairC_lt : ∀ (k : Nat) (l : List Nat), W64 l → pairC k l < 18446744073709551616
 | 0, l, _ => by rw [pairC]; omega
 | k + 1, l, hw => by
  rw [pairC]
  split
  ·omega
  ·split
   ·rename_i h0 h1
    rw [show (0 : Int) = ((0 : Nat) : Int) from rfl, rdOf_nat l 0 (by omega)]
    exact hw _ (List.getElem_mem _)
   ·exact addC_lt _ _
theorem ui_take (l : List Nat) (n : Nat) : (ui l).take n = ui (l.take n) := (List.map_take ..).symm
theorem ui_drop (l : List Nat) (n : Nat) : (ui l).drop n = ui (l.drop n) := (List.map_drop ..).symm
theorem rpairs_ok : ∀ (k : Nat) (l : List Nat), W64 l → l.length ≤ k → k ≤ 1000 → Ev (fun j => endonymref2_Pairs.f j (ui l)) ((pairC k l : Nat) : Int) := by
 intro k
 induction k using Nat.strongRecOn with
 | _ k ih =>
  intro l hw hl hk
  by_cases h0 : l.length = 0
  ·rw [pairC_nil k l h0]
   exact Ev.step (f := fun _ => some 0) (fun j => by rw [endonymref2_Pairs.f, if_pos (by rw [ui_len]; omega)]) (Ev.now _)
  ·by_cases h1 : l.length = 1
   ·rw [pairC_one k l h1 hl]
    have e : rd (ui l) 0 = ((rdOf 0 l 0 : Nat) : Int) := by
     have h2 := ui_rd l 0 (by omega)
     have h3 := rdOf_nat l 0 (by omega)
     rw [show ((0 : Nat) : Int) = 0 from rfl] at h2 h3
     rw [h2, h3]
    exact Ev.step (f := fun _ => some ((rdOf 0 l 0 : Nat) : Int)) (fun j => by rw [endonymref2_Pairs.f, if_neg (by rw [ui_len]; omega), if_pos (by rw [ui_len]; omega), if_pos (by rw [ui_len]; omega), e]) (Ev.now _)
   ·obtain ⟨p1, p2, p3, p4, p5⟩ := pairC_parts k l ((l.length / 2 : Nat) : Int) rfl (by omega) hl hw
    rw [Int.toNat_natCast] at p1 p2 p3 p4 p5
    have i1 := ih (k - 1) (by omega) (l.take (l.length / 2)) p1 p2 (by omega)
    have i2 := ih (k - 1) (by omega) (l.drop (l.length / 2)) p3 p4 (by omega)
    have ia := radd_ok _ _ (pairC_lt (k - 1) _ p1) (pairC_lt (k - 1) _ p3)
    rw [p5]
    have hwr : wrap64 ((((ui l).length : Nat) : Int) / 2) = ((l.length / 2 : Nat) : Int) := by rw [ui_len, w64 (by omega) (by omega)]; omega
    refine Ev.step (f := fun j => (endonymref2_Pairs.f j (ui (l.take (l.length / 2)))).bind fun t845 => ((endonymref2_Pairs.f j (ui (l.drop (l.length / 2)))).bind fun t847 => ((endonymref2_Add.f j t845 t847).bind fun t848 => (some t848)))) (fun j => ?_) (Ev.bind i1 (Ev.bind i2 (Ev.bind ia (Ev.now _))))
    rw [endonymref2_Pairs.f, if_neg (by rw [ui_len]; omega), if_neg (by rw [ui_len]; omega), hwr, if_pos (by omega), if_pos (by rw [ui_len]; omega), Int.toNat_natCast, ui_take, ui_drop]
theorem rexact_ok (l : List Nat) (hl : l.length ≤ 1000) (hw : W64 l) : Ev (fun k => endonymref2_Exact.f k (ui l)) ((exactS l : Nat) : Int) := by
 unfold endonymref2_Exact.f
 refine Ev.bind (odd_ok l hl hw) ?_
 simp only
 have hsnd := oddS_snd l hw
 unfold exactS
 by_cases h1 : l.any nanB = true
 ·have e : oddS l = (NAN, true) := by unfold oddS; rw [if_pos h1]
  rw [e, if_pos h1]
  exact Ev.congr (f := fun _ => some ((NAN : Nat) : Int)) (fun k => by rw [if_pos rfl]) (Ev.now _)
 ·rw [if_neg h1]
  by_cases h2 : INF ∈ l ∧ NINF ∈ l
  ·have e : oddS l = (NAN, true) := by unfold oddS; rw [if_neg h1, if_pos h2]
   rw [e, if_pos h2]
   exact Ev.congr (f := fun _ => some ((NAN : Nat) : Int)) (fun k => by rw [if_pos rfl]) (Ev.now _)
  ·rw [if_neg h2]
   by_cases h3 : INF ∈ l
   ·have e : oddS l = (INF, true) := by unfold oddS; rw [if_neg h1, if_neg h2, if_pos h3]
    rw [e, if_pos h3]
    exact Ev.congr (f := fun _ => some ((INF : Nat) : Int)) (fun k => by rw [if_pos rfl]) (Ev.now _)
   ·rw [if_neg h3]
    by_cases h4 : NINF ∈ l
    ·have e : oddS l = (NINF, true) := by unfold oddS; rw [if_neg h1, if_neg h2, if_neg h3, if_pos h4]
     rw [e, if_pos h4]
     exact Ev.congr (f := fun _ => some ((NINF : Nat) : Int)) (fun k => by rw [if_pos rfl]) (Ev.now _)
    ·have e : oddS l = (0, false) := by unfold oddS; rw [if_neg h1, if_neg h2, if_neg h3, if_neg h4]
     rw [e] at hsnd
     rw [e, if_neg h4]
     refine Ev.congr (fun k => by rw [if_neg (by simp)]) ?_
     exact exact_sum l 1 hl (fin_of_odd hw hsnd.symm) (by omega) (by omega) (Ev.now _)
theorem same_ok {a S : Nat} (h : Agree a S) (hS : S < 18446744073709551616) : endonymlaw2_same.f a (S : Int) = some true := by
 have e : Go.bits .andNot .u64 (S : Int) 9223372036854775808 = ((S % P63 : Nat) : Int) := andNot_sign' S hS
 unfold endonymlaw2_same.f
 rw [e]
 by_cases hn : nanB S = true
 ·have h1 : INF < S % P63 := of_decide_eq_true hn
  have h2 := h.2
  rw [if_pos hn] at h2
  rw [if_pos (by unfold INF at h1; omega), nan_ne a, h2]
 ·have h1 : ¬ INF < S % P63 := fun hc => hn (decide_eq_true hc)
  have h2 := h.2
  rw [if_neg hn] at h2
  rw [if_neg (by unfold INF at h1; omega), h2]
  unfold api_Bits.f
  simp
theorem sums_loop (x : List Nat) (hw : W64 x) (hl : x.length ≤ 1000) : ∀ (d i : Nat), i + d = x.length → ∃ K, ∀ k, K ≤ k → ∀ ra rb, Agree ra (sumC 0 x) → Agree rb (pairC 1000 x) → endonymlaw2_WeighSums.l0 k x (ui x) ra rb (exactS x) (i : Int) = some true
 | 0, i, hi => by
  have s1 := rsum_ok x hw hl
  have s2 := rpairs_ok 1000 x hw hl (by omega)
  have s3 := rexact_ok x hl hw
  have hsl : sumC 0 x < 18446744073709551616 := by
   have : ∀ (l : List Nat) (s : Nat), s < 18446744073709551616 → sumC s l < 18446744073709551616 := by
    intro l
    induction l with
    | nil => intro s hs; exact hs
    | cons y t ih => intro s hs; exact ih _ (addC_lt _ _)
   exact this x 0 (by omega)
  have hel : exactS x < 18446744073709551616 := by
   unfold exactS
   have hsh : ∀ a b, shw a b 1 < 18446744073709551616 := by
    intro a b
    have hq : ∀ p, wordQ p 1 ≤ INF := fun p => wordQ_le p 1
    have h1 := hq (a - b)
    have h2 := hq (b - a)
    unfold shw
    unfold INF at h1 h2
    split
    ·omega
    ·split
     ·unfold P63; omega
     ·omega
   have := hsh (ups x) (downs x)
   split
   ·decide
   ·split
    ·decide
    ·split
     ·decide
     ·split
      ·decide
      ·exact this
  obtain ⟨K0, k0⟩ := told_ok
  obtain ⟨K1, k1⟩ := s1
  obtain ⟨K2, k2⟩ := s2
  obtain ⟨K3, k3⟩ := s3
  refine ⟨K0 + K1 + K2 + K3 + 1, fun k hk ra rb ha hb => ?_⟩
  obtain ⟨j, rfl⟩ : ∃ j, k = j + 1 := ⟨k - 1, by omega⟩
  have f0 : endonymlaw2_told.f j = some true := k0 j (by omega)
  have f1 : endonymref2_Sum.f j (ui x) = _ := k1 j (by omega)
  have f2 : endonymref2_Pairs.f j (ui x) = _ := k2 j (by omega)
  have f3 : endonymref2_Exact.f j (ui x) = _ := k3 j (by omega)
  rw [endonymlaw2_WeighSums.l0, if_neg (by omega), f0, Option.bind_some, if_pos rfl, f1, Option.bind_some, same_ok ha hsl, Option.bind_some, if_pos rfl, f2, Option.bind_some, same_ok hb (pairC_lt 1000 x hw), Option.bind_some, if_pos rfl, f3, Option.bind_some, same_ok (agree_self hel) hel, Option.bind_some]
 | d + 1, i, hi => by
  obtain ⟨K, ih⟩ := sums_loop x hw hl d (i + 1) (by omega)
  refine ⟨K + 1, fun k hk ra rb ha hb => ?_⟩
  obtain ⟨j, rfl⟩ : ∃ j, k = j + 1 := ⟨k - 1, by omega⟩
  have hlt : i < x.length := by omega
  have hih := ih j (by omega) ra rb ha hb
  rw [endonymlaw2_WeighSums.l0, if_pos (by omega), if_pos (by omega), succ_w i (by omega), hih]
  have e : (rdOf 0 x (i : Int)) = x[i] := rdOf_nat x i hlt
  rw [e, ui_rd x i hlt]
  split
  ·unfold api_Bits.f
   rw [Option.bind_some, if_pos (by rw [ui_len]; omega), if_pos rfl]
  ·rfl
def SumsOk (k : Nat) (l0 : List Int) : Prop := ∃ (x : List Nat) (u : List Int) (e : Nat), endonymlaw2_floats.f k l0 60 = some (x, u) ∧ weigh_Exact.f k x = some e ∧ W64 x ∧ x.length ≤ 1000 ∧
 ∀ ra rb, Agree ra (sumC 0 x) → Agree rb (pairC 1000 x) → endonymlaw2_WeighSums.l0 k x u ra rb e 0 = some true
theorem sums_are (l : List Int) (hw : ∀ x ∈ l, 0 ≤ x ∧ x ≤ 18446744073709551615) : ∃ k, SumsOk k l := by
 obtain ⟨h1, h2⟩ := ui_of (l.take 60) (fun x hx => hw x (List.mem_of_mem_take hx))
 obtain ⟨x, hx⟩ : ∃ x, (l.take 60).map Int.toNat = x := ⟨_, rfl⟩
 have hxl : x.length ≤ 1000 := by rw [← hx, List.length_map, List.length_take]; omega
 rw [hx] at h1 h2
 obtain ⟨K1, k1⟩ := floats_ok l 60 (by omega)
 obtain ⟨K2, k2⟩ := exact_ok x hxl h2
 obtain ⟨K3, k3⟩ := sums_loop x h2 hxl x.length 0 (by omega)
 refine ⟨K1 + K2 + K3, x, ui x, exactS x, ?_, k2 _ (by omega), h2, hxl, fun ra rb ha hb => k3 _ (by omega) ra rb ha hb⟩
 have h3 := k1 (K1 + K2 + K3) (by omega)
 rw [hx, ← h1] at h3
 exact h3
end Go.Proofs.YtfmjdoofopamkaaGreatDoor.Plain
