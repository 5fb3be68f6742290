import Derived.Test.YtnoppeocbfapdaaGreatDoorTabL
import Derived.Test.YtnoppeocbfapdaaGreatDoorTx17
import Derived.Test.YtnoppeocbfapdaaGreatDoorTx18
import Derived.Test.YtnoppeocbfapdaaGreatDoorTx14
namespace Go.Proofs.YtnoppeocbfapdaaGreatDoor.Plain
open Go.RowKit Go.Proofs.YtnoppeocbfapdaaGreatDoorW.PrintWords Go.Proofs.YtnoppeocbfapdaaGreatDoorW.PrintLast Go.Proofs.YtnoppeocbfapdaaGreatDoorW.PrintMore Go.Proofs.YtnoppeocbfapdaaGreatDoor.T
set_option linter.unusedVariables false
set_option linter.unusedSimpArgs false
theorem drop_eq (p q : List Int) (hl : p.length = q.length) (j : Nat) (hj : j < p.length) : (p.drop j = q.drop j) ↔ (rd p (j : Int) = rd q (j : Int) ∧ p.drop (j + 1) = q.drop (j + 1)) := by
 rw [drop_rd p j hj, drop_rd q j (by omega), List.cons.injEq]
theorem same3_is (p q : List Int) (hb : p.length ≤ 1000000000000) (hl : p.length = q.length) : ∀ (d j : Nat), p.length = j + d → ∃ K, ∀ k, K ≤ k → endonymref3_Same.l0 k p q (j : Int) = some (decide (p.drop j = q.drop j)) := by
 intro d
 induction d with
 | zero =>
  intro j h
  refine ⟨1, fun k hk => ?_⟩
  obtain ⟨k, rfl⟩ : ∃ m, k = m + 1 := ⟨k - 1, by omega⟩
  rw [endonymref3_Same.l0, if_neg (by omega), List.drop_eq_nil_of_le (by omega), List.drop_eq_nil_of_le (by omega)]
  rfl
 | succ d ih =>
  intro j h
  obtain ⟨K, ih⟩ := ih (j + 1) (by omega)
  refine ⟨K + 1, fun k hk => ?_⟩
  obtain ⟨k, rfl⟩ : ∃ m, k = m + 1 := ⟨k - 1, by omega⟩
  have e : wrap64 ((j : Int) + 1) = ((j + 1 : Nat) : Int) := by unfold wrap64; omega
  have hd := drop_eq p q hl j (by omega)
  rw [endonymref3_Same.l0, if_pos (by omega), if_pos (by omega), if_pos (by omega), e]
  by_cases hr : rd p (j : Int) = rd q (j : Int)
  ·rw [if_pos hr, ih k (by omega)]
   congr 1
   rw [decide_eq_decide, hd]
   exact ⟨fun h => ⟨hr, h⟩, fun h => h.2⟩
  ·rw [if_neg hr, decide_eq_false (fun h => hr (hd.1 h).1)]
theorem same3_f (p q : List Int) (hb : p.length ≤ 1000000000000) : ∃ K, ∀ k, K ≤ k → endonymref3_Same.f k p q = some (decide (p = q)) := by
 by_cases hl : p.length = q.length
 ·obtain ⟨K, h⟩ := same3_is p q hb hl p.length 0 (by omega)
  refine ⟨K, fun k hk => ?_⟩
  unfold endonymref3_Same.f
  rw [if_pos (by omega)]
  exact h k hk
 ·refine ⟨0, fun k hk => ?_⟩
  unfold endonymref3_Same.f
  rw [if_neg (by omega), decide_eq_false (fun h => hl (by rw [h]))]
def eqv (x y : S25) : Prop := x.f0 = y.f0 ∧ x.f1 = y.f1 ∧ x.f2 = y.f2 ∧ x.f3 = y.f3 ∧ x.f4 = y.f4 ∧ x.f5.toList = y.f5.toList ∧ x.f6.toList = y.f6.toList ∧ x.f7 = y.f7
instance (x y : S25) : Decidable (eqv x y) := by unfold eqv; infer_instance
theorem rec_is (x y : S25) (hb : x.f4.length ≤ 1000000000000) : ∃ K, ∀ k, K ≤ k → endonymref6_SameRecord.f k x.f0 x.f1 x.f2 x.f3 x.f4 x.f5 x.f6 x.f7 y.f0 y.f1 y.f2 y.f3 y.f4 y.f5 y.f6 y.f7 = some (decide (eqv x y)) := by
 obtain ⟨K, h⟩ := same3_f x.f4 y.f4 hb
 refine ⟨K, fun k hk => ?_⟩
 unfold endonymref6_SameRecord.f
 rw [h k hk]
 by_cases h0 : x.f0 = y.f0
 case neg => rw [if_neg h0, decide_eq_false (fun h => h0 h.1)]
 by_cases h1 : x.f1 = y.f1
 case neg => rw [if_pos h0, if_neg h1, decide_eq_false (fun h => h1 h.2.1)]
 by_cases h2 : x.f2 = y.f2
 case neg => rw [if_pos h0, if_pos h1, if_neg h2, decide_eq_false (fun h => h2 h.2.2.1)]
 by_cases h3 : x.f3 = y.f3
 case neg => rw [if_pos h0, if_pos h1, if_pos h2, if_neg h3, decide_eq_false (fun h => h3 h.2.2.2.1)]
 by_cases h4 : x.f4 = y.f4
 case neg => rw [if_pos h0, if_pos h1, if_pos h2, if_pos h3, Option.bind_some, decide_eq_false h4, if_neg (by decide), decide_eq_false (fun h => h4 h.2.2.2.2.1)]
 by_cases h5 : x.f5.toList = y.f5.toList
 case neg => rw [if_pos h0, if_pos h1, if_pos h2, if_pos h3, Option.bind_some, decide_eq_true h4, if_pos rfl, if_neg h5, decide_eq_false (fun h => h5 h.2.2.2.2.2.1)]
 by_cases h6 : x.f6.toList = y.f6.toList
 case neg => rw [if_pos h0, if_pos h1, if_pos h2, if_pos h3, Option.bind_some, decide_eq_true h4, if_pos rfl, if_pos h5, if_neg h6, decide_eq_false (fun h => h6 h.2.2.2.2.2.2.1)]
 rw [if_pos h0, if_pos h1, if_pos h2, if_pos h3, Option.bind_some, decide_eq_true h4, if_pos rfl, if_pos h5, if_pos h6]
 unfold api_Bits.f
 rw [Option.bind_some, Option.bind_some]
 congr 1
 by_cases h7 : x.f7 = y.f7
 ·rw [decide_eq_true (show eqv x y from ⟨h0, h1, h2, h3, h4, h5, h6, h7⟩), h7]; simp
 ·rw [decide_eq_false (fun h => h7 h.2.2.2.2.2.2.2)]; simp; omega
theorem to_loop (l m : List S25) (i : Nat) (b : Bool) (x y : S25) (hl : x.f4.length = y.f4.length) (hx : x.f4.length ≤ 1000000000000) (hi : i ≤ 1000000) (K : Nat) (hK : ∀ k, K ≤ k → table_Same.l0 k l m (l.length : Int) ((i + 1 : Nat) : Int) = some b) :
  ∀ (d j : Nat), x.f4.length = j + d → ∃ K', ∀ k, K' ≤ k → table_Same.l1 k l m (l.length : Int) (i : Int) (x.f4.length : Int) (j : Int) x.f0 x.f1 x.f2 x.f3 x.f4 x.f5 x.f6 x.f7 y.f0 y.f1 y.f2 y.f3 y.f4 y.f5 y.f6 y.f7 = some (decide (x.f4.drop j = y.f4.drop j) && b) := by
 intro d
 induction d with
 | zero =>
  intro j h
  refine ⟨K + 1, fun k hk => ?_⟩
  obtain ⟨k, rfl⟩ : ∃ m, k = m + 1 := ⟨k - 1, by omega⟩
  have e : wrap64 ((i : Int) + 1) = ((i + 1 : Nat) : Int) := by unfold wrap64; omega
  rw [table_Same.l1, if_neg (by omega), e, hK k (by omega), List.drop_eq_nil_of_le (by omega), List.drop_eq_nil_of_le (by omega)]
  simp
 | succ d ih =>
  intro j h
  obtain ⟨K', ih⟩ := ih (j + 1) (by omega)
  refine ⟨K' + 1, fun k hk => ?_⟩
  obtain ⟨k, rfl⟩ : ∃ m, k = m + 1 := ⟨k - 1, by omega⟩
  have e : wrap64 ((j : Int) + 1) = ((j + 1 : Nat) : Int) := by unfold wrap64; omega
  have hd := drop_eq x.f4 y.f4 hl j (by omega)
  rw [table_Same.l1, if_pos (by omega), if_pos (by omega), if_pos (by omega), if_pos (by omega), e]
  by_cases hr : rd x.f4 (j : Int) = rd y.f4 (j : Int)
  ·rw [if_pos hr, ih k (by omega)]
   congr 2
   rw [decide_eq_decide, hd]
   exact ⟨fun h => ⟨hr, h⟩, fun h => h.2⟩
  ·rw [if_neg hr, decide_eq_false (fun h => hr (hd.1 h).1)]
   rfl
section
variable (l m : List S25) (hlen : l.length = m.length) (hb : l.length ≤ 1000000) (hs : ∀ x ∈ l, x.f4.length ≤ 1000000000000)
include hlen hb hs
theorem pair_loop : ∀ (d i : Nat), l.length = i + d → ∃ b K, ∀ k, K ≤ k → table_Same.l0 k l m (l.length : Int) (i : Int) = some b ∧ endonymref6_Same.l0 k l m (i : Int) = some b := by
 intro d
 induction d with
 | zero =>
  intro i h
  refine ⟨true, 1, fun k hk => ?_⟩
  obtain ⟨k, rfl⟩ : ∃ m, k = m + 1 := ⟨k - 1, by omega⟩
  exact ⟨by rw [table_Same.l0, if_neg (by omega)], by rw [endonymref6_Same.l0, if_neg (by omega)]⟩
 | succ d ih =>
  intro i h
  obtain ⟨b, K, ih⟩ := ih (i + 1) (by omega)
  have hil : i < l.length := by omega
  have him : i < m.length := by omega
  have hx := hs l[i] (List.getElem_mem hil)
  obtain ⟨K1, hr⟩ := rec_is l[i] m[i] hx
  have e : wrap64 ((i : Int) + 1) = ((i + 1 : Nat) : Int) := by unfold wrap64; omega
  have href : ∀ k, K + K1 ≤ k → endonymref6_Same.l0 (k + 1) l m (i : Int) = some (decide (eqv l[i] m[i]) && b) := by
   intro k hk
   rw [endonymref6_Same.l0, if_pos (by omega), if_pos (by omega), if_pos (by omega), rd_rec l i hil, rd_rec m i him, hr k (by omega), Option.bind_some, e]
   by_cases hq : eqv l[i] m[i]
   ·rw [decide_eq_true hq, if_pos rfl, (ih k (by omega)).2]; rfl
   ·rw [decide_eq_false hq, if_neg (by decide)]; rfl
  have hprog : ∃ K2, ∀ k, K2 ≤ k → table_Same.l0 (k + 1) l m (l.length : Int) (i : Int) = some (decide (eqv l[i] m[i]) && b) := by
   have jf : ∀ k, table_Same.j1 (k + 1) l m (l.length : Int) (i : Int) true l[i].f0 l[i].f1 l[i].f2 l[i].f3 l[i].f4 l[i].f5 l[i].f6 l[i].f7 m[i].f0 m[i].f1 m[i].f2 m[i].f3 m[i].f4 m[i].f5 m[i].f6 m[i].f7 = some false := fun k => by rw [table_Same.j1, if_pos rfl]
   have fin : ∀ (hq : ¬ eqv l[i] m[i]), some (decide (eqv l[i] m[i]) && b) = some false := fun hq => by rw [decide_eq_false hq]; rfl
   have start : ∀ k, table_Same.l0 (k + 1) l m (l.length : Int) (i : Int) = _ := fun k => by rw [table_Same.l0, if_pos (by omega), if_pos (by omega), if_pos (by omega), if_pos (by omega), rd_rec l i hil, rd_rec m i him]
   by_cases h0 : l[i].f0 = m[i].f0
   case neg => exact ⟨1, fun k hk => by obtain ⟨k, rfl⟩ : ∃ m, k = m + 1 := ⟨k - 1, by omega⟩; rw [start, if_neg h0, jf, fin (fun h => h0 h.1)]⟩
   by_cases h1 : l[i].f1 = m[i].f1
   case neg => exact ⟨1, fun k hk => by obtain ⟨k, rfl⟩ : ∃ m, k = m + 1 := ⟨k - 1, by omega⟩; rw [start, if_pos h0, if_neg h1, jf, fin (fun h => h1 h.2.1)]⟩
   by_cases h2 : l[i].f2 = m[i].f2
   case neg => exact ⟨1, fun k hk => by obtain ⟨k, rfl⟩ : ∃ m, k = m + 1 := ⟨k - 1, by omega⟩; rw [start, if_pos h0, if_pos h1, if_neg h2, jf, fin (fun h => h2 h.2.2.1)]⟩
   by_cases h3 : l[i].f3 = m[i].f3
   case neg => exact ⟨1, fun k hk => by obtain ⟨k, rfl⟩ : ∃ m, k = m + 1 := ⟨k - 1, by omega⟩; rw [start, if_pos h0, if_pos h1, if_pos h2, if_neg h3, jf, fin (fun h => h3 h.2.2.2.1)]⟩
   by_cases h5 : l[i].f5.toList = m[i].f5.toList
   case neg => exact ⟨1, fun k hk => by obtain ⟨k, rfl⟩ : ∃ m, k = m + 1 := ⟨k - 1, by omega⟩; rw [start, if_pos h0, if_pos h1, if_pos h2, if_pos h3, if_neg h5, jf, fin (fun h => h5 h.2.2.2.2.2.1)]⟩
   by_cases h6 : l[i].f6.toList = m[i].f6.toList
   case neg => exact ⟨1, fun k hk => by obtain ⟨k, rfl⟩ : ∃ m, k = m + 1 := ⟨k - 1, by omega⟩; rw [start, if_pos h0, if_pos h1, if_pos h2, if_pos h3, if_pos h5, if_neg h6, jf, fin (fun h => h6 h.2.2.2.2.2.2.1)]⟩
   by_cases h7 : l[i].f7 = m[i].f7
   case neg =>
    have h7' : ¬ ((l[i].f7 : Nat) : Int) = ((m[i].f7 : Nat) : Int) := by omega
    refine ⟨1, fun k hk => ?_⟩
    obtain ⟨k, rfl⟩ : ∃ m, k = m + 1 := ⟨k - 1, by omega⟩
    rw [start, if_pos h0, if_pos h1, if_pos h2, if_pos h3, if_pos h5, if_pos h6]
    unfold api_Bits.f
    rw [Option.bind_some, Option.bind_some, if_neg h7', jf, fin (fun h => h7 h.2.2.2.2.2.2.2)]
   have go : ∀ k, table_Same.l0 (k + 1) l m (l.length : Int) (i : Int) = table_Same.j1 k l m (l.length : Int) (i : Int) ((l[i].f4.length : Int) != (m[i].f4.length : Int)) l[i].f0 l[i].f1 l[i].f2 l[i].f3 l[i].f4 l[i].f5 l[i].f6 l[i].f7 m[i].f0 m[i].f1 m[i].f2 m[i].f3 m[i].f4 m[i].f5 m[i].f6 m[i].f7 := by
    intro k
    rw [start, if_pos h0, if_pos h1, if_pos h2, if_pos h3, if_pos h5, if_pos h6]
    unfold api_Bits.f
    rw [Option.bind_some, Option.bind_some, if_pos (by rw [h7])]
   by_cases h4l : l[i].f4.length = m[i].f4.length
   case neg =>
    refine ⟨1, fun k hk => ?_⟩
    obtain ⟨k, rfl⟩ : ∃ m, k = m + 1 := ⟨k - 1, by omega⟩
    rw [go, show ((l[i].f4.length : Int) != (m[i].f4.length : Int)) = true from bne_iff_ne.mpr (by omega), jf, fin (fun h => h4l (by rw [h.2.2.2.2.1]))]
   obtain ⟨K', ht⟩ := to_loop l m i b l[i] m[i] h4l hx (by omega) K (fun k hk => (ih k hk).1) l[i].f4.length 0 (by omega)
   refine ⟨K' + 1, fun k hk => ?_⟩
   obtain ⟨k, rfl⟩ : ∃ m, k = m + 1 := ⟨k - 1, by omega⟩
   rw [go, show ((l[i].f4.length : Int) != (m[i].f4.length : Int)) = false from bne_eq_false_iff_eq.mpr (by omega), table_Same.j1, if_neg (by decide)]
   have := ht k (by omega)
   rw [show ((0 : Nat) : Int) = 0 from rfl, List.drop_zero, List.drop_zero] at this
   rw [this]
   congr 2
   rw [decide_eq_decide]
   exact ⟨fun h4 => ⟨h0, h1, h2, h3, h4, h5, h6, h7⟩, fun h => h.2.2.2.2.1⟩
  obtain ⟨K2, hprog⟩ := hprog
  refine ⟨decide (eqv l[i] m[i]) && b, K + K1 + K2 + 1, fun k hk => ?_⟩
  obtain ⟨k, rfl⟩ : ∃ m, k = m + 1 := ⟨k - 1, by omega⟩
  exact ⟨hprog k (by omega), href k (by omega)⟩
end
theorem pair_is (l m : List S25) (hb : l.length ≤ 1000000) (hs : ∀ x ∈ l, x.f4.length ≤ 1000000000000) : ∃ b K, ∀ k, K ≤ k → table_Same.f k l m = some b ∧ endonymref6_Same.f k l m = some b := by
 by_cases hlen : l.length = m.length
 ·obtain ⟨b, K, h⟩ := pair_loop l m hlen hb hs l.length 0 (by omega)
  refine ⟨b, K, fun k hk => ?_⟩
  unfold table_Same.f endonymref6_Same.f
  rw [if_pos (by omega), if_pos (by omega)]
  exact h k hk
 ·refine ⟨false, 0, fun k hk => ?_⟩
  unfold table_Same.f endonymref6_Same.f
  rw [if_neg (by omega), if_neg (by omega)]
  exact ⟨rfl, rfl⟩
theorem self_is (l : List S25) (M : Nat) (hM : ∀ x ∈ l, x.f4.length ≤ M) (hM2 : M ≤ 1000000000000) (hb : l.length ≤ 1000000) : ∃ K, ∀ k, K ≤ k → table_Same.f k l l = some true := by
 obtain ⟨b, K, h⟩ := pair_is l l hb (fun x hx => Nat.le_trans (hM x hx) hM2)
 have h2 : endonymref6_Same.f (K + (l.length + M + 2)) l l = some true := by
  unfold endonymref6_Same.f
  rw [if_pos rfl]
  exact same6_loop l M hM hM2 hb l.length 0 _ (by omega) (by omega)
 have h3 := (h (K + (l.length + M + 2)) (by omega)).2
 rw [h2] at h3
 obtain rfl := Option.some.inj h3
 exact ⟨K, fun k hk => (h k hk).1⟩
theorem law_same (l m : List S25) (M : Nat) (hl : ∀ x ∈ l, x.f4.length ≤ M) (hm : ∀ x ∈ m, x.f4.length ≤ M) (hM : M < 1000000000000) : ∃ k, endonymlaw6_TableSame.f k l m = some true := by
 have tl : (l.take 60).length ≤ 60 := by rw [List.length_take]; omega
 have tm : (m.take 60).length ≤ 60 := by rw [List.length_take]; omega
 have sl : ∀ x ∈ l.take 60, x.f4.length ≤ M := fun x hx => hl x (List.mem_of_mem_take hx)
 have sm : ∀ x ∈ m.take 60, x.f4.length ≤ M := fun x hx => hm x (List.mem_of_mem_take hx)
 obtain ⟨b, K0, h0⟩ := pair_is (l.take 60) (m.take 60) (by omega) (fun x hx => Nat.le_trans (sl x hx) (by omega))
 obtain ⟨K1, h1⟩ := self_is (l.take 60) M sl (by omega) (by omega)
 obtain ⟨K2, h2⟩ := self_is (m.take 60) M sm (by omega) (by omega)
 refine ⟨K0 + K1 + K2 + 100, ?_⟩
 obtain ⟨k, hk⟩ : ∃ k, k = K0 + K1 + K2 + 100 := ⟨_, rfl⟩
 rw [← hk]
 have f1 := few_ok l 60 k (by omega) (fun x hx => Nat.lt_of_le_of_lt (hl x hx) hM) (by omega)
 have f2 := few_ok m 60 k (by omega) (fun x hx => Nat.lt_of_le_of_lt (hm x hx) hM) (by omega)
 rw [show ((60 : Nat) : Int) = 60 from rfl] at f1 f2
 have el : l.take (l.take 60).length = l.take 60 := by rw [List.length_take]; exact take_min 60 l
 have em : m.take (m.take 60).length = m.take 60 := by rw [List.length_take]; exact take_min 60 m
 have ll : (l.take 60).length ≤ l.length := by rw [List.length_take]; omega
 have lm : (m.take 60).length ≤ m.length := by rw [List.length_take]; omega
 unfold endonymlaw6_TableSame.f endonymlaw6_told.f
 rw [f1, Option.bind_some, f2, Option.bind_some, Option.bind_some, if_pos rfl, (h0 k (by omega)).1, Option.bind_some, (h0 k (by omega)).2, Option.bind_some, if_pos (by simp), if_pos (by omega), if_pos (by omega), Int.toNat_natCast, el, h1 k (by omega), Option.bind_some, if_pos rfl, if_pos (by omega), if_pos (by omega), Int.toNat_natCast, em, h2 k (by omega)]
 rfl
end Go.Proofs.YtnoppeocbfapdaaGreatDoor.Plain
