import Derived.Test.YtplnakmpogepmabDoorBaseP
import Derived.Lib.ItoaNum
import Derived.Test.YtplnakmpogepmabDoorAx1
import Derived.Test.YtplnakmpogepmabDoorAx4
import Derived.Test.YtplnakmpogepmabDoorAx5
/-! ScanPrints. -/
namespace Go.Proofs.YtplnakmpogepmabDoor.Plain
open Go.RowKit Go.Proofs.YtplnakmpogepmabDoorW.PrintWords Go.Proofs.YtplnakmpogepmabDoorW.PrintLast Go.Proofs.YtplnakmpogepmabDoorW.PrintMore Go.Proofs.YtplnakmpogepmabDoor.A
set_option linter.unusedVariables false
set_option linter.unusedSimpArgs false

def DIG : ByteArray := ⟨#[48, 49, 50, 51, 52, 53, 54, 55, 56, 57, 65, 66, 67, 68, 69, 70]⟩
/-- The last digit to the base 16. -/
def dig (n : Int) : ByteArray := DIG.extract (n % 16).toNat ((n % 16).toNat + 1)
theorem dig_size (n : Int) : (dig n).size = 1 := by
  unfold dig
  rw [ByteArray.size_extract, show DIG.size = 16 from rfl]
  omega
theorem sp_app (x y : ByteArray) : (x ++ y).size = x.size + y.size := by rw [sz, sz x, sz y, bytesOf_append, List.length_append]
theorem nil_iff (s : ByteArray) : s.toList = ([] : List UInt8) ↔ s.size = 0 := by
  rw [ByteArray.toList_eq]
  constructor
  · intro h
    have := congrArg List.length h
    rw [Array.length_toList] at this
    exact this
  · intro h
    exact List.eq_nil_of_length_eq_zero (by rw [Array.length_toList]; exact h)
theorem hex_facts (n : Int) (h0 : 0 ≤ n) (h1 : n ≤ 1114111) :
    Int.tmod n 16 = n % 16 ∧ wrap64 (n % 16 + 1) = n % 16 + 1 ∧ wrap32 (n % 16 + 1) = n % 16 + 1 ∧ wrap64 (Int.tdiv n 16) = n / 16 ∧ wrap32 (Int.tdiv n 16) = n / 16 ∧ (n % 16 + 1).toNat = (n % 16).toNat + 1 := by
  refine ⟨Int.tmod_eq_emod_of_nonneg h0, w64 (by omega) (by omega), w32 (by omega) (by omega), ?_, ?_, by omega⟩
  · rw [Int.tdiv_eq_ediv_of_nonneg h0, w64 (by omega) (by omega)]
  · rw [Int.tdiv_eq_ediv_of_nonneg h0, w32 (by omega) (by omega)]
/-- One round, at both. -/
theorem hex_step (n : Int) (h0 : 0 ≤ n) (h1 : n ≤ 1114111) (s : ByteArray) (hs : s.size ≤ 100) (hc : n > 0 ∨ s.size = 0) (k : Nat) :
    scan_PrintCode.l0 (k + 1) s n = scan_PrintCode.l0 k (dig n ++ s) (n / 16) ∧ endonymref5_PrintCode.l0 (k + 1) n s = endonymref5_PrintCode.l0 k (n / 16) (dig n ++ s) := by
  obtain ⟨f1, f2, f3, f4, f5, f6⟩ := hex_facts n h0 h1
  have g0 : (0 : Int) ≤ n % 16 := by omega
  have g1 : n % 16 ≤ n % 16 + 1 := by omega
  have g2 : n % 16 + 1 ≤ 16 := by omega
  have e : (⟨#[48, 49, 50, 51, 52, 53, 54, 55, 56, 57, 65, 66, 67, 68, 69, 70]⟩ : ByteArray).extract (n % 16).toNat ((n % 16).toNat + 1) = dig n := rfl
  have g3 : (dig n).size + s.size ≤ 9223372036854775807 := by rw [dig_size]; omega
  rw [scan_PrintCode.l0, endonymref5_PrintCode.l0]
  simp only [f1, f2, f3, f4, f5, f6, e]
  by_cases hn : n > 0
  · simp only [if_pos hn, if_pos g0, if_pos g1, if_pos g2, if_pos g3]
    exact ⟨trivial, trivial⟩
  · have hz : s.toList = ([] : List UInt8) := (nil_iff s).2 (by omega)
    simp only [if_neg hn, if_pos hz, if_pos g0, if_pos g1, if_pos g2, if_pos g3]
    exact ⟨trivial, trivial⟩
theorem hex_stop (s : ByteArray) (hs : s.size ≠ 0) (k : Nat) : scan_PrintCode.l0 (k + 1) s 0 = some s ∧ endonymref5_PrintCode.l0 (k + 1) 0 s = some s := by
  have hz : ¬ s.toList = ([] : List UInt8) := fun h => hs ((nil_iff s).1 h)
  have hn : ¬ (0 : Int) > 0 := by decide
  rw [scan_PrintCode.l0, endonymref5_PrintCode.l0]
  simp only [if_neg hn, if_neg hz]
  exact ⟨trivial, trivial⟩
theorem hex_zero (s : ByteArray) (hs : s.size ≤ 50) : ∃ r : ByteArray, r.size ≤ 51 ∧ ∀ k, 2 ≤ k → scan_PrintCode.l0 k s 0 = some r ∧ endonymref5_PrintCode.l0 k 0 s = some r := by
  by_cases hz : s.size = 0
  · refine ⟨dig 0 ++ s, by rw [sp_app, dig_size]; omega, fun k hk => ?_⟩
    obtain ⟨k, rfl⟩ : ∃ m, k = m + 2 := ⟨k - 2, by omega⟩
    obtain ⟨s1, s2⟩ := hex_step 0 (by decide) (by decide) s (by omega) (.inr hz) (k + 1)
    obtain ⟨t1, t2⟩ := hex_stop (dig 0 ++ s) (by rw [sp_app, dig_size]; omega) k
    exact ⟨s1.trans t1, s2.trans t2⟩
  · refine ⟨s, by omega, fun k hk => ?_⟩
    obtain ⟨k, rfl⟩ : ∃ m, k = m + 1 := ⟨k - 1, by omega⟩
    exact hex_stop s hz k
theorem hex_loop : ∀ (m : Nat) (n : Int) (s : ByteArray), 0 ≤ n → n ≤ 1114111 → n < 16 ^ m → s.size + m ≤ 50 → ∃ r : ByteArray, r.size ≤ 51 ∧ ∀ k, m + 2 ≤ k → scan_PrintCode.l0 k s n = some r ∧ endonymref5_PrintCode.l0 k n s = some r := by
  intro m
  induction m with
  | zero =>
    intro n s h0 h1 hm hs
    obtain rfl : n = 0 := by simp at hm; omega
    obtain ⟨r, hr1, hr⟩ := hex_zero s (by omega)
    exact ⟨r, hr1, fun k hk => hr k (by omega)⟩
  | succ m ih =>
    intro n s h0 h1 hm hs
    by_cases hn : n > 0
    · have hp : n / 16 < 16 ^ m := by rw [Int.pow_succ] at hm; omega
      obtain ⟨r, hr1, hr⟩ := ih (n / 16) (dig n ++ s) (by omega) (by omega) hp (by rw [sp_app, dig_size]; omega)
      refine ⟨r, hr1, fun k hk => ?_⟩
      obtain ⟨k, rfl⟩ : ∃ m, k = m + 1 := ⟨k - 1, by omega⟩
      obtain ⟨s1, s2⟩ := hex_step n h0 h1 s (by omega) (.inl hn) k
      obtain ⟨t1, t2⟩ := hr k (by omega)
      exact ⟨s1.trans t1, s2.trans t2⟩
    · obtain rfl : n = 0 := by omega
      obtain ⟨r, hr1, hr⟩ := hex_zero s (by omega)
      exact ⟨r, hr1, fun k hk => hr k (by omega)⟩
theorem PrintCode_ok (n : Int) (h0 : -2147483648 ≤ n) (h1 : n ≤ 2147483647) : ∃ r : ByteArray, r.size ≤ 51 ∧ ∀ k, 20 ≤ k → scan_PrintCode.f k n = some r ∧ endonymref5_PrintCode.f k n = some r := by
  have j1 : ∀ k, 20 ≤ k → scan_PrintCode.j0 k n true = some ⟨#[]⟩ ∧ endonymref5_PrintCode.j0 k n true = some ⟨#[]⟩ := by
    intro k hk
    obtain ⟨k, rfl⟩ : ∃ m, k = m + 1 := ⟨k - 1, by omega⟩
    rw [scan_PrintCode.j0, endonymref5_PrintCode.j0, if_pos rfl, if_pos rfl]
    exact ⟨rfl, rfl⟩
  by_cases hn : n < 0
  · refine ⟨⟨#[]⟩, by decide, fun k hk => ?_⟩
    unfold scan_PrintCode.f endonymref5_PrintCode.f
    rw [if_pos hn, if_pos hn]
    exact j1 k hk
  by_cases hm : n > 1114111
  · refine ⟨⟨#[]⟩, by decide, fun k hk => ?_⟩
    unfold scan_PrintCode.f endonymref5_PrintCode.f
    rw [if_neg hn, if_neg hn, decide_eq_true hm]
    exact j1 k hk
  · obtain ⟨r, hr1, hr⟩ := hex_loop 6 n ⟨#[]⟩ (by omega) (by omega) (by omega) (by decide)
    refine ⟨r, hr1, fun k hk => ?_⟩
    unfold scan_PrintCode.f endonymref5_PrintCode.f
    rw [if_neg hn, if_neg hn, decide_eq_false hm]
    obtain ⟨k, rfl⟩ : ∃ m, k = m + 1 := ⟨k - 1, by omega⟩
    rw [scan_PrintCode.j0, endonymref5_PrintCode.j0, if_neg (by decide), if_neg (by decide), w64 (by omega) (by omega)]
    exact hr k (by omega)
theorem PrintSpan_ok (a b : Int) (h0 : -2147483648 ≤ a) (h1 : a ≤ 2147483647) (h2 : -2147483648 ≤ b) (h3 : b ≤ 2147483647) : ∃ r : ByteArray, ∀ k, 30 ≤ k → scan_PrintSpan.f k a b = some r ∧ endonymref5_PrintSpan.f k a b = some r := by
  obtain ⟨p, hp1, hp⟩ := PrintCode_ok a h0 h1
  obtain ⟨q, hq1, hq⟩ := PrintCode_ok b h2 h3
  by_cases he : a = b
  · refine ⟨p, fun k hk => ?_⟩
    unfold scan_PrintSpan.f endonymref5_PrintSpan.f
    rw [if_pos he, if_pos he, (hp k (by omega)).1, (hp k (by omega)).2]
    exact ⟨rfl, rfl⟩
  have jE : ∀ k, 30 ≤ k → scan_PrintSpan.j0 k a b false = some ⟨#[]⟩ ∧ endonymref5_PrintSpan.j0 k a b true = some ⟨#[]⟩ := by
    intro k hk
    obtain ⟨k, rfl⟩ : ∃ m, k = m + 1 := ⟨k - 1, by omega⟩
    rw [scan_PrintSpan.j0, endonymref5_PrintSpan.j0, if_neg (by decide), if_pos rfl]
    exact ⟨rfl, rfl⟩
  have jR : ∀ k, 30 ≤ k → scan_PrintSpan.j0 k a b true = some (p ++ ⟨#[46, 46]⟩ ++ q) ∧ endonymref5_PrintSpan.j0 k a b false = some (p ++ ⟨#[46, 46]⟩ ++ q) := by
    intro k hk
    obtain ⟨k, rfl⟩ : ∃ m, k = m + 1 := ⟨k - 1, by omega⟩
    have s2 : (p ++ (⟨#[46, 46]⟩ : ByteArray)).size = p.size + 2 := sp_app _ _
    have g1 : p.size + 2 ≤ 9223372036854775807 := by omega
    have g2 : (p ++ (⟨#[46, 46]⟩ : ByteArray)).size + q.size ≤ 9223372036854775807 := by omega
    rw [scan_PrintSpan.j0, endonymref5_PrintSpan.j0, if_pos rfl, if_neg (by decide), (hp k (by omega)).1, (hp k (by omega)).2, (hq k (by omega)).1, (hq k (by omega)).2]
    simp only [Option.bind_some, if_pos g1, if_pos g2]
    exact ⟨trivial, trivial⟩
  by_cases ha : a < 0
  · refine ⟨⟨#[]⟩, fun k hk => ?_⟩
    unfold scan_PrintSpan.f endonymref5_PrintSpan.f
    rw [if_neg he, if_neg he, if_neg (show ¬ a ≥ 0 by omega), if_pos ha]
    exact jE k hk
  by_cases hab : a < b
  · by_cases hb : b ≤ 1114111
    · refine ⟨p ++ ⟨#[46, 46]⟩ ++ q, fun k hk => ?_⟩
      unfold scan_PrintSpan.f endonymref5_PrintSpan.f
      rw [if_neg he, if_neg he, if_pos (show a ≥ 0 by omega), if_pos hab, if_neg ha, if_neg (show ¬ a > b by omega), decide_eq_true hb, decide_eq_false (show ¬ b > 1114111 by omega)]
      exact jR k hk
    · refine ⟨⟨#[]⟩, fun k hk => ?_⟩
      unfold scan_PrintSpan.f endonymref5_PrintSpan.f
      rw [if_neg he, if_neg he, if_pos (show a ≥ 0 by omega), if_pos hab, if_neg ha, if_neg (show ¬ a > b by omega), decide_eq_false hb, decide_eq_true (show b > 1114111 by omega)]
      exact jE k hk
  · refine ⟨⟨#[]⟩, fun k hk => ?_⟩
    unfold scan_PrintSpan.f endonymref5_PrintSpan.f
    rw [if_neg he, if_neg he, if_pos (show a ≥ 0 by omega), if_neg hab, if_neg ha, if_pos (show a > b by omega)]
    exact jE k hk
/-- The digits of u; none of 0. -/
def decs (u : Nat) : List UInt8 := if u = 0 then [] else Lib.decDigits u
theorem decs_step (u : Nat) (h : u ≠ 0) : decs u = decs (u / 10) ++ [UInt8.ofNat (48 + u % 10)] := by
  unfold decs
  rw [if_neg h]
  by_cases h10 : u < 10
  · rw [Lib.decDigits, dif_pos h10, if_pos (by omega), Nat.mod_eq_of_lt h10]; rfl
  · rw [Lib.decDigits, dif_neg h10, if_neg (by omega)]
theorem mk_app (x y : List UInt8) : (⟨x.toArray⟩ : ByteArray) ++ (⟨y.toArray⟩ : ByteArray) = ⟨(x ++ y).toArray⟩ := by
  apply bytesOf_inj
  rw [bytesOf_append]
  simp [bytesOf]
theorem one_dig (u : Nat) : strOfNums [(IntKind.u64.wrap (48 + Int.tmod ((u : Nat) : Int) 10)) % 256] = ⟨[UInt8.ofNat (48 + u % 10)].toArray⟩ := by
  have e : IntKind.u64.wrap (48 + Int.tmod ((u : Nat) : Int) 10) = ((48 + u % 10 : Nat) : Int) := by
    rw [Int.tmod_eq_emod_of_nonneg (by omega), wu64 (by omega) (by omega)]; omega
  rw [e]
  apply bytesOf_inj
  rw [bytesOf_strOfNums _ (fun x hx => by rw [List.mem_singleton.1 hx]; omega)]
  simp only [bytesOf, List.map_cons, List.map_nil, UInt8.toNat_ofNat']
  all_goals (first | rfl | (congr 1; omega) | omega)
theorem dec_loop (b : Bool) : ∀ (m u : Nat) (l : List UInt8), u ≤ 9223372036854775808 → u < 10 ^ m → l.length + m ≤ 100 → ∀ k, m + 1 ≤ k →
    endonymref5_PrintWhole.l0 k ((u : Nat) : Int) b ⟨l.toArray⟩ = some ⟨((if b = true then [45] else []) ++ (decs u ++ l)).toArray⟩ := by
  have fin : ∀ (l : List UInt8), l.length ≤ 100 → ∀ k, endonymref5_PrintWhole.l0 (k + 1) ((0 : Nat) : Int) b ⟨l.toArray⟩ = some ⟨((if b = true then [45] else []) ++ (decs 0 ++ l)).toArray⟩ := by
    intro l hl k
    rw [endonymref5_PrintWhole.l0, if_neg (by decide)]
    have hsz : (⟨l.toArray⟩ : ByteArray).size = l.length := by simp [ByteArray.size]
    cases b
    · rfl
    · rw [if_pos rfl, if_pos (by omega), if_pos rfl]
      have := mk_app [45] l
      exact congrArg some this
  intro m
  induction m with
  | zero =>
    intro u l hu hm hl k hk
    obtain rfl : u = 0 := by simp at hm; exact hm
    obtain ⟨k, rfl⟩ : ∃ m, k = m + 1 := ⟨k - 1, by omega⟩
    exact fin l (by omega) k
  | succ m ih =>
    intro u l hu hm hl k hk
    obtain ⟨k, rfl⟩ : ∃ m, k = m + 1 := ⟨k - 1, by omega⟩
    by_cases h0 : u = 0
    · subst h0; exact fin l (by omega) k
    · have hsz : (⟨l.toArray⟩ : ByteArray).size = l.length := by simp [ByteArray.size]
      have hs1 : (⟨[UInt8.ofNat (48 + u % 10)].toArray⟩ : ByteArray).size = 1 := rfl
      have e2 : IntKind.u64.wrap (Int.tdiv ((u : Nat) : Int) 10) = ((u / 10 : Nat) : Int) := by
        rw [Int.tdiv_eq_ediv_of_nonneg (by omega), wu64 (by omega) (by omega)]; omega
      rw [endonymref5_PrintWhole.l0, if_pos (by omega), Option.bind_some, one_dig, if_pos (by omega), e2, mk_app, ih (u / 10) _ (by omega) (by rw [Nat.pow_succ] at hm; omega) (by simp only [List.length_append, List.length_cons, List.length_nil]; omega) k (by omega), decs_step u h0, List.append_assoc]
theorem PrintWhole_ok (n : Int) (h0 : -9223372036854775808 ≤ n) (h1 : n ≤ 9223372036854775807) : ∀ k, 30 ≤ k → scan_PrintWhole.f n = some ⟨(Lib.itoa n).toArray⟩ ∧ endonymref5_PrintWhole.f k n = some ⟨(Lib.itoa n).toArray⟩ := by
  intro k hk
  refine ⟨by unfold scan_PrintWhole.f; rw [if_pos ⟨h0, h1⟩], ?_⟩
  unfold endonymref5_PrintWhole.f
  obtain ⟨k, rfl⟩ : ∃ m, k = m + 1 := ⟨k - 1, by omega⟩
  by_cases hz : n = 0
  · subst hz
    rw [if_pos rfl]
    unfold Lib.itoa
    rw [if_neg (by decide), show (0 : Int).toNat = 0 from rfl, Lib.decDigits, dif_pos (by decide)]
    rfl
  rw [if_neg hz]
  by_cases hn : n < 0
  · have e1 : wrap64 (n + 1) = n + 1 := w64 (by omega) (by omega)
    have e2 : wrap64 (-(n + 1)) = -(n + 1) := w64 (by omega) (by omega)
    have e3 : IntKind.u64.wrap (-(n + 1)) = -(n + 1) := wu64 (by omega) (by omega)
    have e4 : IntKind.u64.wrap (-(n + 1) + 1) = ((n.natAbs : Nat) : Int) := by rw [wu64 (by omega) (by omega)]; omega
    rw [if_pos hn, e1, e2, e3, e4, decide_eq_true hn, endonymref5_PrintWhole.j0]
    have hd := dec_loop true 20 n.natAbs [] (by omega) (by have : (10 : Nat) ^ 20 = 100000000000000000000 := by decide
                                                           omega) (by decide) k (by omega)
    rw [show (⟨([] : List UInt8).toArray⟩ : ByteArray) = ⟨#[]⟩ from rfl] at hd
    rw [hd]
    unfold Lib.itoa decs
    rw [if_pos hn, if_pos rfl, if_neg (by omega), List.append_nil]
    rfl
  · have e4 : IntKind.u64.wrap n = ((n.toNat : Nat) : Int) := by rw [wu64 (by omega) (by omega)]; omega
    rw [if_neg hn, e4, decide_eq_false hn, endonymref5_PrintWhole.j0]
    have hd := dec_loop false 20 n.toNat [] (by omega) (by have : (10 : Nat) ^ 20 = 100000000000000000000 := by decide
                                                           omega) (by decide) k (by omega)
    rw [show (⟨([] : List UInt8).toArray⟩ : ByteArray) = ⟨#[]⟩ from rfl] at hd
    rw [hd]
    unfold Lib.itoa decs
    rw [if_neg hn, if_neg (by decide), if_neg (by omega), List.append_nil]
    rfl
theorem told5p_ok (k : Nat) (hk : 40 ≤ k) : endonymlaw5_told.f k = some true := at_rounds endonymlaw5_told.mono hk (by decide +kernel)
theorem ScanPrints_ok (a b n : Int) (h0 : -2147483648 ≤ a) (h1 : a ≤ 2147483647) (h2 : -2147483648 ≤ b) (h3 : b ≤ 2147483647) (h4 : -9223372036854775808 ≤ n) (h5 : n ≤ 9223372036854775807) : endonymlaw5_ScanPrints.f 100 a b n = some true := by
  obtain ⟨p, _, hp⟩ := PrintCode_ok a h0 h1
  obtain ⟨q, hq⟩ := PrintSpan_ok a b h0 h1 h2 h3
  have hw := PrintWhole_ok n h4 h5 100 (by decide)
  unfold endonymlaw5_ScanPrints.f
  rw [told5p_ok 100 (by decide), (hp 100 (by decide)).1, (hp 100 (by decide)).2, (hq 100 (by decide)).1, (hq 100 (by decide)).2, hw.1, hw.2]
  simp only [Option.bind_some, if_true, beq_self_eq_true]
end Go.Proofs.YtplnakmpogepmabDoor.Plain
