import Derived.Test.YtplnakmpogepmabScanReadsL
import Derived.Test.YtplnakmpogepmabScanBlankInv
import Derived.Test.YtplnakmpogepmabAx10
/-! ScanBlanks. -/
namespace Go.Proofs.Ytplnakmpogepmab.Plain
open Go.RowKit Go.Proofs.YtplnakmpogepmabW.PrintWords Go.Proofs.YtplnakmpogepmabW.PrintLast Go.Proofs.YtplnakmpogepmabW.PrintMore Go.Proofs.Ytplnakmpogepmab.A
set_option linter.unusedVariables false
set_option linter.unusedSimpArgs false

theorem and3 (n : Int) : bits .and .i64 n 3 = n % 4 := by
  have h3 : (BitVec.ofInt 64 3).toNat = 2 ^ 2 - 1 := by decide
  have key : (BitVec.ofInt 64 n &&& BitVec.ofInt 64 3).toNat = (n % ((2 ^ 64 : Nat) : Int)).toNat % 2 ^ 2 := by
    rw [BitVec.toNat_and, BitVec.toNat_ofInt, h3, Nat.and_two_pow_sub_one_eq_mod]
  show IntKind.i64.wrap ((BitVec.ofInt 64 n &&& BitVec.ofInt 64 3).toNat : Nat) = n % 4
  rw [key, IntKind.wrap_i64]
  omega
theorem sb_rd34 (l : List (ByteArray × Int)) (i : Nat) (h : i < l.length) : rd_T34 (l.map w34) (i : Int) = w34 l[i] := by
  unfold rd_T34
  rw [Int.toNat_natCast, List.getD_eq_getElem?_getD, List.getElem?_map, List.getElem?_eq_getElem h]; rfl
theorem sb_rdf (l : List (ByteArray × Int)) (i : Nat) (h : i < l.length) : rdOf ByteArray.empty (l.map Prod.fst) (i : Int) = l[i].1 := by
  unfold rdOf
  rw [Int.toNat_natCast, List.getD_eq_getElem?_getD, List.getElem?_map, List.getElem?_eq_getElem h]; rfl
theorem sb_l3 (line : ByteArray) (hline : line.size ≤ 16777216) (W : List (ByteArray × Int)) (hW : W.length ≤ 1000) (hP : Plc line W) : ∀ (n i : Nat), i + n = W.length →
    ∀ k, n + 1 ≤ k → endonymlaw5_ScanBlanks.l3 k line (W.map Prod.fst) (W.map w34) (i : Int) = some true := by
  intro n
  induction n with
  | zero =>
    intro i hi k hk
    obtain ⟨k, rfl⟩ : ∃ m, k = m + 1 := ⟨k - 1, by omega⟩
    rw [endonymlaw5_ScanBlanks.l3, if_neg (by rw [List.length_map]; omega)]
  | succ n ih =>
    intro i hi k hk
    obtain ⟨k, rfl⟩ : ∃ m, k = m + 1 := ⟨k - 1, by omega⟩
    have h : i < W.length := by omega
    obtain ⟨h0, h1, h2⟩ := hP W[i] (List.getElem_mem h)
    rw [endonymlaw5_ScanBlanks.l3, if_pos (by rw [List.length_map]; omega), if_pos (by omega), if_pos (by rw [List.length_map]; omega), sb_rd34 W i h, sb_rdf W i h]
    generalize W[i] = p at h0 h1 h2
    obtain ⟨w, q⟩ := p
    simp only at h0 h1 h2
    have e1 : (w34 (w, q)).f0 = w := rfl
    have e2 : (w34 (w, q)).f1 = q := rfl
    have e3 : wrap64 (q + (w.size : Int)) = q + (w.size : Int) := w64 (by omega) (by omega)
    have e4 : (q + (w.size : Int)).toNat = q.toNat + w.size := by omega
    simp only [e1, e2, e3, e4, h2]
    rw [if_pos trivial, if_neg (by omega), if_neg (by omega), if_pos (by omega), if_pos (by omega), if_pos (by omega), if_pos trivial, wsucc i (by omega)]
    exact ih (i + 1) (by omega) k (by omega)
theorem sb_end (x0 : List ByteArray) (x1 : List Int) (r line : ByteArray) (hr : r.size ≤ 1048576) (hline : line.size ≤ 10000) (f : Int) (acc W : List (ByteArray × Int)) (hW : W.length ≤ 1000) (hI : Inv line f acc W) (i : Int) (k : Nat) (hk : 2100000 + 25000 ≤ k) :
    endonymlaw5_ScanBlanks.j1 k x0 x1 r line (W.map Prod.fst) i false = some true := by
  obtain ⟨k, rfl⟩ : ∃ m, k = m + 1 := ⟨k - 1, by omega⟩
  have s2 : (line ++ (⟨#[32, 35]⟩ : ByteArray)).size = line.size + 2 := size_app _ _
  have s3 : (line ++ (⟨#[32, 35]⟩ : ByteArray) ++ r).size = line.size + 2 + r.size := by rw [size_app, s2]
  have hw := scanWords_ok (line ++ (⟨#[32, 35]⟩ : ByteArray) ++ r) (by omega) k (by omega)
  rw [inv_end hI r] at hw
  rw [endonymlaw5_ScanBlanks.j1, if_neg (by decide), if_pos (by omega), if_pos (by omega), hw, Option.bind_some, told5_ok k (by omega), Option.bind_some, if_pos rfl]
  have e : wrap64 ((line.size : Int) + 1) = ((line.size + 1 : Nat) : Int) := by rw [w64 (by omega) (by omega)]; rfl
  simp only [List.length_map, if_true, e, bne_self_eq_false]
  obtain ⟨k, rfl⟩ : ∃ m, k = m + 1 := ⟨k - 1, by omega⟩
  rw [endonymlaw5_ScanBlanks.j6, if_neg (by decide)]
  exact sb_l3 line (by omega) W hW hI.1 W.length 0 (by omega) k (by omega)
def GoodW (w : ByteArray) : Prop := ∀ j : Nat, j < w.size → Good (bt w (j : Int))
/-- The blanks, and the word behind. -/
theorem sb_l2 (x0 : List ByteArray) (x1 : List Int) (r w : ByteArray) (i : Nat) (hi : i < 20) (W : List (ByteArray × Int)) (hW : W.length ≤ i) (hw1 : 1 ≤ w.size) (hw2 : w.size ≤ 20) (hg : GoodW w) (q : Nat) (hq1 : 1 ≤ q) (hq : q ≤ 4)
    (h : ∀ (line : ByteArray) (f : Int) (acc W' : List (ByteArray × Int)), Inv line f acc W' → W'.length ≤ i + 1 → line.size ≤ 24 * (i + 1) → ∃ K, ∀ k, K ≤ k → endonymlaw5_ScanBlanks.l0 k x0 x1 r line (W'.map Prod.fst) ((i + 1 : Nat) : Int) = some true) :
    ∀ (m t : Nat) (line : ByteArray) (f : Int) (acc : List (ByteArray × Int)), t + m = q → Inv line f acc W → line.size ≤ 24 * i + t → (t = 0 ∨ (f = -1 ∧ acc = W)) →
      ∃ K, ∀ k, K ≤ k → endonymlaw5_ScanBlanks.l2 k x0 x1 r line (W.map Prod.fst) (i : Int) w (q : Int) (t : Int) = some true := by
  intro m
  induction m with
  | zero =>
    intro t line f acc ht hI hs hf
    obtain ⟨rfl, rfl⟩ : f = -1 ∧ acc = W := by
      rcases hf with h0 | h0
      · omega
      · exact h0
    have s2 : (line ++ w).size = line.size + w.size := size_app _ _
    obtain ⟨K, hK⟩ := h (line ++ w) _ _ _ (inv_word hI w hw1 hg) (by rw [List.length_append]; simp only [List.length_cons, List.length_nil]; omega) (by omega)
    refine ⟨K + 1, fun k hk => ?_⟩
    obtain ⟨k, rfl⟩ : ∃ m, k = m + 1 := ⟨k - 1, by omega⟩
    rw [endonymlaw5_ScanBlanks.l2, if_neg (by omega), if_pos (by omega), if_pos (by rw [List.length_map]; omega), wsucc i (by omega)]
    have := hK k (by omega)
    rw [List.map_append] at this
    exact this
  | succ m ih =>
    intro t line f acc ht hI hs hf
    have e : wrap64 ((q : Int) + (t : Int)) = ((q + t : Nat) : Int) := by rw [w64 (by omega) (by omega)]; omega
    have e3 : Int.tmod ((q + t : Nat) : Int) 3 = (((q + t) % 3 : Nat) : Int) := by rw [Int.tmod_eq_emod_of_nonneg (by omega)]; omega
    have go : ∀ b : ByteArray, b.size = 1 → isBl (bt b 0) = true → ∃ K, ∀ k, K ≤ k → endonymlaw5_ScanBlanks.l2 k x0 x1 r (line ++ b) (W.map Prod.fst) (i : Int) w (q : Int) ((t + 1 : Nat) : Int) = some true := by
      intro b hb hbl
      exact ih (t + 1) (line ++ b) (-1) W (by omega) (inv_blank hI b hb hbl) (by rw [size_app]; omega) (.inr ⟨rfl, rfl⟩)
    obtain ⟨K0, h0⟩ := go ⟨#[32]⟩ rfl (by decide)
    obtain ⟨K1, h1⟩ := go ⟨#[9]⟩ rfl (by decide)
    obtain ⟨K2, h2⟩ := go ⟨#[13]⟩ rfl (by decide)
    refine ⟨K0 + K1 + K2 + 1, fun k hk => ?_⟩
    obtain ⟨k, rfl⟩ : ∃ m, k = m + 1 := ⟨k - 1, by omega⟩
    rw [endonymlaw5_ScanBlanks.l2, if_pos (by omega), e, e3, wsucc t (by omega)]
    rcases (show (q + t) % 3 = 0 ∨ (q + t) % 3 = 1 ∨ (q + t) % 3 = 2 from by omega) with h3 | h3 | h3
    · rw [h3, if_pos (by rfl), if_pos (by omega)]
      exact h0 k (by omega)
    · rw [h3, if_neg (by decide), if_pos (by rfl), if_pos (by omega)]
      exact h1 k (by omega)
    · rw [h3, if_neg (by decide), if_neg (by decide), if_pos (by rfl), if_pos (by omega)]
      exact h2 k (by omega)
theorem sb_one (c : Int) (h0 : 0 ≤ c) (h1 : c ≤ 255) : (strOfNums [c]).size = 1 ∧ bt (strOfNums [c]) 0 = c := by
  have hb : bytesOf (strOfNums [c]) = [c] := bytesOf_strOfNums [c] (fun x hx => by rw [List.mem_singleton.1 hx]; exact ⟨h0, h1⟩)
  refine ⟨by rw [sz, hb]; rfl, ?_⟩
  rw [bt_rd, hb]; rfl
theorem sb_l1 (x0 : List ByteArray) (x1 : List Int) (r line : ByteArray) (x8 : List ByteArray) (i : Nat) (hi : i < x0.length)
    (hC : ∀ (w : ByteArray) (x11 : Int), GoodW w → w.size ≤ 20 → ∃ K, ∀ k, K ≤ k → endonymlaw5_ScanBlanks.j3 k x0 x1 r line x8 (i : Int) w x11 false = some true) :
    ∀ (m j : Nat) (w : ByteArray), j + m = 20 → GoodW w → w.size ≤ j → ∃ K, ∀ k, K ≤ k → endonymlaw5_ScanBlanks.l1 k x0 x1 r line x8 (i : Int) w (j : Int) = some true := by
  intro m
  have hi0 : (0 : Int) ≤ (i : Int) := by omega
  have hi1 : (i : Int) < (x0.length : Int) := by omega
  induction m with
  | zero =>
    intro j w hj hg hs
    obtain ⟨K, hK⟩ := hC w (j : Int) hg (by omega)
    refine ⟨K + 1, fun k hk => ?_⟩
    obtain ⟨k, rfl⟩ : ∃ m, k = m + 1 := ⟨k - 1, by omega⟩
    rw [endonymlaw5_ScanBlanks.l1, if_pos hi0, if_pos hi1, decide_eq_false (by omega), ite_self]
    exact hK k (by omega)
  | succ m ih =>
    intro j w hj hg hs
    have hj0 : (0 : Int) ≤ (j : Int) := by omega
    have hj20 : (j : Int) < 20 := by omega
    by_cases hl : (j : Int) < ((rdOf ByteArray.empty x0 (i : Int)).size : Int)
    · have step : ∃ K, ∀ k, K ≤ k → endonymlaw5_ScanBlanks.j3 k x0 x1 r line x8 (i : Int) w (j : Int) true = some true := by
        obtain ⟨K, hK⟩ := ih (j + 1) w (by omega) hg (by omega)
        have hr := bt_range (rdOf ByteArray.empty x0 (i : Int)) (j : Int)
        by_cases h32 : bt (rdOf ByteArray.empty x0 (i : Int)) (j : Int) > 32
        · by_cases h35 : bt (rdOf ByteArray.empty x0 (i : Int)) (j : Int) = 35
          · refine ⟨K + 1, fun k hk => ?_⟩
            obtain ⟨k, rfl⟩ : ∃ m, k = m + 1 := ⟨k - 1, by omega⟩
            rw [endonymlaw5_ScanBlanks.j3, if_pos rfl, if_pos hi0, if_pos hi1, if_pos hj0, if_pos hl, if_pos h32, if_pos h35, wsucc j (by omega)]
            exact hK k (by omega)
          · obtain ⟨s1, s2⟩ := sb_one _ hr.1 hr.2
            have sa : (w ++ strOfNums [bt (rdOf ByteArray.empty x0 (i : Int)) (j : Int)]).size = w.size + 1 := by rw [size_app, s1]
            have hg2 : GoodW (w ++ strOfNums [bt (rdOf ByteArray.empty x0 (i : Int)) (j : Int)]) := by
              intro z hz
              by_cases hzw : z < w.size
              · rw [bt_app_left _ _ _ hzw]; exact hg z hzw
              · obtain rfl : z = w.size + 0 := by omega
                have e := bt_app_right w (strOfNums [bt (rdOf ByteArray.empty x0 (i : Int)) (j : Int)]) 0
                rw [e]
                refine Eq.mpr (congrArg Good s2) ⟨h32, h35⟩
            obtain ⟨K2, hK2⟩ := ih (j + 1) _ (by omega) hg2 (by omega)
            refine ⟨K2 + 1, fun k hk => ?_⟩
            obtain ⟨k, rfl⟩ : ∃ m, k = m + 1 := ⟨k - 1, by omega⟩
            rw [endonymlaw5_ScanBlanks.j3, if_pos rfl, if_pos hi0, if_pos hi1, if_pos hj0, if_pos hl, if_pos h32, if_neg h35, Option.bind_some, if_pos (by omega), wsucc j (by omega)]
            exact hK2 k (by omega)
        · refine ⟨K + 1, fun k hk => ?_⟩
          obtain ⟨k, rfl⟩ : ∃ m, k = m + 1 := ⟨k - 1, by omega⟩
          rw [endonymlaw5_ScanBlanks.j3, if_pos rfl, if_pos hi0, if_pos hi1, if_pos hj0, if_pos hl, if_neg h32, wsucc j (by omega)]
          exact hK k (by omega)
      obtain ⟨K, hK⟩ := step
      refine ⟨K + 1, fun k hk => ?_⟩
      obtain ⟨k, rfl⟩ : ∃ m, k = m + 1 := ⟨k - 1, by omega⟩
      rw [endonymlaw5_ScanBlanks.l1, if_pos hi0, if_pos hi1, if_pos hl, decide_eq_true hj20]
      exact hK k (by omega)
    · obtain ⟨K, hK⟩ := hC w (j : Int) hg (by omega)
      refine ⟨K + 1, fun k hk => ?_⟩
      obtain ⟨k, rfl⟩ : ∃ m, k = m + 1 := ⟨k - 1, by omega⟩
      rw [endonymlaw5_ScanBlanks.l1, if_pos hi0, if_pos hi1, if_neg hl]
      exact hK k (by omega)
theorem sb_l0 (x0 : List ByteArray) (x1 : List Int) (r : ByteArray) (hr : r.size ≤ 1048576) : ∀ (n i : Nat) (line : ByteArray) (f : Int) (acc W : List (ByteArray × Int)), i + n = 20 → Inv line f acc W → W.length ≤ i → line.size ≤ 24 * i →
    ∃ K, ∀ k, K ≤ k → endonymlaw5_ScanBlanks.l0 k x0 x1 r line (W.map Prod.fst) (i : Int) = some true := by
  intro n
  induction n with
  | zero =>
    intro i line f acc W hi hI hW hs
    refine ⟨2100000 + 25000 + 1, fun k hk => ?_⟩
    obtain ⟨k, rfl⟩ : ∃ m, k = m + 1 := ⟨k - 1, by omega⟩
    rw [endonymlaw5_ScanBlanks.l0, decide_eq_false (by omega), ite_self]
    exact sb_end x0 x1 r line hr (by omega) f acc W (by omega) hI (i : Int) k (by omega)
  | succ n ih =>
    intro i line f acc W hi hI hW hs
    by_cases hl : (i : Int) < (x0.length : Int)
    · have hi0 : (0 : Int) ≤ (i : Int) := by omega
      have hC : ∀ (w : ByteArray) (x11 : Int), GoodW w → w.size ≤ 20 → ∃ K, ∀ k, K ≤ k → endonymlaw5_ScanBlanks.j3 k x0 x1 r line (W.map Prod.fst) (i : Int) w x11 false = some true := by
        intro w x11 hg hw
        by_cases he : w.toList = ([] : List UInt8)
        · obtain ⟨K, hK⟩ := ih (i + 1) line f acc W (by omega) hI (by omega) (by omega)
          refine ⟨K + 1, fun k hk => ?_⟩
          obtain ⟨k, rfl⟩ : ∃ m, k = m + 1 := ⟨k - 1, by omega⟩
          rw [endonymlaw5_ScanBlanks.j3, if_neg (by decide), if_pos he, wsucc i (by omega)]
          exact hK k (by omega)
        · have hw1 : 1 ≤ w.size := by
            refine Nat.one_le_iff_ne_zero.2 (fun h0 => he ?_)
            rw [ByteArray.toList_eq]
            exact List.eq_nil_of_length_eq_zero (by rw [Array.length_toList]; exact h0)
          have nx : ∀ q : Nat, 1 ≤ q → q ≤ 4 → ∃ K, ∀ k, K ≤ k → endonymlaw5_ScanBlanks.j4 k x0 x1 r line (W.map Prod.fst) (i : Int) w (q : Int) = some true := by
            intro q hq1 hq
            obtain ⟨K, hK⟩ := sb_l2 x0 x1 r w i (by omega) W hW hw1 hw hg q hq1 hq (fun line f acc W' h1 h2 h3 => ih (i + 1) line f acc W' (by omega) h1 h2 h3) q 0 line f acc (by omega) hI (by omega) (.inl rfl)
            refine ⟨K + 1, fun k hk => ?_⟩
            obtain ⟨k, rfl⟩ : ∃ m, k = m + 1 := ⟨k - 1, by omega⟩
            rw [endonymlaw5_ScanBlanks.j4]
            exact hK k (by omega)
          by_cases hx : (i : Int) < (x1.length : Int)
          · have e : wrap64 (bits .and .i64 (rd x1 (i : Int)) 3 + 1) = (((rd x1 (i : Int)) % 4).toNat + 1 : Nat) := by rw [and3, w64 (by omega) (by omega)]; omega
            obtain ⟨K, hK⟩ := nx (((rd x1 (i : Int)) % 4).toNat + 1) (by omega) (by omega)
            refine ⟨K + 1, fun k hk => ?_⟩
            obtain ⟨k, rfl⟩ : ∃ m, k = m + 1 := ⟨k - 1, by omega⟩
            rw [endonymlaw5_ScanBlanks.j3, if_neg (by decide), if_neg he, if_pos hx, if_pos hi0, e]
            exact hK k (by omega)
          · obtain ⟨K, hK⟩ := nx 1 (by omega) (by omega)
            refine ⟨K + 1, fun k hk => ?_⟩
            obtain ⟨k, rfl⟩ : ∃ m, k = m + 1 := ⟨k - 1, by omega⟩
            rw [endonymlaw5_ScanBlanks.j3, if_neg (by decide), if_neg he, if_neg hx]
            exact hK k (by omega)
      obtain ⟨K, hK⟩ := sb_l1 x0 x1 r line (W.map Prod.fst) i (by omega) hC 20 0 ⟨#[]⟩ (by omega) (fun j hj => absurd hj (by decide +revert)) (Nat.le_refl _)
      refine ⟨K + 2, fun k hk => ?_⟩
      obtain ⟨k, rfl⟩ : ∃ m, k = m + 2 := ⟨k - 2, by omega⟩
      rw [endonymlaw5_ScanBlanks.l0, if_pos hl, decide_eq_true (by omega), endonymlaw5_ScanBlanks.j1, if_pos rfl]
      exact hK k (by omega)
    · refine ⟨2100000 + 25000 + 1, fun k hk => ?_⟩
      obtain ⟨k, rfl⟩ : ∃ m, k = m + 1 := ⟨k - 1, by omega⟩
      rw [endonymlaw5_ScanBlanks.l0, if_neg hl]
      exact sb_end x0 x1 r line hr (by omega) f acc W (by omega) hI (i : Int) k (by omega)
theorem ScanBlanks_ok (x0 : List ByteArray) (x1 : List Int) (r : ByteArray) (hr : r.size ≤ 1048576) : ∃ k, endonymlaw5_ScanBlanks.f k x0 x1 r = some true := by
  obtain ⟨K, hK⟩ := sb_l0 x0 x1 r hr 20 0 ⟨#[]⟩ (-1) [] [] (by omega) inv_zero (Nat.le_refl _) (Nat.le_refl _)
  exact ⟨K, hK K (Nat.le_refl _)⟩
end Go.Proofs.Ytplnakmpogepmab.Plain
