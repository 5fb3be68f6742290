import Derived.Test.YtplnakmpogepmabScanWordsL
/-! A line that grows by blanks and words, as Words will read it. -/
namespace Go.Proofs.Ytplnakmpogepmab.Plain
open Go.RowKit Go.Proofs.YtplnakmpogepmabW.PrintWords Go.Proofs.YtplnakmpogepmabW.PrintLast Go.Proofs.YtplnakmpogepmabW.PrintMore Go.Proofs.Ytplnakmpogepmab.A
set_option linter.unusedVariables false
set_option linter.unusedSimpArgs false

theorem bt_app_left (x y : ByteArray) (i : Nat) (h : i < x.size) : bt (x ++ y) (i : Int) = bt x (i : Int) := by
  rw [bt_rd, bt_rd, bytesOf_append]
  unfold rd
  rw [Int.toNat_natCast, List.getD_eq_getElem?_getD, List.getD_eq_getElem?_getD, List.getElem?_append_left (by rw [← sz]; exact h)]
theorem bt_app_right (x y : ByteArray) (i : Nat) : bt (x ++ y) ((x.size + i : Nat) : Int) = bt y (i : Int) := by
  rw [bt_rd, bt_rd, bytesOf_append]
  unfold rd
  rw [Int.toNat_natCast, Int.toNat_natCast, List.getD_eq_getElem?_getD, List.getD_eq_getElem?_getD, List.getElem?_append_right (by rw [← sz]; omega), sz]
  congr 2
  omega
theorem ext_app_left (x y : ByteArray) (i j : Nat) (h : j ≤ x.size) : (x ++ y).extract i j = x.extract i j := by
  apply bytesOf_inj
  rw [bytesOf_extract, bytesOf_extract, bytesOf_append, List.take_append_of_le_length (by rw [← sz]; exact h)]
theorem ext_app_right (x y z : ByteArray) : (x ++ (y ++ z)).extract x.size (x.size + y.size) = y := by
  apply bytesOf_inj
  rw [bytesOf_extract, bytesOf_append, bytesOf_append, sz x, sz y, ← List.append_assoc, ← List.length_append, List.take_left, List.drop_left]
theorem size_app (x y : ByteArray) : (x ++ y).size = x.size + y.size := by rw [sz, sz x, sz y, bytesOf_append, List.length_append]
theorem app_assoc (x y z : ByteArray) : x ++ y ++ z = x ++ (y ++ z) := by
  apply bytesOf_inj
  rw [bytesOf_append, bytesOf_append, bytesOf_append, bytesOf_append, List.append_assoc]
/-- A byte of a word. -/
def Good (c : Int) : Prop := 32 < c ∧ c ≠ 35
theorem good_notBl {c : Int} (h : Good c) : isBl c = false := by
  obtain ⟨h, _⟩ := h
  unfold isBl
  have h1 : (c == 32) = false := by simp; omega
  have h2 : (c == 9) = false := by simp; omega
  have h3 : (c == 13) = false := by simp; omega
  rw [h1, h2, h3]; rfl
theorem bl_not35 {c : Int} (h : isBl c = true) : c ≠ 35 := by
  intro e; rw [e] at h; exact absurd h (by decide)
theorem bw_good (a : ByteArray) (n i : Nat) (from_ : Int) (acc : List (ByteArray × Int)) (h : Good (bt a (i : Int))) :
    bw a (n + 1) i from_ acc = bw a n (i + 1) (if from_ < 0 then (i : Int) else from_) acc := by
  rw [bw, if_neg h.2, good_notBl h]
  rfl
theorem bw_good_more (a : ByteArray) : ∀ (m n i : Nat) (from_ : Int) (acc : List (ByteArray × Int)), 0 ≤ from_ → (∀ j, i ≤ j → j < i + m → Good (bt a (j : Int))) →
    bw a (n + m) i from_ acc = bw a n (i + m) from_ acc := by
  intro m
  induction m with
  | zero => intro n i from_ acc h0 h; rfl
  | succ m ih =>
    intro n i from_ acc h0 h
    rw [show n + (m + 1) = (n + m) + 1 from rfl, bw_good a (n + m) i from_ acc (h i (by omega) (by omega)), if_neg (by omega), ih n (i + 1) from_ acc h0 (fun j h1 h2 => h j (by omega) (by omega)), show i + 1 + m = i + (m + 1) from by omega]
theorem bw_word (a : ByteArray) (m n i : Nat) (acc : List (ByteArray × Int)) (hm : 1 ≤ m) (h : ∀ j, i ≤ j → j < i + m → Good (bt a (j : Int))) :
    bw a (n + m) i (-1) acc = bw a n (i + m) (i : Int) acc := by
  obtain ⟨m, rfl⟩ : ∃ z, m = z + 1 := ⟨m - 1, by omega⟩
  rw [show n + (m + 1) = (n + m) + 1 from rfl, bw_good a (n + m) i (-1) acc (h i (by omega) (by omega)), if_pos (by decide), bw_good_more a m n (i + 1) _ acc (by omega) (fun j h1 h2 => h j (by omega) (by omega)), show i + 1 + m = i + (m + 1) from by omega]
/-- The words stand in the line where they say. -/
def Plc (line : ByteArray) (W : List (ByteArray × Int)) : Prop := ∀ p ∈ W, 0 ≤ p.2 ∧ p.2.toNat + p.1.size ≤ line.size ∧ line.extract p.2.toNat (p.2.toNat + p.1.size) = p.1
theorem Plc.app {line : ByteArray} {W : List (ByteArray × Int)} (h : Plc line W) (s : ByteArray) : Plc (line ++ s) W := by
  intro p hp
  obtain ⟨h0, h1, h2⟩ := h p hp
  exact ⟨h0, by rw [size_app]; omega, by rw [ext_app_left _ _ _ _ h1]; exact h2⟩
def Inv (line : ByteArray) (f : Int) (acc W : List (ByteArray × Int)) : Prop :=
  Plc line W ∧ ∀ s : ByteArray, bw (line ++ s) (line ++ s).size 0 (-1) [] = bw (line ++ s) s.size line.size f acc ∧ cutW (line ++ s) f line.size acc = W
theorem cutW_m1 (a : ByteArray) (e : Nat) (acc : List (ByteArray × Int)) : cutW a (-1) e acc = acc := by unfold cutW; rw [if_neg (by decide)]
theorem inv_zero : Inv ⟨#[]⟩ (-1) [] [] := by
  refine ⟨fun p hp => absurd hp (by simp), fun s => ⟨?_, cutW_m1 _ _ _⟩⟩
  rw [size_app]
  rw [show (⟨#[]⟩ : ByteArray).size + s.size = s.size from by rw [show (⟨#[]⟩ : ByteArray).size = 0 from rfl, Nat.zero_add]]
  rfl
theorem inv_blank {line : ByteArray} {f : Int} {acc W : List (ByteArray × Int)} (h : Inv line f acc W) (b : ByteArray) (hb : b.size = 1) (hbl : isBl (bt b 0) = true) : Inv (line ++ b) (-1) W W := by
  refine ⟨h.1.app b, fun s => ⟨?_, cutW_m1 _ _ _⟩⟩
  obtain ⟨h1, h2⟩ := h.2 (b ++ s)
  have hc : bt (line ++ (b ++ s)) (line.size : Int) = bt b 0 := by
    have e := bt_app_left b s 0 (by omega)
    have e2 := bt_app_right line (b ++ s) 0
    rw [e] at e2
    exact e2
  rw [app_assoc, h1, size_app b s, hb, Nat.add_comm 1 s.size, bw, hc, if_neg (bl_not35 hbl), if_pos hbl, h2, size_app line b, hb]
theorem inv_word {line : ByteArray} {W : List (ByteArray × Int)} (h : Inv line (-1) W W) (w : ByteArray) (hw : 1 ≤ w.size) (hg : ∀ j : Nat, j < w.size → Good (bt w (j : Int))) :
    Inv (line ++ w) (line.size : Int) W (W ++ [(w, (line.size : Int))]) := by
  refine ⟨?_, fun s => ⟨?_, ?_⟩⟩
  · intro p hp
    rcases List.mem_append.1 hp with hp | hp
    · exact h.1.app w p hp
    · rw [List.mem_singleton.1 hp]
      refine ⟨by simp only; omega, by simp only [Int.toNat_natCast]; rw [size_app]; omega, ?_⟩
      simp only [Int.toNat_natCast]
      have := ext_app_right line w ⟨#[]⟩
      rw [← app_assoc, ext_app_left _ _ _ _ (by rw [size_app]; omega)] at this
      exact this
  · obtain ⟨h1, h2⟩ := h.2 (w ++ s)
    rw [app_assoc, h1, size_app w s, Nat.add_comm w.size s.size, bw_word (line ++ (w ++ s)) w.size s.size line.size W hw ?_, size_app line w]
    intro j hj1 hj2
    obtain ⟨q, rfl⟩ : ∃ q, j = line.size + q := ⟨j - line.size, by omega⟩
    rw [bt_app_right line (w ++ s) q, bt_app_left w s q (by omega)]
    exact hg q (by omega)
  · unfold cutW
    rw [if_pos (by omega), Int.toNat_natCast, app_assoc, size_app line w, ext_app_right]
/-- The line with its remark. -/
theorem inv_end {line : ByteArray} {f : Int} {acc W : List (ByteArray × Int)} (h : Inv line f acc W) (r : ByteArray) :
    bw (line ++ (⟨#[32, 35]⟩ : ByteArray) ++ r) (line ++ (⟨#[32, 35]⟩ : ByteArray) ++ r).size 0 (-1) [] = (W, ((line.size + 1 : Nat) : Int)) := by
  obtain ⟨h1, h2⟩ := h.2 ((⟨#[32, 35]⟩ : ByteArray) ++ r)
  have c0 : bt (line ++ ((⟨#[32, 35]⟩ : ByteArray) ++ r)) (line.size : Int) = 32 := by
    have := bt_app_right line ((⟨#[32, 35]⟩ : ByteArray) ++ r) 0
    rw [bt_app_left (⟨#[32, 35]⟩ : ByteArray) r 0 (by decide)] at this
    exact this
  have c1 : bt (line ++ ((⟨#[32, 35]⟩ : ByteArray) ++ r)) ((line.size + 1 : Nat) : Int) = 35 := by
    have := bt_app_right line ((⟨#[32, 35]⟩ : ByteArray) ++ r) 1
    rw [bt_app_left (⟨#[32, 35]⟩ : ByteArray) r 1 (by decide)] at this
    exact this
  rw [app_assoc, h1, size_app (⟨#[32, 35]⟩ : ByteArray) r, show (⟨#[32, 35]⟩ : ByteArray).size + r.size = (r.size + 1) + 1 from by rw [show (⟨#[32, 35]⟩ : ByteArray).size = 2 from rfl]; omega,
    bw, c0, if_neg (by decide), if_pos (by decide), h2, bw, c1, if_pos rfl, cutW_m1]
end Go.Proofs.Ytplnakmpogepmab.Plain
