import Derived.Test.YtnoppeocbfapdaaGreatDoorTx0
import Derived.Test.YtnoppeocbfapdaaGreatDoorTx1
import Derived.Test.YtnoppeocbfapdaaGreatDoorTx5
import Derived.Test.YtnoppeocbfapdaaGreatDoorTx6
namespace Go.Proofs.YtnoppeocbfapdaaGreatDoor.T
open Go.RowKit Go.Proofs.YtnoppeocbfapdaaGreatDoorW.PrintWords Go.Proofs.YtnoppeocbfapdaaGreatDoorW.PrintLast Go.Proofs.YtnoppeocbfapdaaGreatDoorW.PrintMore
set_option maxHeartbeats 8000000
set_option maxRecDepth 100000
attribute [local go_sem] max2_int min2_int max_two min_two max_three min_three max_four min_four
set_option linter.unusedVariables false
set_option linter.unusedSimpArgs false
mutual
def table_Check.l0 : Nat → List (S25) → List (S25) → Int → Int → Option (Int × Int)
 | 0, _, _, _, _ => none
 | k + 1, x0, x16, x17, x18 => if x18 < x17 then (if 0 ≤ x18 then (if x18 < (x16.length : Int) then ((table_Right.f k ((rd_T25 x16 x18).f0) ((rd_T25 x16 x18).f1) ((rd_T25 x16 x18).f2) ((rd_T25 x16 x18).f3) ((rd_T25 x16 x18).f4) ((rd_T25 x16 x18).f5) ((rd_T25 x16 x18).f6) ((rd_T25 x16 x18).f7)).bind fun t197 => (if t197 = 0 then (table_Check.l0 k x0 x16 x17 (wrap64 (x18 + 1))) else (some (x18, t197)))) else (none)) else (none)) else (table_Check.l1 k (fun _ => []) x0 x0 (x0.length : Int) 0)
def table_Check.l1 : Nat → (Int → List S25) → List (S25) → List (S25) → Int → Int → Option (Int × Int)
 | 0, _, _, _, _, _ => none
 | k + 1, fm, x0, x31, x32, x33 => if x33 < x32 then (if 0 ≤ x33 then (if x33 < (x31.length : Int) then ((table_Family.f k ((rd_T25 x31 x33).f0)).bind fun t200 => (table_Check.l2 k fm x0 x33 t200 x31 x32 x33 (fm t200) ((fm t200).length : Int) 0 ((rd_T25 x31 x33).f0) ((rd_T25 x31 x33).f1) ((rd_T25 x31 x33).f2) ((rd_T25 x31 x33).f3) ((rd_T25 x31 x33).f4) ((rd_T25 x31 x33).f5) ((rd_T25 x31 x33).f6) ((rd_T25 x31 x33).f7))) else (none)) else (none)) else (some (0, 0))
def table_Check.l2 : Nat → (Int → List S25) → List (S25) → Int → Int → List (S25) → Int → Int → List (S25) → Int → Int → Int → Int → Int → Int → List Int → ByteArray → ByteArray → Nat → Option (Int × Int)
 | 0, _, _, _, _, _, _, _, _, _, _, _, _, _, _, _, _, _, _ => none
 | k + 1, fm, x0, x8, x10, x31, x32, x33, x43, x44, x45, x200000, x200001, x200002, x200003, x200004, x200005, x200006, x200007 => if x45 < x44 then (if 0 ≤ x45 then (if x45 < (x43.length : Int) then (if x10 < 10 then ((table_meet.f k ((rd_T25 x43 x45).f0) ((rd_T25 x43 x45).f1) ((rd_T25 x43 x45).f2) ((rd_T25 x43 x45).f3) ((rd_T25 x43 x45).f4) ((rd_T25 x43 x45).f5) ((rd_T25 x43 x45).f6) ((rd_T25 x43 x45).f7) x200000 x200001 x200002 x200003 x200004 x200005 x200006 x200007).bind fun t207 => (if t207 = true then (some (x8, 62)) else (if x10 = 10 then (if ((rd_T25 x43 x45).f5).toList = x200005.toList then (if ((rd_T25 x43 x45).f6).toList = x200006.toList then (some (x8, 62)) else (if ((rd_T25 x43 x45).f5).toList = x200006.toList then (if ((rd_T25 x43 x45).f6).toList = x200005.toList then (some (x8, 62)) else (table_Check.l2 k fm x0 x8 x10 x31 x32 x33 x43 x44 (wrap64 (x45 + 1)) x200000 x200001 x200002 x200003 x200004 x200005 x200006 x200007)) else (table_Check.l2 k fm x0 x8 x10 x31 x32 x33 x43 x44 (wrap64 (x45 + 1)) x200000 x200001 x200002 x200003 x200004 x200005 x200006 x200007))) else (if ((rd_T25 x43 x45).f5).toList = x200006.toList then (if ((rd_T25 x43 x45).f6).toList = x200005.toList then (some (x8, 62)) else (table_Check.l2 k fm x0 x8 x10 x31 x32 x33 x43 x44 (wrap64 (x45 + 1)) x200000 x200001 x200002 x200003 x200004 x200005 x200006 x200007)) else (table_Check.l2 k fm x0 x8 x10 x31 x32 x33 x43 x44 (wrap64 (x45 + 1)) x200000 x200001 x200002 x200003 x200004 x200005 x200006 x200007))) else (table_Check.l2 k fm x0 x8 x10 x31 x32 x33 x43 x44 (wrap64 (x45 + 1)) x200000 x200001 x200002 x200003 x200004 x200005 x200006 x200007)))) else (if x10 = 10 then (if ((rd_T25 x43 x45).f5).toList = x200005.toList then (if ((rd_T25 x43 x45).f6).toList = x200006.toList then (some (x8, 62)) else (if ((rd_T25 x43 x45).f5).toList = x200006.toList then (if ((rd_T25 x43 x45).f6).toList = x200005.toList then (some (x8, 62)) else (table_Check.l2 k fm x0 x8 x10 x31 x32 x33 x43 x44 (wrap64 (x45 + 1)) x200000 x200001 x200002 x200003 x200004 x200005 x200006 x200007)) else (table_Check.l2 k fm x0 x8 x10 x31 x32 x33 x43 x44 (wrap64 (x45 + 1)) x200000 x200001 x200002 x200003 x200004 x200005 x200006 x200007))) else (if ((rd_T25 x43 x45).f5).toList = x200006.toList then (if ((rd_T25 x43 x45).f6).toList = x200005.toList then (some (x8, 62)) else (table_Check.l2 k fm x0 x8 x10 x31 x32 x33 x43 x44 (wrap64 (x45 + 1)) x200000 x200001 x200002 x200003 x200004 x200005 x200006 x200007)) else (table_Check.l2 k fm x0 x8 x10 x31 x32 x33 x43 x44 (wrap64 (x45 + 1)) x200000 x200001 x200002 x200003 x200004 x200005 x200006 x200007))) else (table_Check.l2 k fm x0 x8 x10 x31 x32 x33 x43 x44 (wrap64 (x45 + 1)) x200000 x200001 x200002 x200003 x200004 x200005 x200006 x200007))) else (none)) else (none)) else (table_Check.l1 k (fun g => if g = x10 then x43 ++ [⟨x200000, x200001, x200002, x200003, x200004, x200005, x200006, x200007⟩] else fm g) x0 x31 x32 (wrap64 (x33 + 1)))
end
def table_Check.f (k : Nat) (l0 : List (S25)) : Option (Int × Int) := if (l0.length : Int) > 4096 then (some (0, 3)) else (table_Check.l0 k l0 l0 (l0.length : Int) 0)
theorem table_Check.mono_l : ∀ k, (∀ y0 y1 y2 y3, LeO (table_Check.l0 k y0 y1 y2 y3) (table_Check.l0 (k + 1) y0 y1 y2 y3)) ∧ (∀ yf y0 y1 y2 y3, LeO (table_Check.l1 k yf y0 y1 y2 y3) (table_Check.l1 (k + 1) yf y0 y1 y2 y3)) ∧ (∀ yf y0 y1 y2 y3 y4 y5 y6 y7 y8 y9 y10 y11 y12 y13 y14 y15 y16, LeO (table_Check.l2 k yf y0 y1 y2 y3 y4 y5 y6 y7 y8 y9 y10 y11 y12 y13 y14 y15 y16) (table_Check.l2 (k + 1) yf y0 y1 y2 y3 y4 y5 y6 y7 y8 y9 y10 y11 y12 y13 y14 y15 y16))
 | 0 => ⟨fun _ _ _ _ r h => by simp [table_Check.l0] at h, fun _ _ _ _ _ r h => by simp [table_Check.l1] at h, fun _ _ _ _ _ _ _ _ _ _ _ _ _ _ _ _ _ _ r h => by simp [table_Check.l2] at h⟩
 | k + 1 => by
  obtain ⟨ih0, ih1, ih2⟩ := table_Check.mono_l k
  refine ⟨?_, ?_, ?_⟩
  ·intro y0 y1 y2 y3
   unfold table_Check.l0
   repeat' first | (with_reducible first | apply ih0 | apply ih1 | apply ih2 | apply table_Family.mono | apply table_Right.mono | apply table_meet.mono | apply LeO.refl | apply LeO.none | refine LeO.ite ?_ ?_ | refine LeO.bind ?_ (fun _ => ?_)) | apply LeO.none | refine LeO.ite ?_ ?_ | refine LeO.bind ?_ (fun _ => ?_)
  ·intro yf y0 y1 y2 y3
   unfold table_Check.l1
   repeat' first | (with_reducible first | apply ih0 | apply ih1 | apply ih2 | apply table_Family.mono | apply table_Right.mono | apply table_meet.mono | apply LeO.refl | apply LeO.none | refine LeO.ite ?_ ?_ | refine LeO.bind ?_ (fun _ => ?_)) | apply LeO.none | refine LeO.ite ?_ ?_ | refine LeO.bind ?_ (fun _ => ?_)
  intro yf y0 y1 y2 y3 y4 y5 y6 y7 y8 y9 y10 y11 y12 y13 y14 y15 y16
  unfold table_Check.l2
  repeat' first | (with_reducible first | apply ih0 | apply ih1 | apply ih2 | apply table_Family.mono | apply table_Right.mono | apply table_meet.mono | apply LeO.refl | apply LeO.none | refine LeO.ite ?_ ?_ | refine LeO.bind ?_ (fun _ => ?_)) | apply LeO.none | refine LeO.ite ?_ ?_ | refine LeO.bind ?_ (fun _ => ?_)
theorem table_Check.mono : ∀ a0 k, LeO (table_Check.f k a0) (table_Check.f (k + 1) a0) := by
 intro a0 k
 obtain ⟨ih0, ih1, ih2⟩ := table_Check.mono_l k
 unfold table_Check.f
 repeat' first | (with_reducible first | apply ih0 | apply ih1 | apply ih2 | apply table_Family.mono | apply table_Right.mono | apply table_meet.mono | apply LeO.refl | apply LeO.none | refine LeO.ite ?_ ?_ | refine LeO.bind ?_ (fun _ => ?_)) | apply LeO.none | refine LeO.ite ?_ ?_ | refine LeO.bind ?_ (fun _ => ?_)
/-! Check's map: by families, rows of records. -/
theorem raw_ok {e : Nat} {w : World} {base : Nat} {ok ok' : Nat → Prop} {v : Value} {css : List (List Value)} (h : (Kd.raw 8).R e w base ok v css) (h' : ∀ k, v.ownBlock = some k → ok' k) : (Kd.raw 8).R e w base ok' v css := by
  obtain ⟨_, inner, ho, hr⟩ := h
  exact ⟨h', inner, ho, hr.imp_ (fun _ _ hp => hp)⟩
/-- A row of records of the call's own; their lists lie in the elder world w0. -/
def RowOf (w0 w : World) (base : Nat) (v : Value) (xs : List S25) : Prop :=
  ∃ css, (Kd.raw 8).R 25 w base (fun _ => True) v css ∧ css.length = xs.length ∧ ∀ (j : Nat) x cs, xs[j]? = some x → css[j]? = some cs → k25.K w0 x cs
theorem RowOf.nil (w0 w : World) (base : Nat) : RowOf w0 w base (.slice none 0 0) [] := ⟨[], Kd.R_nil _ _ _ _ _, rfl, fun j x cs h => by simp at h⟩
theorem RowOf.reads {w0 w : World} {base : Nat} {v : Value} {xs : List S25} (h : RowOf w0 w base v xs) (hb : Below w0.heap.size w0 w) : ∃ A c, v = .slice A xs.length c ∧ xs.length ≤ c ∧ Kd.C k25 w A xs.length xs := by
  obtain ⟨css, hR, hl, hK⟩ := h
  obtain ⟨A, c, rfl, hc, hC⟩ := Kd.R_reads hR
  rw [hl] at hc hC ⊢
  exact ⟨A, c, rfl, hc, reads_map hC hl.symm fun j x y cs hx hy hc' => k25.K_below hb (hK j y cs hy (by rw [hx, hc'.1]))⟩
theorem RowOf.move {w0 w w1 : World} {base : Nat} {v : Value} {xs : List S25} (h : RowOf w0 w base v xs) (hm : ∀ k, v.ownBlock = some k → w1.heap[k]? = w.heap[k]?) : RowOf w0 w1 base v xs := by
  obtain ⟨css, hR, hl, hK⟩ := h
  exact ⟨css, raw_ok (Kd.R_move (raw_ok (ok' := fun k => v.ownBlock = some k) hR fun _ h => h) hm) fun _ _ => trivial, hl, hK⟩
theorem RowOf.cells {w0 w : World} {base : Nat} {v : Value} {xs : List S25} (h : RowOf w0 w base v xs) {k : Nat} (hk : v.ownBlock = some k) : (∃ c, w.heap[k]? = some (.cells c 25 (0, 0))) ∧ k < w.heap.size ∧ base ≤ k := by
  obtain ⟨css, ⟨_, inner, ho, _⟩, _, _⟩ := h
  exact ⟨own_typed ho k hk, own_lt ho k hk, own_base ho k hk⟩
/-- A record behind a row. -/
theorem RowOf.one {w0 w : World} {base : Nat} {v : Value} {xs : List S25} {css : List (List Value)} {r : S25} {cs : List Value} (h : (Kd.raw 8).R 25 w base (fun _ => True) v (css ++ [cs])) (hl : css.length = xs.length) (hK : ∀ (j : Nat) x cs, xs[j]? = some x → css[j]? = some cs → k25.K w0 x cs) (hr : k25.K w0 r cs) : RowOf w0 w base v (xs ++ [r]) := by
  refine ⟨css ++ [cs], h, by simp [hl], fun j x c hx hc => ?_⟩
  by_cases hj : j < xs.length
  · rw [List.getElem?_append_left hj] at hx
    rw [List.getElem?_append_left (by omega)] at hc
    exact hK j x c hx hc
  · rw [List.getElem?_append_right (by omega)] at hx
    rw [List.getElem?_append_right (by omega), hl] at hc
    cases hn : j - xs.length with
    | zero => rw [hn] at hx hc; simp at hx hc; subst hx hc; exact hr
    | succ m => rw [hn] at hx; simp at hx
/-- The map: an entry a key, no two values in one block. -/
def Ahead (w0 w : World) (base b n : Nat) (fam : Int → List S25) : Prop :=
  ∃ (es : Array MapEntry) (clk : Nat), w.heap[b]? = some (.map es clk) ∧ base ≤ b ∧
    es.toList.Pairwise (fun e e' => e.key ≠ e'.key ∧ ∀ k, e.val.ownBlock = some k → e'.val.ownBlock ≠ some k) ∧
    (∀ e ∈ es.toList, ∃ f, e.key = .int .i64 f ∧ RowOf w0 w base e.val (fam f)) ∧
    (∀ f, (∀ e ∈ es.toList, e.key ≠ .int .i64 f) → fam f = []) ∧ ∀ f, (fam f).length ≤ n
theorem Ahead.below {w0 w w1 : World} {base b n : Nat} {fam : Int → List S25} (h : Ahead w0 w base b n fam) (hb : Below w.heap.size w w1) : Ahead w0 w1 base b n fam := by
  obtain ⟨es, clk, h1, h2, h3, h4, h5, h6⟩ := h
  refine ⟨es, clk, (hb.block b (Array.getElem?_eq_some_iff.1 h1).1).trans h1, h2, h3, fun e he => ?_, h5, h6⟩
  obtain ⟨f, hf, hR⟩ := h4 e he
  exact ⟨f, hf, hR.move fun k hk => hb.block k (hR.cells hk).2.1⟩
theorem Ahead.made (w0 w : World) {base : Nat} (hb : base ≤ w.heap.size) : Ahead w0 (w.alloc (.map #[] 0)) base w.heap.size 0 (fun _ => []) :=
  ⟨#[], 0, Array.getElem?_push_size, hb, by simp, by simp, fun _ _ => rfl, fun _ => Nat.le_refl _⟩
theorem find_int (n : Int) : ∀ (es : List MapEntry) (i : Nat), (∀ e ∈ es, ∃ f, e.key = .int .i64 f) →
    (Instr.findNow (.int .i64) (.int .i64 n) es i = some none ∧ ∀ e ∈ es, e.key ≠ .int .i64 n) ∨ ∃ j e0, Instr.findNow (.int .i64) (.int .i64 n) es i = some (some (i + j, e0.val)) ∧ es[j]? = some e0 ∧ e0.key = .int .i64 n := by
  intro es
  induction es with
  | nil => intro i _; exact .inl ⟨rfl, by simp⟩
  | cons y es ih =>
    intro i h
    obtain ⟨m, hkey⟩ := h y (by simp)
    by_cases hnm : n = m
    · exact .inr ⟨0, y, by simp [Instr.findNow, Instr.sameNow, hkey, hnm], rfl, by rw [hkey, hnm]⟩
    · have hstep : Instr.findNow (.int .i64) (.int .i64 n) (y :: es) i = Instr.findNow (.int .i64) (.int .i64 n) es (i + 1) := by
        have hb : (n == m) = false := by simpa using hnm
        simp [Instr.findNow, Instr.sameNow, hkey, hb]
      rw [hstep]
      rcases ih (i + 1) (fun e he => h e (by simp [he])) with ⟨h1, h2⟩ | ⟨j, e0, h1, h2, h3⟩
      · refine .inl ⟨h1, fun e he => ?_⟩
        rcases List.mem_cons.1 he with rfl | he
        · rw [hkey]; intro e; injection e with _ e; exact hnm e.symm
        · exact h2 e he
      · exact .inr ⟨j + 1, e0, by rw [h1]; congr 3; omega, by simpa using h2, h3⟩
theorem check_int {P : Program} {kt : TypeId} {k : IntKind} (hu : P.underlying kt = some (.int k)) (e : Bool) (n : Nat) (kd : IntKind) (x : Int) (w : World) : (Instr.checkKey e (n + 1) kt (.int kd x)).run P w = .ok () w := by
  unfold Instr.checkKey
  simp [run_underlying hu, Result.andThen]
section
variable {P : Program} {t et kt : TypeId} (hu : P.underlying t = some (.map kt et)) (hku : P.underlying kt = some (.int .i64))
include hu hku
theorem Ahead.lookup {w0 w : World} {base b n : Nat} {fam : Int → List S25} (h : Ahead w0 w base b n fam) (hz : ∀ W, (zeroValue et).run P W = .ok (.slice none 0 0) W) (f : Int) :
    ∃ v, (∀ W, Below w.heap.size w W → (Instr.lookup t (.map (some b)) (.int .i64 f) false).run P W = .ok v W) ∧ RowOf w0 w base v (fam f) ∧
      ∀ (W w1 : World) (v1 : Value) (r : S25), Below w.heap.size w W → W.grownBy w1 v.ownBlock → RowOf w0 w1 base v1 (fam f ++ [r]) → (v1.ownBlock = v.ownBlock ∨ ∃ b', v1.ownBlock = some b' ∧ W.heap.size ≤ b') →
        ∃ o, (Instr.mapUpdate t (.map (some b)) (.int .i64 f) v1).run P w1 = .ok () { w1 with heap := w1.heap.setIfInBounds b o } ∧ Ahead w0 { w1 with heap := w1.heap.setIfInBounds b o } base b (n + 1) (fun g => if g = f then fam f ++ [r] else fam g) := by
  obtain ⟨es, clk, h1, h2, h3, h4, h5, h6⟩ := h
  have hck := fun W => check_int hku es.isEmpty 9999 .i64 f W
  have hbl : b < w.heap.size := (Array.getElem?_eq_some_iff.1 h1).1
  have hget : ∀ W, Below w.heap.size w W → (getObj b).run P W = .ok (.map es clk) W := fun W hW => by simp [getObj, Sem.run, (hW.block b hbl).trans h1]
  -- what stays behind the append, and the store
  have stay : ∀ {W w1 : World} {v : Value}, Below w.heap.size w W → W.grownBy w1 v.ownBlock → (∀ k, v.ownBlock = some k → ∃ c, w.heap[k]? = some (.cells c 25 (0, 0))) → w1.heap[b]? = some (.map es clk) ∧ ∀ k, k < w.heap.size → v.ownBlock ≠ some k → w1.heap[k]? = w.heap[k]? := by
    intro W w1 v hW hg hv
    have hlt : ∀ k, k < w.heap.size → k < W.heap.size := fun k hk => Nat.lt_of_lt_of_le hk hW.size
    refine ⟨(hg.block b (hlt b hbl) fun e => ?_).trans ((hW.block b hbl).trans h1), fun k hk hne => (hg.block k (hlt k hk) fun e => hne e.symm).trans (hW.block k hk)⟩
    obtain ⟨c, hc⟩ := hv b e.symm
    rw [hc] at h1; cases h1
  have setO : ∀ {w1 : World} {o : Obj} {k : Nat}, k ≠ b → (({ w1 with heap := w1.heap.setIfInBounds b o } : World).heap)[k]? = w1.heap[k]? := fun {w1 o k} hk => by simp [Array.getElem?_setIfInBounds_ne (Ne.symm hk)]
  have hlen : ∀ (r : S25) (g : Int), ((fun g => if g = f then fam f ++ [r] else fam g) g).length ≤ n + 1 := by
    intro r g; dsimp only; split
    · have := h6 f; simp; omega
    · have := h6 g; omega
  rcases find_int f es.toList 0 (fun e he => (h4 e he).imp fun _ h => h.1) with ⟨g1, g2⟩ | ⟨j, e0, g1, g2, g3⟩
  · refine ⟨.slice none 0 0, fun W hW => by simp [Instr.lookup, run_underlying hu, hget W hW, hck W, Instr.findKey, run_underlying hku, g1, hz, Result.andThen], by rw [h5 f g2]; exact .nil _ _ _, ?_⟩
    intro W w1 v1 r hW hg hv1 hat
    obtain ⟨s1, s2⟩ := stay hW hg (fun k hk => by cases hk)
    have hget1 : (getObj b).run P w1 = .ok (.map es clk) w1 := by simp [getObj, Sem.run, s1]
    have hck1 := check_int hku false 9999 .i64 f w1
    have hset := MapKept.run_setObj_map (P := P) (.map (es.push ⟨.int .i64 f, v1, clk⟩) (clk + 1)) s1
    have hb1 : b < w1.heap.size := (Array.getElem?_eq_some_iff.1 s1).1
    have nb : ∀ k, v1.ownBlock = some k → k ≠ b := fun k hk e => by
      obtain ⟨⟨c, hc⟩, _⟩ := hv1.cells hk
      rw [e, s1] at hc; cases hc
    have hnew : ∀ k, v1.ownBlock = some k → w.heap.size ≤ k := fun k hk => by
      rcases hat with hat | ⟨b', hb', hle⟩
      · rw [hat] at hk; cases hk
      · rw [hb'] at hk; cases hk; exact Nat.le_trans hW.size hle
    refine ⟨.map (es.push ⟨.int .i64 f, v1, clk⟩) (clk + 1), by simp [Instr.mapUpdate, run_underlying hu, hget1, hck1, Instr.findKey, run_underlying hku, g1, hset, Result.andThen], es.push ⟨.int .i64 f, v1, clk⟩, clk + 1, by simp [hb1], h2, ?_, ?_, ?_, hlen r⟩
    · rw [Array.toList_push, List.pairwise_append]
      refine ⟨h3, by simp, fun e he e' he' => ?_⟩
      rw [List.mem_singleton.1 he']
      refine ⟨g2 e he, fun k hk hk' => ?_⟩
      obtain ⟨_, _, hR⟩ := h4 e he
      have := (hR.cells hk).2.1
      have := hnew k hk'
      omega
    · intro e he
      rw [Array.toList_push, List.mem_append, List.mem_singleton] at he
      rcases he with he | rfl
      · obtain ⟨f', hf', hR⟩ := h4 e he
        have hne : f' ≠ f := fun h => g2 e he (by rw [hf', h])
        refine ⟨f', hf', ?_⟩
        dsimp only
        rw [if_neg hne]
        refine hR.move fun k hk => ?_
        obtain ⟨⟨c, hc⟩, hk2, _⟩ := hR.cells hk
        have hkb : k ≠ b := fun h => by rw [h, h1] at hc; cases hc
        rw [setO hkb]
        exact s2 k hk2 (by simp [Value.ownBlock])
      · refine ⟨f, rfl, ?_⟩
        dsimp only
        rw [if_pos rfl]
        exact hv1.move fun k hk => setO (nb k hk)
    · intro g hg'
      have hne : g ≠ f := fun h => hg' ⟨.int .i64 f, v1, clk⟩ (by simp) (by rw [h])
      dsimp only
      rw [if_neg hne]
      exact h5 g fun e he => hg' e (by rw [Array.toList_push]; exact List.mem_append_left _ he)
  · have hm0 : e0 ∈ es.toList := List.mem_of_getElem? g2
    obtain ⟨f0, hf0, hR0⟩ := h4 e0 hm0
    have : f0 = f := by rw [g3] at hf0; injection hf0 with _ h; exact h.symm
    subst this
    refine ⟨e0.val, fun W hW => by simp [Instr.lookup, run_underlying hu, hget W hW, hck W, Instr.findKey, run_underlying hku, g1, Result.andThen], hR0, ?_⟩
    intro W w1 v1 r hW hg hv1 hat
    obtain ⟨s1, s2⟩ := stay hW hg (fun k hk => (hR0.cells hk).1)
    have hget1 : (getObj b).run P w1 = .ok (.map es clk) w1 := by simp [getObj, Sem.run, s1]
    have hck1 := check_int hku false 9999 .i64 f0 w1
    have hset := MapKept.run_setObj_map (P := P) (.map (es.modify j fun e => { e with key := .int .i64 f0, val := v1 }) clk) s1
    have hb1 : b < w1.heap.size := (Array.getElem?_eq_some_iff.1 s1).1
    have hjl : j < es.toList.length := (List.getElem?_eq_some_iff.1 g2).1
    have hj : es[j]? = some e0 := by simpa using g2
    have hlist : (es.modify j (fun e' => { e' with key := .int .i64 f0, val := v1 })).toList = es.toList.set j { e0 with key := .int .i64 f0, val := v1 } := by rw [Array.toList_modify, ChangeMaps.modify_eq_set _ _ _ _ g2]
    have nb : ∀ k, v1.ownBlock = some k → k ≠ b := fun k hk e => by
      obtain ⟨⟨c, hc⟩, _⟩ := hv1.cells hk
      rw [e, s1] at hc; cases hc
    have hkey : ((es[j]?).map (·.key)).getD (Value.int .i64 f0) = .int .i64 f0 := by rw [hj]; exact g3
    have hst : (Instr.keyThatStays (.int .i64 f0) (.int .i64 f0)).run P w1 = .ok (.int .i64 f0) w1 := by
      have : Instr.sameBits 10000 (.int .i64 f0) (.int .i64 f0) = true := by
        show Instr.sameBits (9999 + 1) (.int .i64 f0) (.int .i64 f0) = true
        simp [Instr.sameBits]
      simp [Instr.keyThatStays, this]
    have other : ∀ i e, es.toList[i]? = some e → i ≠ j → e.key ≠ .int .i64 f0 ∧ ∀ k, e.val.ownBlock = some k → e0.val.ownBlock ≠ some k := by
      intro i e hi hij
      have hil : i < es.toList.length := (List.getElem?_eq_some_iff.1 hi).1
      have ei : es.toList[i] = e := (List.getElem?_eq_some_iff.1 hi).2
      have ej : es.toList[j] = e0 := (List.getElem?_eq_some_iff.1 g2).2
      rcases Nat.lt_or_gt_of_ne hij with hl | hl
      · have := List.pairwise_iff_getElem.1 h3 i j hil hjl hl
        rw [ei, ej] at this
        exact ⟨by rw [← g3]; exact this.1, this.2⟩
      · have := List.pairwise_iff_getElem.1 h3 j i hjl hil hl
        rw [ei, ej] at this
        exact ⟨by rw [← g3]; exact this.1.symm, fun k hk hk' => this.2 k hk' hk⟩
    have newNot : ∀ i e, es.toList[i]? = some e → i ≠ j → ∀ k, e.val.ownBlock = some k → v1.ownBlock ≠ some k := by
      intro i e hi hij k hk hk'
      rcases hat with hat | ⟨b', hb', hle⟩
      · exact (other i e hi hij).2 k hk (hat ▸ hk')
      · obtain ⟨_, _, hR⟩ := h4 e (List.mem_of_getElem? hi)
        have := (hR.cells hk).2.1
        rw [hb'] at hk'; cases hk'
        have := hW.size
        omega
    refine ⟨.map (es.modify j fun e => { e with key := .int .i64 f0, val := v1 }) clk, ?_, es.modify j fun e => { e with key := .int .i64 f0, val := v1 }, clk, by simp [hb1], h2, ?_, ?_, ?_, hlen r⟩
    · simp only [Instr.mapUpdate, Sem.run_bind, run_underlying hu, hget1, hck1, Instr.findKey, run_underlying hku, g1, Result.andThen, Sem.run_pure, Nat.zero_add]
      rw [hkey]
      simp [hst, hset, Result.andThen]
    · rw [hlist, List.pairwise_iff_getElem]
      intro i i' hi hi' hlt
      rw [List.length_set] at hi hi'
      rw [List.getElem_set, List.getElem_set]
      split
      · rename_i hij
        rw [if_neg (by omega)]
        obtain ⟨o1, o2⟩ := other i' _ (List.getElem?_eq_getElem hi') (by omega)
        exact ⟨fun h => o1 h.symm, fun k hk hk' => newNot i' _ (List.getElem?_eq_getElem hi') (by omega) k hk' hk⟩
      · rename_i hij
        split
        · obtain ⟨o1, o2⟩ := other i _ (List.getElem?_eq_getElem hi) (by omega)
          exact ⟨o1, fun k hk hk' => newNot i _ (List.getElem?_eq_getElem hi) (by omega) k hk hk'⟩
        · exact List.pairwise_iff_getElem.1 h3 i i' hi hi' hlt
    · intro e he
      rw [hlist] at he
      obtain ⟨i, hi, ex⟩ := List.getElem_of_mem he
      rw [List.getElem_set] at ex
      rw [List.length_set] at hi
      split at ex
      · subst ex
        refine ⟨f0, rfl, ?_⟩
        dsimp only
        rw [if_pos rfl]
        exact hv1.move fun k hk => setO (nb k hk)
      · rename_i hij
        have hi2 : es.toList[i]? = some e := by rw [List.getElem?_eq_getElem hi, ex]
        obtain ⟨o1, o2⟩ := other i e hi2 (fun h => hij h.symm)
        obtain ⟨f', hf', hR⟩ := h4 e (List.mem_of_getElem? hi2)
        have hne : f' ≠ f0 := fun h => o1 (by rw [hf', h])
        refine ⟨f', hf', ?_⟩
        dsimp only
        rw [if_neg hne]
        refine hR.move fun k hk => ?_
        obtain ⟨⟨c, hc⟩, hk2, _⟩ := hR.cells hk
        have hkb : k ≠ b := fun h => by rw [h, h1] at hc; cases hc
        rw [setO hkb]
        exact s2 k hk2 (o2 k hk)
    · intro g hg'
      have hne : g ≠ f0 := fun h => hg' { e0 with key := .int .i64 f0, val := v1 } (by rw [hlist]; exact List.mem_iff_getElem.2 ⟨j, by simpa using hjl, by simp⟩) (by rw [h])
      dsimp only
      rw [if_neg hne]
      refine h5 g fun e he hk => ?_
      obtain ⟨i, hi, ex⟩ := List.getElem_of_mem he
      by_cases hij : i = j
      · subst hij
        have : e = e0 := by rw [← ex]; exact (List.getElem?_eq_some_iff.1 g2).2
        rw [this, g3] at hk
        injection hk with _ hk
        exact hne hk.symm
      · refine hg' e ?_ hk
        rw [hlist]
        exact List.mem_iff_getElem.2 ⟨i, by simpa using hi, by rw [List.getElem_set_ne (Ne.symm hij)]; exact ex⟩
end
section
variable {P : Program} {ops : Array Oper} {rest : List Oper} {o : Oper} {a : Act} {Q : Exit → Act → World → Prop}
theorem lookup_event {W : World} (hgd : o.guard = none) (m x : Operand) (t : TypeId) (hop : o.op = .lookup t m x false) {b : Nat} {f : Int} {v : Value} (hm : a.eval m = .map (some b)) (hx : a.eval x = .int .i64 f) (hrun : (Instr.lookup t (.map (some b)) (.int .i64 f) false).run P W = .ok v W) (h : wpList P ops Q rest (a.put o.dst v) W) : wpList P ops Q (o :: rest) a W :=
  Kd.event_run hgd (by simp [execOp, hop, hm, hx, hrun, Result.andThen]) h
theorem makeMap_event {W : World} (hgd : o.guard = none) (t : TypeId) (hop : o.op = .makeMap t none) (h : wpList P ops Q rest (a.put o.dst (.map (some W.heap.size))) (W.alloc (.map #[] 0))) : wpList P ops Q (o :: rest) a W :=
  Kd.event_run hgd (by simp [execOp, hop, Instr.makeMap, Result.andThen]) h
theorem update_event {W W1 : World} (hgd : o.guard = none) (m x u : Operand) (t : TypeId) (hop : o.op = .mapUpdate t m x u) {b : Nat} {f : Int} {v : Value} (hm : a.eval m = .map (some b)) (hx : a.eval x = .int .i64 f) (hv : a.eval u = v) (hrun : (Instr.mapUpdate t (.map (some b)) (.int .i64 f) v).run P W = .ok () W1) (h : wpList P ops Q rest (a.put o.dst undef) W1) : wpList P ops Q (o :: rest) a W := by
  refine wpList_plain hgd fun K' hK' => ?_
  unfold Oper.wp
  simp [execOp, hop, hm, hx, hv, hrun, Result.andThen]
  exact hK' _ _ h
end
theorem below_put {B : Nat} {w w1 : World} (h : Below B w w1) {b : Nat} (hb : B ≤ b) (o : Obj) : Below B w { w1 with heap := w1.heap.setIfInBounds b o } := by
  refine ⟨h.os, h.tape, h.output, ?_, fun k hk => ?_⟩
  · show _ ≤ (w1.heap.setIfInBounds b o).size
    rw [Array.size_setIfInBounds]; exact h.size
  · show (w1.heap.setIfInBounds b o)[k]? = _
    rw [Array.getElem?_setIfInBounds_ne (by omega)]; exact h.block k hk
section
variable {P : Program} {ops : Array Oper} {rest : List Oper} {o : Oper} {a : Act} {Q : Exit → Act → World → Prop}
theorem map_event {W : World} (hgd : o.guard = none) (t : TypeId) (hop : o.op = .makeMap t none) (h : ∀ g w1, W.heap.size ≤ g → Below W.heap.size W w1 → (∀ w0 base, base ≤ W.heap.size → Ahead w0 w1 base g 0 (fun _ => [])) → wpList P ops Q rest (a.put o.dst (.map (some g))) w1) : wpList P ops Q (o :: rest) a W :=
  makeMap_event hgd t hop (h _ _ (Nat.le_refl _) (below_alloc (Below.refl _ _) _) fun w0 base hb => Ahead.made w0 W hb)
theorem gate_update {W : World} {t : TypeId} {m x v : Operand} (_ho : o.op = .mapUpdate t m x v) (h : wpList P ops Q (o :: rest) a W) : wpList P ops Q (o :: rest) a W := h
end
theorem zero26 (W : World) : (zeroValue 26).run Tryz.prog W = .ok (.slice none 0 0) W := by
  have h : (Tryz.prog.info? 26).bind (·.zero) = some (.slice none 0 0) := by kernel_rfl
  cases hi : Tryz.prog.info? 26 with
  | none => rw [hi] at h; cases h
  | some j =>
    rw [hi] at h
    have hz : j.zero = some (.slice none 0 0) := h
    simp [zeroValue, typeInfo, hi, hz, Result.andThen]
/-- A round's two boxes: l's record, the family's record. -/
def Fy (w W : World) (g g' : Nat) (x : S25) (A : Option Addr) (c : Nat) (y : S25) (B : Option Addr) (d : Nat) : Prop :=
  W.heap[g]? = some (.cells #[.int .i64 x.f0, .int .i64 x.f1, .int .i64 x.f2, .int .i64 x.f3, .slice A x.f4.length c, .string x.f5, .string x.f6, .float .f64 x.f7] 25 (0, 0)) ∧ W.heap[g']? = some (.cells #[.int .i64 y.f0, .int .i64 y.f1, .int .i64 y.f2, .int .i64 y.f3, .slice B y.f4.length d, .string y.f5, .string y.f6, .float .f64 y.f7] 25 (0, 0)) ∧ Below w.heap.size w W
section
variable {w W W1 : World} {g g' : Nat} {x y : S25} {A B : Option Addr} {c d : Nat}
theorem Fy.below (h : Fy w W g g' x A c y B d) (hb : Below W.heap.size W W1) : Fy w W1 g g' x A c y B d := ⟨blk_below h.1 hb, blk_below h.2.1 hb, below_step h.2.2 hb⟩
theorem Fy.all (h : Fy w W g g' x A c y B d) :
    W.cell? ⟨g, 0, none⟩ = some (.int .i64 x.f0) ∧ W.cell? ⟨g, 1, none⟩ = some (.int .i64 x.f1) ∧ W.cell? ⟨g, 2, none⟩ = some (.int .i64 x.f2) ∧ W.cell? ⟨g, 3, none⟩ = some (.int .i64 x.f3) ∧ W.cell? ⟨g, 4, none⟩ = some (.slice A x.f4.length c) ∧ W.cell? ⟨g, 5, none⟩ = some (.string x.f5) ∧ W.cell? ⟨g, 6, none⟩ = some (.string x.f6) ∧ W.cell? ⟨g, 7, none⟩ = some (.float .f64 x.f7) ∧
    W.cell? ⟨g', 0, none⟩ = some (.int .i64 y.f0) ∧ W.cell? ⟨g', 1, none⟩ = some (.int .i64 y.f1) ∧ W.cell? ⟨g', 2, none⟩ = some (.int .i64 y.f2) ∧ W.cell? ⟨g', 3, none⟩ = some (.int .i64 y.f3) ∧ W.cell? ⟨g', 4, none⟩ = some (.slice B y.f4.length d) ∧ W.cell? ⟨g', 5, none⟩ = some (.string y.f5) ∧ W.cell? ⟨g', 6, none⟩ = some (.string y.f6) ∧ W.cell? ⟨g', 7, none⟩ = some (.float .f64 y.f7) :=
  ⟨(blk_cell h.1 0).trans rfl, (blk_cell h.1 1).trans rfl, (blk_cell h.1 2).trans rfl, (blk_cell h.1 3).trans rfl, (blk_cell h.1 4).trans rfl, (blk_cell h.1 5).trans rfl, (blk_cell h.1 6).trans rfl, (blk_cell h.1 7).trans rfl, (blk_cell h.2.1 0).trans rfl, (blk_cell h.2.1 1).trans rfl, (blk_cell h.2.1 2).trans rfl, (blk_cell h.2.1 3).trans rfl, (blk_cell h.2.1 4).trans rfl, (blk_cell h.2.1 5).trans rfl, (blk_cell h.2.1 6).trans rfl, (blk_cell h.2.1 7).trans rfl⟩
end
theorem table_Check.calls (k : Nat) (A0 : Option Addr) (c0 : Nat) (l0 : List (S25)) (r1 : Int) (r2 : Int) (w : World) (hr0 : Kd.C k25 w A0 l0.length l0) (hc0 : l0.length ≤ c0) (h : table_Check.f k l0 = some (r1, r2)) :
  Calls Tryz.prog 21 #[.slice A0 l0.length c0] w fun e w' => e = .returned (.tuple #[.int .i64 r1, .int .i64 r2]) ∧ Below w.heap.size w w' := by
 have hu25 := Tryz.underlying25
 have HR0 := Aside0.mk hr0
 have HC0 := Aside0.mk hc0
 clear hr0 hc0
 have HB := Aside0.mk (Below.refl w.heap.size w)
 have H : (if (l0.length : Int) > 4096 then (some (0, 3)) else (table_Check.l0 k l0 l0 (l0.length : Int) 0)) = some (r1, r2) := h
 clear h
 by_cases c2 : (l0.length : Int) > 4096
 ·rw [if_pos c2] at H
  have c2b0 := decide_eq_true c2
  have c2b1 : decide (4096 < l0.length) = true := decide_eq_true (by omega)
  clear c2
  simp only [Option.some.injEq, Prod.mk.injEq] at H
  obtain ⟨rfl, rfl⟩ := H
  go_enter Tryz.func21, Tryz.ntmps21
  go_wp2
  go_ret2
  exact ⟨sqE', sqB⟩
 rw [if_neg c2] at H
 have c2b0 := decide_eq_false c2
 have c2b1 : decide (4096 < l0.length) = false := decide_eq_false (by omega)
 have HL := Aside0.mk (show l0.length ≤ 4096 by omega)
 clear c2
 have H' := Aside0.mk H
 clear H
 go_enter Tryz.func21, Tryz.ntmps21
 go_wp2
 go_loopg [18] k (fun kq v18 w' => ∃ (x18_1 : Int), v18 = .int .i64 x18_1 ∧ Aside0 (table_Check.l0 kq l0 l0 (l0.length : Int) x18_1 = some (r1, r2)) ∧ Aside0 (kq ≤ k) ∧ Aside0 (Below w.heap.size w w'))
 case atStart => exact ⟨(0), sqE, H', ⟨Nat.le_refl _⟩, ⟨sqB⟩⟩
 case round =>
  clear H'
  try clear c2
  try clear c2b0
  try clear c2b1
  obtain ⟨x18_1, rfl, HA, HK1, HB⟩ := hrel
  cases gk with
  | zero => exact absurd HA.out (by simp [table_Check.l0])
  | succ k1 =>
   have H := HA.out
   clear HA
   simp only [table_Check.l0] at H
   by_cases c3 : x18_1 < (l0.length : Int)
   ·rw [if_pos c3] at H
    have c3b0 := decide_eq_true c3
    clear c3
    by_cases c4 : 0 ≤ x18_1
    case neg => rw [if_neg c4] at H; exact absurd H (by simp)
    rw [if_pos c4] at H
    have c4b0 := decide_eq_true c4
    clear c4
    by_cases c5 : x18_1 < (l0.length : Int)
    case neg => rw [if_neg c5] at H; exact absurd H (by simp)
    rw [if_pos c5] at H
    have c5b0 := decide_eq_true c5
    clear c5
    obtain ⟨t197, A6, H⟩ := sqO H
    try dsimp only at H
    by_cases c7 : t197 = 0
    case neg =>
     rw [if_neg c7] at H
     have c7b0 := beq_eq_false_iff_ne.mpr c7
     have c7b1 := bne_iff_ne.mpr c7
     simp only [Option.some.injEq, Prod.mk.injEq] at H
     obtain ⟨rfl, rfl⟩ := H
     have p195 : 0 ≤ (x18_1 : Int) := sqD
     have q195 : x18_1 < (l0.length : Int) := sqD
     obtain ⟨ad195, A195_4, c195_4, e195, hx195_0, hx195_1, hx195_2, hx195_3, hx195_4, hx195_5, hx195_6, hx195_7, hl195_4, hi195_4⟩ := at_T25b HR0.out HB.out x18_1 p195 q195
     cases e195
     have HR195_4 := Aside0.mk hi195_4
     have HC195_4 := Aside0.mk hl195_4
     clear hi195_4 hl195_4
     replace p195 := eq_true p195
     replace q195 := eq_true q195
     go_wp2_with (first | ((with_reducible refine gate_dst (N := 5) rfl ?_); refine box_event ?hg (N := 5) ?hd (cs := #[.int .i64 0, .int .i64 0, .int .i64 0, .int .i64 0, .slice none 0 0, .string (⟨#[]⟩ : ByteArray), .string (⟨#[]⟩ : ByteArray), .float .f64 (0 : Nat)]) (t := 25) ?hr ?_; (case hd => rfl); (case hg => rfl); (case hr => first | (go_simp; done) | (go_simp; rfl)); intro gb196 hg w11 hbox hb; have n0_ := Aside0.mk (below_step sqB hb); have n1_ := Aside0.mk (hbox); have n2_ := Aside0.mk ((by rw [hg]; exact (below_size sqB) : w.heap.size ≤ gb196)); have n3_ := Aside0.mk ((by rw [hg]; exact (below_size sqB) : w.heap.size ≤ gb196)); clear HB; have HB := n0_; have BK196 := n1_; have GW196 := n2_; have GE196 := n3_; clear n0_ n1_ n2_ n3_; clear hb hbox hg; obtain ⟨hcz12_0, hcz12_1, hcz12_2, hcz12_3, hcz12_4, hcz12_5, hcz12_6, hcz12_7, hfz12_0, hfz12_1, hfz12_2, hfz12_3, hfz12_4, hfz12_5, hfz12_6, hfz12_7⟩ := box8 BK196.out) | ((with_reducible refine gate_callee (f := 15) rfl ?_); refine goesL_ (some 24) rfl rfl Tryz.func15 (by kernel_rfl) rfl #[.agg #[.int .i64 ((rd_T25 l0 x18_1).f0), .int .i64 ((rd_T25 l0 x18_1).f1), .int .i64 ((rd_T25 l0 x18_1).f2), .int .i64 ((rd_T25 l0 x18_1).f3), .slice A195_4 ((rd_T25 l0 x18_1).f4).length c195_4, .string ((rd_T25 l0 x18_1).f5), .string ((rd_T25 l0 x18_1).f6), .float .f64 ((rd_T25 l0 x18_1).f7)]] rfl sqA ?_; (with_reducible refine (table_Right.calls k1 ((rd_T25 l0 x18_1).f0) ((rd_T25 l0 x18_1).f1) ((rd_T25 l0 x18_1).f2) ((rd_T25 l0 x18_1).f3) _ _ ((rd_T25 l0 x18_1).f4) ((rd_T25 l0 x18_1).f5) ((rd_T25 l0 x18_1).f6) ((rd_T25 l0 x18_1).f7) t197 _ ?side1 ?side2 A6.out).mono ?_); (case side1 => exact Kd.C_below HR195_4.out sqH); (case side2 => exact HC195_4.out); rintro e w13 ⟨rfl, hb⟩; refine ⟨_, rfl, ?_⟩; have n0_ := Aside0.mk (blk_below (g := gb196) (o := .cells #[.int .i64 ((rd_T25 l0 x18_1).f0), .int .i64 ((rd_T25 l0 x18_1).f1), .int .i64 ((rd_T25 l0 x18_1).f2), .int .i64 ((rd_T25 l0 x18_1).f3), .slice A195_4 ((rd_T25 l0 x18_1).f4).length c195_4, .string ((rd_T25 l0 x18_1).f5), .string ((rd_T25 l0 x18_1).f6), .float .f64 ((rd_T25 l0 x18_1).f7)] 25 (0, 0)) (by (with_reducible repeat (first | refine blk_drewN ?_ _ | refine blk_drew ?_ | refine blk_alloc ?_ _)); refine blk_put (cs := #[.int .i64 ((rd_T25 l0 x18_1).f0), .int .i64 ((rd_T25 l0 x18_1).f1), .int .i64 ((rd_T25 l0 x18_1).f2), .int .i64 ((rd_T25 l0 x18_1).f3), .slice A195_4 ((rd_T25 l0 x18_1).f4).length c195_4, .string ((rd_T25 l0 x18_1).f5), .string ((rd_T25 l0 x18_1).f6), .float .f64 (0 : Nat)]) ?_ 7 _ rfl; (with_reducible repeat (first | refine blk_drewN ?_ _ | refine blk_drew ?_ | refine blk_alloc ?_ _)); refine blk_put (cs := #[.int .i64 ((rd_T25 l0 x18_1).f0), .int .i64 ((rd_T25 l0 x18_1).f1), .int .i64 ((rd_T25 l0 x18_1).f2), .int .i64 ((rd_T25 l0 x18_1).f3), .slice A195_4 ((rd_T25 l0 x18_1).f4).length c195_4, .string ((rd_T25 l0 x18_1).f5), .string (⟨#[]⟩ : ByteArray), .float .f64 (0 : Nat)]) ?_ 6 _ rfl; (with_reducible repeat (first | refine blk_drewN ?_ _ | refine blk_drew ?_ | refine blk_alloc ?_ _)); refine blk_put (cs := #[.int .i64 ((rd_T25 l0 x18_1).f0), .int .i64 ((rd_T25 l0 x18_1).f1), .int .i64 ((rd_T25 l0 x18_1).f2), .int .i64 ((rd_T25 l0 x18_1).f3), .slice A195_4 ((rd_T25 l0 x18_1).f4).length c195_4, .string (⟨#[]⟩ : ByteArray), .string (⟨#[]⟩ : ByteArray), .float .f64 (0 : Nat)]) ?_ 5 _ rfl; (with_reducible repeat (first | refine blk_drewN ?_ _ | refine blk_drew ?_ | refine blk_alloc ?_ _)); refine blk_put (cs := #[.int .i64 ((rd_T25 l0 x18_1).f0), .int .i64 ((rd_T25 l0 x18_1).f1), .int .i64 ((rd_T25 l0 x18_1).f2), .int .i64 ((rd_T25 l0 x18_1).f3), .slice none 0 0, .string (⟨#[]⟩ : ByteArray), .string (⟨#[]⟩ : ByteArray), .float .f64 (0 : Nat)]) ?_ 4 _ rfl; (with_reducible repeat (first | refine blk_drewN ?_ _ | refine blk_drew ?_ | refine blk_alloc ?_ _)); refine blk_put (cs := #[.int .i64 ((rd_T25 l0 x18_1).f0), .int .i64 ((rd_T25 l0 x18_1).f1), .int .i64 ((rd_T25 l0 x18_1).f2), .int .i64 0, .slice none 0 0, .string (⟨#[]⟩ : ByteArray), .string (⟨#[]⟩ : ByteArray), .float .f64 (0 : Nat)]) ?_ 3 _ rfl; (with_reducible repeat (first | refine blk_drewN ?_ _ | refine blk_drew ?_ | refine blk_alloc ?_ _)); refine blk_put (cs := #[.int .i64 ((rd_T25 l0 x18_1).f0), .int .i64 ((rd_T25 l0 x18_1).f1), .int .i64 0, .int .i64 0, .slice none 0 0, .string (⟨#[]⟩ : ByteArray), .string (⟨#[]⟩ : ByteArray), .float .f64 (0 : Nat)]) ?_ 2 _ rfl; (with_reducible repeat (first | refine blk_drewN ?_ _ | refine blk_drew ?_ | refine blk_alloc ?_ _)); refine blk_put (cs := #[.int .i64 ((rd_T25 l0 x18_1).f0), .int .i64 0, .int .i64 0, .int .i64 0, .slice none 0 0, .string (⟨#[]⟩ : ByteArray), .string (⟨#[]⟩ : ByteArray), .float .f64 (0 : Nat)]) ?_ 1 _ rfl; (with_reducible repeat (first | refine blk_drewN ?_ _ | refine blk_drew ?_ | refine blk_alloc ?_ _)); refine blk_put (cs := #[.int .i64 0, .int .i64 0, .int .i64 0, .int .i64 0, .slice none 0 0, .string (⟨#[]⟩ : ByteArray), .string (⟨#[]⟩ : ByteArray), .float .f64 (0 : Nat)]) ?_ 0 _ rfl; (with_reducible repeat (first | refine blk_drewN ?_ _ | refine blk_drew ?_ | refine blk_alloc ?_ _)); exact BK196.out) hb); have n1_ := Aside0.mk (below_step sqH hb); clear BK196; clear HB; have BK196 := n0_; have HB := n1_; clear n0_ n1_; (try clear hb); (try clear hb2); (try clear hk); (try clear hi)))
     go_ret2
     exact ⟨sqE', sqH⟩
    rw [if_pos c7] at H
    have c7b0 := beq_iff_eq.mpr c7
    have c7b1 := bne_eq_false_iff_eq.mpr c7
    clear c7
    have H' := Aside0.mk H
    clear H
    have p195 : 0 ≤ (x18_1 : Int) := sqD
    have q195 : x18_1 < (l0.length : Int) := sqD
    obtain ⟨ad195, A195_4, c195_4, e195, hx195_0, hx195_1, hx195_2, hx195_3, hx195_4, hx195_5, hx195_6, hx195_7, hl195_4, hi195_4⟩ := at_T25b HR0.out HB.out x18_1 p195 q195
    cases e195
    have HR195_4 := Aside0.mk hi195_4
    have HC195_4 := Aside0.mk hl195_4
    clear hi195_4 hl195_4
    replace p195 := eq_true p195
    replace q195 := eq_true q195
    go_wp2_with (first | ((with_reducible refine gate_dst (N := 5) rfl ?_); refine box_event ?hg (N := 5) ?hd (cs := #[.int .i64 0, .int .i64 0, .int .i64 0, .int .i64 0, .slice none 0 0, .string (⟨#[]⟩ : ByteArray), .string (⟨#[]⟩ : ByteArray), .float .f64 (0 : Nat)]) (t := 25) ?hr ?_; (case hd => rfl); (case hg => rfl); (case hr => first | (go_simp; done) | (go_simp; rfl)); intro gb196 hg w8 hbox hb; have n0_ := Aside0.mk (below_step sqB hb); have n1_ := Aside0.mk (hbox); have n2_ := Aside0.mk ((by rw [hg]; exact (below_size sqB) : w.heap.size ≤ gb196)); have n3_ := Aside0.mk ((by rw [hg]; exact (below_size sqB) : w.heap.size ≤ gb196)); clear HB; have HB := n0_; have BK196 := n1_; have GW196 := n2_; have GE196 := n3_; clear n0_ n1_ n2_ n3_; clear hb hbox hg; obtain ⟨hcz9_0, hcz9_1, hcz9_2, hcz9_3, hcz9_4, hcz9_5, hcz9_6, hcz9_7, hfz9_0, hfz9_1, hfz9_2, hfz9_3, hfz9_4, hfz9_5, hfz9_6, hfz9_7⟩ := box8 BK196.out) | ((with_reducible refine gate_callee (f := 15) rfl ?_); refine goesL_ (some 24) rfl rfl Tryz.func15 (by kernel_rfl) rfl #[.agg #[.int .i64 ((rd_T25 l0 x18_1).f0), .int .i64 ((rd_T25 l0 x18_1).f1), .int .i64 ((rd_T25 l0 x18_1).f2), .int .i64 ((rd_T25 l0 x18_1).f3), .slice A195_4 ((rd_T25 l0 x18_1).f4).length c195_4, .string ((rd_T25 l0 x18_1).f5), .string ((rd_T25 l0 x18_1).f6), .float .f64 ((rd_T25 l0 x18_1).f7)]] rfl sqA ?_; (with_reducible refine (table_Right.calls k1 ((rd_T25 l0 x18_1).f0) ((rd_T25 l0 x18_1).f1) ((rd_T25 l0 x18_1).f2) ((rd_T25 l0 x18_1).f3) _ _ ((rd_T25 l0 x18_1).f4) ((rd_T25 l0 x18_1).f5) ((rd_T25 l0 x18_1).f6) ((rd_T25 l0 x18_1).f7) t197 _ ?side1 ?side2 A6.out).mono ?_); (case side1 => exact Kd.C_below HR195_4.out sqH); (case side2 => exact HC195_4.out); rintro e w10 ⟨rfl, hb⟩; refine ⟨_, rfl, ?_⟩; have n0_ := Aside0.mk (blk_below (g := gb196) (o := .cells #[.int .i64 ((rd_T25 l0 x18_1).f0), .int .i64 ((rd_T25 l0 x18_1).f1), .int .i64 ((rd_T25 l0 x18_1).f2), .int .i64 ((rd_T25 l0 x18_1).f3), .slice A195_4 ((rd_T25 l0 x18_1).f4).length c195_4, .string ((rd_T25 l0 x18_1).f5), .string ((rd_T25 l0 x18_1).f6), .float .f64 ((rd_T25 l0 x18_1).f7)] 25 (0, 0)) (by (with_reducible repeat (first | refine blk_drewN ?_ _ | refine blk_drew ?_ | refine blk_alloc ?_ _)); refine blk_put (cs := #[.int .i64 ((rd_T25 l0 x18_1).f0), .int .i64 ((rd_T25 l0 x18_1).f1), .int .i64 ((rd_T25 l0 x18_1).f2), .int .i64 ((rd_T25 l0 x18_1).f3), .slice A195_4 ((rd_T25 l0 x18_1).f4).length c195_4, .string ((rd_T25 l0 x18_1).f5), .string ((rd_T25 l0 x18_1).f6), .float .f64 (0 : Nat)]) ?_ 7 _ rfl; (with_reducible repeat (first | refine blk_drewN ?_ _ | refine blk_drew ?_ | refine blk_alloc ?_ _)); refine blk_put (cs := #[.int .i64 ((rd_T25 l0 x18_1).f0), .int .i64 ((rd_T25 l0 x18_1).f1), .int .i64 ((rd_T25 l0 x18_1).f2), .int .i64 ((rd_T25 l0 x18_1).f3), .slice A195_4 ((rd_T25 l0 x18_1).f4).length c195_4, .string ((rd_T25 l0 x18_1).f5), .string (⟨#[]⟩ : ByteArray), .float .f64 (0 : Nat)]) ?_ 6 _ rfl; (with_reducible repeat (first | refine blk_drewN ?_ _ | refine blk_drew ?_ | refine blk_alloc ?_ _)); refine blk_put (cs := #[.int .i64 ((rd_T25 l0 x18_1).f0), .int .i64 ((rd_T25 l0 x18_1).f1), .int .i64 ((rd_T25 l0 x18_1).f2), .int .i64 ((rd_T25 l0 x18_1).f3), .slice A195_4 ((rd_T25 l0 x18_1).f4).length c195_4, .string (⟨#[]⟩ : ByteArray), .string (⟨#[]⟩ : ByteArray), .float .f64 (0 : Nat)]) ?_ 5 _ rfl; (with_reducible repeat (first | refine blk_drewN ?_ _ | refine blk_drew ?_ | refine blk_alloc ?_ _)); refine blk_put (cs := #[.int .i64 ((rd_T25 l0 x18_1).f0), .int .i64 ((rd_T25 l0 x18_1).f1), .int .i64 ((rd_T25 l0 x18_1).f2), .int .i64 ((rd_T25 l0 x18_1).f3), .slice none 0 0, .string (⟨#[]⟩ : ByteArray), .string (⟨#[]⟩ : ByteArray), .float .f64 (0 : Nat)]) ?_ 4 _ rfl; (with_reducible repeat (first | refine blk_drewN ?_ _ | refine blk_drew ?_ | refine blk_alloc ?_ _)); refine blk_put (cs := #[.int .i64 ((rd_T25 l0 x18_1).f0), .int .i64 ((rd_T25 l0 x18_1).f1), .int .i64 ((rd_T25 l0 x18_1).f2), .int .i64 0, .slice none 0 0, .string (⟨#[]⟩ : ByteArray), .string (⟨#[]⟩ : ByteArray), .float .f64 (0 : Nat)]) ?_ 3 _ rfl; (with_reducible repeat (first | refine blk_drewN ?_ _ | refine blk_drew ?_ | refine blk_alloc ?_ _)); refine blk_put (cs := #[.int .i64 ((rd_T25 l0 x18_1).f0), .int .i64 ((rd_T25 l0 x18_1).f1), .int .i64 0, .int .i64 0, .slice none 0 0, .string (⟨#[]⟩ : ByteArray), .string (⟨#[]⟩ : ByteArray), .float .f64 (0 : Nat)]) ?_ 2 _ rfl; (with_reducible repeat (first | refine blk_drewN ?_ _ | refine blk_drew ?_ | refine blk_alloc ?_ _)); refine blk_put (cs := #[.int .i64 ((rd_T25 l0 x18_1).f0), .int .i64 0, .int .i64 0, .int .i64 0, .slice none 0 0, .string (⟨#[]⟩ : ByteArray), .string (⟨#[]⟩ : ByteArray), .float .f64 (0 : Nat)]) ?_ 1 _ rfl; (with_reducible repeat (first | refine blk_drewN ?_ _ | refine blk_drew ?_ | refine blk_alloc ?_ _)); refine blk_put (cs := #[.int .i64 0, .int .i64 0, .int .i64 0, .int .i64 0, .slice none 0 0, .string (⟨#[]⟩ : ByteArray), .string (⟨#[]⟩ : ByteArray), .float .f64 (0 : Nat)]) ?_ 0 _ rfl; (with_reducible repeat (first | refine blk_drewN ?_ _ | refine blk_drew ?_ | refine blk_alloc ?_ _)); exact BK196.out) hb); have n1_ := Aside0.mk (below_step sqH hb); clear BK196; clear HB; have BK196 := n0_; have HB := n1_; clear n0_ n1_; (try clear hb); (try clear hb2); (try clear hk); (try clear hi)))
    go_roundg k1
    case measure => have := HK1.out; omega
    case rel => exact ⟨(wrap64 (x18_1 + 1)), sqE, H', ⟨by have := HK1.out; omega⟩, ⟨sqH⟩⟩
   rw [if_neg c3] at H
   have c3b0 := decide_eq_false c3
   clear c3
   have H' := Aside0.mk H
   clear H
   go_wp2_with ((with_reducible refine gate_dst (N := 30) rfl ?_); refine map_event rfl 77 rfl ?_; intro gm wm hgm hbm hAm; have n0_ := Aside0.mk (below_step sqB hbm); have HGM := Aside0.mk (show w.heap.size ≤ gm from Nat.le_trans (below_size sqB) hgm); have HM := Aside0.mk (hAm w w.heap.size (below_size sqB)); clear HB; have HB := n0_; clear n0_ hgm hbm hAm)
   go_loopg [33] k1 (fun kq v33 w' => ∃ (x33_2 : Int) (fm : Int → List S25), v33 = .int .i64 x33_2 ∧ Aside0 (table_Check.l1 kq fm l0 l0 (l0.length : Int) x33_2 = some (r1, r2)) ∧ Aside0 (kq ≤ k1) ∧ Aside0 (∃ n : Nat, Ahead w w' w.heap.size gm n fm ∧ (n : Int) ≤ x33_2) ∧ Aside0 (Below w.heap.size w w'))
   case atStart => exact ⟨(0), (fun _ => []), sqE, H', ⟨Nat.le_refl _⟩, ⟨0, HM.out, by omega⟩, ⟨sqB⟩⟩
   case round =>
    clear H'
    try clear c2
    try clear c2b0
    try clear c2b1
    try clear c3
    try clear c3b0
    obtain ⟨W0, hW0⟩ : ∃ W0, W0 = wr := ⟨_, rfl⟩
    subst hW0
    obtain ⟨x33_2, fm, rfl, HA, HK2, HM, HBo⟩ := hrel
    have HB := Aside0.mk (Below.refl W0.heap.size W0)
    cases gk with
    | zero => exact absurd HA.out (by simp [table_Check.l1])
    | succ k2 =>
     have H := HA.out
     clear HA
     simp only [table_Check.l1] at H
     by_cases c14 : x33_2 < (l0.length : Int)
     case neg =>
      rw [if_neg c14] at H
      have c14b0 := decide_eq_false c14
      clear c14
      simp only [Option.some.injEq, Prod.mk.injEq] at H
      obtain ⟨rfl, rfl⟩ := H
      go_wp2
      go_ret2
      exact ⟨sqE', below_step HBo.out sqB⟩
     rw [if_pos c14] at H
     have c14b0 := decide_eq_true c14
     clear c14
     by_cases c15 : 0 ≤ x33_2
     case neg => rw [if_neg c15] at H; exact absurd H (by simp)
     rw [if_pos c15] at H
     have HXc15 := Aside0.mk c15
     have c15b0 := decide_eq_true c15
     clear c15
     by_cases c16 : x33_2 < (l0.length : Int)
     case neg => rw [if_neg c16] at H; exact absurd H (by simp)
     rw [if_pos c16] at H
     have HXc16 := Aside0.mk c16
     have c16b0 := decide_eq_true c16
     clear c16
     obtain ⟨t200, A17, H⟩ := sqO H
     try dsimp only at H
     obtain ⟨n, hA1, hn⟩ := HM.out
     obtain ⟨vm, hlk, hrow, hback⟩ := Ahead.lookup Tryz.underlying77 Tryz.underlying3 hA1 zero26 t200
     obtain ⟨Am, cm, evm, hcm, hCm⟩ := hrow.reads HBo.out
     subst evm
     have HF := Aside0.mk (show (fm t200).length ≤ n from by obtain ⟨_, _, _, _, _, _, _, h6⟩ := hA1; exact h6 t200)
     have HLK := Aside0.mk hlk; have HROW := Aside0.mk hrow; have HBK := Aside0.mk hback; have HC204 := Aside0.mk hcm; have HR204 := Aside0.mk hCm; have HNn := Aside0.mk hn
     clear hA1 hn hlk hrow hback hcm hCm
     have H' := Aside0.mk H
     clear H
     have p198 : 0 ≤ (x33_2 : Int) := sqD
     have q198 : x33_2 < (l0.length : Int) := sqD
     obtain ⟨ad198, A198_4, c198_4, e198, hx198_0, hx198_1, hx198_2, hx198_3, hx198_4, hx198_5, hx198_6, hx198_7, hl198_4, hi198_4⟩ := at_T25b HR0.out HBo.out x33_2 p198 q198
     cases e198
     have HK198 := Aside0.mk hi198_4; have HC198 := Aside0.mk hl198_4; have HR198_4 := Aside0.mk (Kd.C_below hi198_4 HBo.out)
     have HC198_4 := Aside0.mk hl198_4
     clear hi198_4 hl198_4
     replace p198 := eq_true p198
     replace q198 := eq_true q198
     go_wp2_with (first | ((with_reducible refine gate_dst (N := 9) rfl ?_); refine box_event ?hg (N := 9) ?hd (cs := #[.int .i64 0, .int .i64 0, .int .i64 0, .int .i64 0, .slice none 0 0, .string (⟨#[]⟩ : ByteArray), .string (⟨#[]⟩ : ByteArray), .float .f64 (0 : Nat)]) (t := 25) ?hr ?_; (case hd => rfl); (case hg => rfl); (case hr => first | (go_simp; done) | (go_simp; rfl)); intro gb199 hg w20 hbox hb; have n0_ := Aside0.mk (below_step sqB hb); have n1_ := Aside0.mk (hbox); have n2_ := Aside0.mk ((by rw [hg]; exact (below_size sqB) : W0.heap.size ≤ gb199)); have n3_ := Aside0.mk ((by rw [hg]; exact (below_size sqB) : W0.heap.size ≤ gb199)); clear HB; have HB := n0_; have BK199 := n1_; have GW199 := n2_; have GE199 := n3_; clear n0_ n1_ n2_ n3_; clear hb hbox hg; obtain ⟨hcz21_0, hcz21_1, hcz21_2, hcz21_3, hcz21_4, hcz21_5, hcz21_6, hcz21_7, hfz21_0, hfz21_1, hfz21_2, hfz21_3, hfz21_4, hfz21_5, hfz21_6, hfz21_7⟩ := box8 BK199.out) | ((with_reducible refine gate_store (t := 25) (p := 9) rfl ?_); refine store_event (t := 25) (p := 9) (v := ?vo_w22) (w1 := ((((((((w20.setCell ⟨gb199, 0, none⟩ (.int .i64 ((rd_T25 l0 x33_2).f0))).setCell ⟨gb199, 1, none⟩ (.int .i64 ((rd_T25 l0 x33_2).f1))).setCell ⟨gb199, 2, none⟩ (.int .i64 ((rd_T25 l0 x33_2).f2))).setCell ⟨gb199, 3, none⟩ (.int .i64 ((rd_T25 l0 x33_2).f3))).setCell ⟨gb199, 4, none⟩ (.slice A198_4 ((rd_T25 l0 x33_2).f4).length c198_4)).setCell ⟨gb199, 5, none⟩ (.string ((rd_T25 l0 x33_2).f5))).setCell ⟨gb199, 6, none⟩ (.string ((rd_T25 l0 x33_2).f6))).setCell ⟨gb199, 7, none⟩ (.float .f64 ((rd_T25 l0 x33_2).f7)))) ?hg ?ho ?hn ?hr ?_; (case ho => rfl); (case hg => rfl); (case hn => rfl); (case hr => first | (go_simp; done) | (go_simp; rfl)); intro w22 hw; have n0_ : Aside0 (w22.heap[gb199]? = some (.cells #[.int .i64 ((rd_T25 l0 x33_2).f0), .int .i64 ((rd_T25 l0 x33_2).f1), .int .i64 ((rd_T25 l0 x33_2).f2), .int .i64 ((rd_T25 l0 x33_2).f3), .slice A198_4 ((rd_T25 l0 x33_2).f4).length c198_4, .string ((rd_T25 l0 x33_2).f5), .string ((rd_T25 l0 x33_2).f6), .float .f64 ((rd_T25 l0 x33_2).f7)] 25 (0, 0))) := ⟨(by rw [hw]; exact (by (with_reducible repeat (first | refine blk_drewN ?_ _ | refine blk_drew ?_ | refine blk_alloc ?_ _)); refine blk_put (cs := #[.int .i64 ((rd_T25 l0 x33_2).f0), .int .i64 ((rd_T25 l0 x33_2).f1), .int .i64 ((rd_T25 l0 x33_2).f2), .int .i64 ((rd_T25 l0 x33_2).f3), .slice A198_4 ((rd_T25 l0 x33_2).f4).length c198_4, .string ((rd_T25 l0 x33_2).f5), .string ((rd_T25 l0 x33_2).f6), .float .f64 (0 : Nat)]) ?_ 7 _ rfl; (with_reducible repeat (first | refine blk_drewN ?_ _ | refine blk_drew ?_ | refine blk_alloc ?_ _)); refine blk_put (cs := #[.int .i64 ((rd_T25 l0 x33_2).f0), .int .i64 ((rd_T25 l0 x33_2).f1), .int .i64 ((rd_T25 l0 x33_2).f2), .int .i64 ((rd_T25 l0 x33_2).f3), .slice A198_4 ((rd_T25 l0 x33_2).f4).length c198_4, .string ((rd_T25 l0 x33_2).f5), .string (⟨#[]⟩ : ByteArray), .float .f64 (0 : Nat)]) ?_ 6 _ rfl; (with_reducible repeat (first | refine blk_drewN ?_ _ | refine blk_drew ?_ | refine blk_alloc ?_ _)); refine blk_put (cs := #[.int .i64 ((rd_T25 l0 x33_2).f0), .int .i64 ((rd_T25 l0 x33_2).f1), .int .i64 ((rd_T25 l0 x33_2).f2), .int .i64 ((rd_T25 l0 x33_2).f3), .slice A198_4 ((rd_T25 l0 x33_2).f4).length c198_4, .string (⟨#[]⟩ : ByteArray), .string (⟨#[]⟩ : ByteArray), .float .f64 (0 : Nat)]) ?_ 5 _ rfl; (with_reducible repeat (first | refine blk_drewN ?_ _ | refine blk_drew ?_ | refine blk_alloc ?_ _)); refine blk_put (cs := #[.int .i64 ((rd_T25 l0 x33_2).f0), .int .i64 ((rd_T25 l0 x33_2).f1), .int .i64 ((rd_T25 l0 x33_2).f2), .int .i64 ((rd_T25 l0 x33_2).f3), .slice none 0 0, .string (⟨#[]⟩ : ByteArray), .string (⟨#[]⟩ : ByteArray), .float .f64 (0 : Nat)]) ?_ 4 _ rfl; (with_reducible repeat (first | refine blk_drewN ?_ _ | refine blk_drew ?_ | refine blk_alloc ?_ _)); refine blk_put (cs := #[.int .i64 ((rd_T25 l0 x33_2).f0), .int .i64 ((rd_T25 l0 x33_2).f1), .int .i64 ((rd_T25 l0 x33_2).f2), .int .i64 0, .slice none 0 0, .string (⟨#[]⟩ : ByteArray), .string (⟨#[]⟩ : ByteArray), .float .f64 (0 : Nat)]) ?_ 3 _ rfl; (with_reducible repeat (first | refine blk_drewN ?_ _ | refine blk_drew ?_ | refine blk_alloc ?_ _)); refine blk_put (cs := #[.int .i64 ((rd_T25 l0 x33_2).f0), .int .i64 ((rd_T25 l0 x33_2).f1), .int .i64 0, .int .i64 0, .slice none 0 0, .string (⟨#[]⟩ : ByteArray), .string (⟨#[]⟩ : ByteArray), .float .f64 (0 : Nat)]) ?_ 2 _ rfl; (with_reducible repeat (first | refine blk_drewN ?_ _ | refine blk_drew ?_ | refine blk_alloc ?_ _)); refine blk_put (cs := #[.int .i64 ((rd_T25 l0 x33_2).f0), .int .i64 0, .int .i64 0, .int .i64 0, .slice none 0 0, .string (⟨#[]⟩ : ByteArray), .string (⟨#[]⟩ : ByteArray), .float .f64 (0 : Nat)]) ?_ 1 _ rfl; (with_reducible repeat (first | refine blk_drewN ?_ _ | refine blk_drew ?_ | refine blk_alloc ?_ _)); refine blk_put (cs := #[.int .i64 0, .int .i64 0, .int .i64 0, .int .i64 0, .slice none 0 0, .string (⟨#[]⟩ : ByteArray), .string (⟨#[]⟩ : ByteArray), .float .f64 (0 : Nat)]) ?_ 0 _ rfl; (with_reducible repeat (first | refine blk_drewN ?_ _ | refine blk_drew ?_ | refine blk_alloc ?_ _)); exact BK199.out))⟩; have n1_ : Aside0 (Below W0.heap.size W0 w22) := ⟨(by rw [hw]; exact sqH)⟩; clear hw; clear BK199; clear HB; have BK199 := n0_; have HB := n1_; clear n0_ n1_; obtain ⟨hcz23_0, hcz23_1, hcz23_2, hcz23_3, hcz23_4, hcz23_5, hcz23_6, hcz23_7, hfz23_0, hfz23_1, hfz23_2, hfz23_3, hfz23_4, hfz23_5, hfz23_6, hfz23_7⟩ := box8 BK199.out) | ((with_reducible refine gate_callee (f := 32) rfl ?_); refine goesL_ (some 40) rfl rfl Tryz.func32 (by kernel_rfl) rfl #[.int .i64 ((rd_T25 l0 x33_2).f0)] rfl sqA ?_; (with_reducible refine (table_Family.calls k2 ((rd_T25 l0 x33_2).f0) t200 _ A17.out).mono ?_); rintro e w' ⟨rfl, ⟨nd, rfl⟩⟩; refine ⟨_, rfl, ?_⟩) | ((with_reducible refine gate_dst (N := 43) rfl ?_); refine lookup_event rfl _ _ 77 rfl rfl rfl (HLK.out _ sqH) ?_))
     try simp only [Act.put, List.setIfInBounds_toArray, List.set_cons_zero, List.set_cons_succ]
     go_loopg [45] k2 (fun kq v45 w' => ∃ (x45_3 : Int), v45 = .int .i64 x45_3 ∧ Aside0 (table_Check.l2 kq fm l0 x33_2 t200 l0 (l0.length : Int) x33_2 (fm t200) ((fm t200).length : Int) x45_3 ((rd_T25 l0 x33_2).f0) ((rd_T25 l0 x33_2).f1) ((rd_T25 l0 x33_2).f2) ((rd_T25 l0 x33_2).f3) ((rd_T25 l0 x33_2).f4) ((rd_T25 l0 x33_2).f5) ((rd_T25 l0 x33_2).f6) ((rd_T25 l0 x33_2).f7) = some (r1, r2)) ∧ Aside0 (kq ≤ k2) ∧ Aside0 (w'.heap[gb199]? = some (.cells #[.int .i64 ((rd_T25 l0 x33_2).f0), .int .i64 ((rd_T25 l0 x33_2).f1), .int .i64 ((rd_T25 l0 x33_2).f2), .int .i64 ((rd_T25 l0 x33_2).f3), (.slice A198_4 ((rd_T25 l0 x33_2).f4).length c198_4), .string ((rd_T25 l0 x33_2).f5), .string ((rd_T25 l0 x33_2).f6), .float .f64 ((rd_T25 l0 x33_2).f7)] 25 (0, 0))) ∧ Aside0 (Below W0.heap.size W0 w'))
     case atStart => exact ⟨(0), sqE, H', ⟨Nat.le_refl _⟩, ⟨by (with_reducible repeat (first | refine blk_drewN ?_ _ | refine blk_drew ?_ | refine blk_alloc ?_ _)); exact BK199.out⟩, ⟨sqH⟩⟩
     case round =>
      clear H'
      try clear c2
      try clear c2b0
      try clear c2b1
      try clear c3
      try clear c3b0
      try clear c14
      try clear c14b0
      try clear c15
      try clear c15b0
      try clear c16
      try clear c16b0
      try clear hcz21_0
      try clear hcz21_1
      try clear hcz21_2
      try clear hcz21_3
      try clear hcz21_4
      try clear hcz21_5
      try clear hcz21_6
      try clear hcz21_7
      try clear hcz23_0
      try clear hcz23_1
      try clear hcz23_2
      try clear hcz23_3
      try clear hcz23_4
      try clear hcz23_5
      try clear hcz23_6
      try clear hcz23_7
      try clear hfz21_0
      try clear hfz21_1
      try clear hfz21_2
      try clear hfz21_3
      try clear hfz21_4
      try clear hfz21_5
      try clear hfz21_6
      try clear hfz21_7
      try clear hfz23_0
      try clear hfz23_1
      try clear hfz23_2
      try clear hfz23_3
      try clear hfz23_4
      try clear hfz23_5
      try clear hfz23_6
      try clear hfz23_7
      try clear hx198_0
      try clear hx198_1
      try clear hx198_2
      try clear hx198_3
      try clear hx198_4
      try clear hx198_5
      try clear hx198_6
      try clear hx198_7
      try clear p198
      try clear q198
      obtain ⟨x45_3, rfl, HA, HK3, BK199, HB⟩ := hrel
      cases gk with
      | zero => exact absurd HA.out (by simp [table_Check.l2])
      | succ k3 =>
       have H := HA.out
       clear HA
       simp only [table_Check.l2] at H
       by_cases c25 : x45_3 < ((fm t200).length : Int)
       case neg =>
        rw [if_neg c25] at H
        have c25b0 := decide_eq_false c25
        (try (have c25b9 := c25b0; simp only [hl205_4] at c25b9))
        clear c25
        have H' := Aside0.mk H
        clear H
        have hcz_0 : wr.cell? ⟨gb199, 0, none⟩ = some (.int .i64 ((rd_T25 l0 x33_2).f0)) := (blk_cell BK199.out 0).trans rfl
        have hcz_1 : wr.cell? ⟨gb199, 1, none⟩ = some (.int .i64 ((rd_T25 l0 x33_2).f1)) := (blk_cell BK199.out 1).trans rfl
        have hcz_2 : wr.cell? ⟨gb199, 2, none⟩ = some (.int .i64 ((rd_T25 l0 x33_2).f2)) := (blk_cell BK199.out 2).trans rfl
        have hcz_3 : wr.cell? ⟨gb199, 3, none⟩ = some (.int .i64 ((rd_T25 l0 x33_2).f3)) := (blk_cell BK199.out 3).trans rfl
        have hcz_4 : wr.cell? ⟨gb199, 4, none⟩ = some (.slice A198_4 ((rd_T25 l0 x33_2).f4).length c198_4) := (blk_cell BK199.out 4).trans rfl
        have hcz_5 : wr.cell? ⟨gb199, 5, none⟩ = some (.string ((rd_T25 l0 x33_2).f5)) := (blk_cell BK199.out 5).trans rfl
        have hcz_6 : wr.cell? ⟨gb199, 6, none⟩ = some (.string ((rd_T25 l0 x33_2).f6)) := (blk_cell BK199.out 6).trans rfl
        have hcz_7 : wr.cell? ⟨gb199, 7, none⟩ = some (.float .f64 ((rd_T25 l0 x33_2).f7)) := (blk_cell BK199.out 7).trans rfl
        have hfz_0 := blk_frozen BK199.out 0
        have hfz_1 := blk_frozen BK199.out 1
        have hfz_2 := blk_frozen BK199.out 2
        have hfz_3 := blk_frozen BK199.out 3
        have hfz_4 := blk_frozen BK199.out 4
        have hfz_5 := blk_frozen BK199.out 5
        have hfz_6 := blk_frozen BK199.out 6
        have hfz_7 := blk_frozen BK199.out 7
        obtain ⟨css, hcR, hcl, hcK⟩ := HROW.out
        have HO21 := Aside0.mk (Kd.R_below hcR HB.out)
        have HB21 := Aside0.mk (below_step HBo.out HB.out)
        have HCL := Aside0.mk hcl
        have HCK := Aside0.mk hcK
        have HF2 := Aside0.mk (show css.length ≤ 4096 by have := HXc15.out; have := HXc16.out; have := HL.out; have := HF.out; have := HNn.out; omega)
        clear hcR hcl hcK
        go_wp2_with (first | ((with_reducible refine gate_dst (N := 94) rfl ?_); refine lookup_event rfl _ _ 77 rfl rfl rfl (HLK.out _ sqH) ?_) | ((with_reducible refine gate_builtin (b := .append) (xs := #[.tmp 94, .tmp 96]) rfl ?_); at_builtin; refine Kd.R_append (Kd.raw 8) (w0 := w) w.heap.size rfl (.tmp 94) (.tmp 96) 26 25 (.agg #[(.int .i64 0), (.int .i64 0), (.int .i64 0), (.int .i64 0), (.slice none 0 0), (.string ⟨#[]⟩), (.string ⟨#[]⟩), (.float .f64 0)]) 96 rfl Tryz.underlying26 info25 rfl (by decide) (by omega) (.slice Am (fm t200).length cm) css [.int .i64 ((rd_T25 l0 x33_2).f0), .int .i64 ((rd_T25 l0 x33_2).f1), .int .i64 ((rd_T25 l0 x33_2).f2), .int .i64 ((rd_T25 l0 x33_2).f3), .slice A198_4 ((rd_T25 l0 x33_2).f4).length c198_4, .string ((rd_T25 l0 x33_2).f5), .string ((rd_T25 l0 x33_2).f6), .float .f64 ((rd_T25 l0 x33_2).f7)] [.int .i64 ((rd_T25 l0 x33_2).f0), .int .i64 ((rd_T25 l0 x33_2).f1), .int .i64 ((rd_T25 l0 x33_2).f2), .int .i64 ((rd_T25 l0 x33_2).f3), .slice A198_4 ((rd_T25 l0 x33_2).f4).length c198_4, .string ((rd_T25 l0 x33_2).f5), .string ((rd_T25 l0 x33_2).f6), .float .f64 ((rd_T25 l0 x33_2).f7)] (fun _ => True) (fun _ => False) rfl rfl ⟨rfl, rfl, by intro q hq; simp only [List.mem_cons, List.not_mem_nil, or_false] at hq; rcases hq with rfl | rfl | rfl | rfl | rfl | rfl | rfl | rfl <;> rfl⟩ (fun _ h => h.elim) (fun _ _ => trivial) HO21.out HB21.out HB21.out.size (by have := HF2.out; omega) ?_; intro v1_ w1_ ho_ hb_ hg_ hat_; obtain ⟨ob_, hrun_, hA_⟩ := HBK.out _ w1_ v1_ (⟨(rd_T25 l0 x33_2).f0, (rd_T25 l0 x33_2).f1, (rd_T25 l0 x33_2).f2, (rd_T25 l0 x33_2).f3, (rd_T25 l0 x33_2).f4, (rd_T25 l0 x33_2).f5, (rd_T25 l0 x33_2).f6, (rd_T25 l0 x33_2).f7⟩ : S25) HB.out hg_ (RowOf.one ho_ HCL.out HCK.out (k25_mk w (⟨(rd_T25 l0 x33_2).f0, (rd_T25 l0 x33_2).f1, (rd_T25 l0 x33_2).f2, (rd_T25 l0 x33_2).f3, (rd_T25 l0 x33_2).f4, (rd_T25 l0 x33_2).f5, (rd_T25 l0 x33_2).f6, (rd_T25 l0 x33_2).f7⟩ : S25) HC198.out HK198.out)) hat_; have HM2 := Aside0.mk hA_; have HRUN := Aside0.mk hrun_; have HBf := Aside0.mk (below_put hb_ HGM.out ob_); clear ho_ hb_ hg_ hat_ hrun_ hA_) | ((with_reducible refine gate_update (t := 77) rfl ?_); refine update_event rfl _ _ _ 77 rfl rfl rfl rfl HRUN.out ?_))
        go_roundg k3
        case measure => have := HK1.out; have := HK2.out; have := HK3.out; omega
        case rel => exact ⟨(wrap64 (x33_2 + 1)), _, sqE, H', ⟨by have := HK1.out; have := HK2.out; have := HK3.out; omega⟩, ⟨n + 1, HM2.out, by have := HXc15.out; have := HXc16.out; have := HL.out; have := HNn.out; unfold wrap64; omega⟩, HBf⟩
       rw [if_pos c25] at H
       have c25b0 := decide_eq_true c25
       clear c25
       by_cases c26 : 0 ≤ x45_3
       case neg => rw [if_neg c26] at H; exact absurd H (by simp)
       rw [if_pos c26] at H
       have c26b0 := decide_eq_true c26
       clear c26
       by_cases c27 : x45_3 < ((fm t200).length : Int)
       case neg => rw [if_neg c27] at H; exact absurd H (by simp)
       rw [if_pos c27] at H
       have c27b0 := decide_eq_true c27
       clear c27
       have p205 : 0 ≤ (x45_3 : Int) := sqD
       have q205 : x45_3 < ((fm t200).length : Int) := sqD
       obtain ⟨ad205, A205_4, c205_4, e205, hx205_0, hx205_1, hx205_2, hx205_3, hx205_4, hx205_5, hx205_6, hx205_7, hl205_4, hi205_4⟩ := at_T25b HR204.out HB.out x45_3 p205 q205
       subst e205
       have HR205_4 := Aside0.mk hi205_4
       have HC205_4 := Aside0.mk hl205_4
       clear hi205_4 hl205_4
       replace p205 := eq_true p205
       replace q205 := eq_true q205
       go_upto_region 18 with (first | ((with_reducible refine gate_dst (N := 12) rfl ?_); refine box_event ?hg (N := 12) ?hd (cs := #[.int .i64 0, .int .i64 0, .int .i64 0, .int .i64 0, .slice none 0 0, .string (⟨#[]⟩ : ByteArray), .string (⟨#[]⟩ : ByteArray), .float .f64 (0 : Nat)]) (t := 25) ?hr ?_; (case hd => rfl); (case hg => rfl); (case hr => first | (go_simp; done) | (go_simp; rfl)); intro gb206 hg w132 hbox hb; have n0_ := Aside0.mk (sqM BK199.out hb); have n1_ := Aside0.mk (below_step sqH hb); have n2_ := Aside0.mk (hbox); have n3_ := Aside0.mk ((by rw [hg]; exact (below_size sqH) : W0.heap.size ≤ gb206)); have n4_ := Aside0.mk ((by rw [hg]; exact (below_size sqH) : W0.heap.size ≤ gb206)); have n5_ := Aside0.mk ((by rw [hg]; exact Nat.ne_of_lt (blk_lt (g := gb199) (o := .cells #[.int .i64 ((rd_T25 l0 x33_2).f0), .int .i64 ((rd_T25 l0 x33_2).f1), .int .i64 ((rd_T25 l0 x33_2).f2), .int .i64 ((rd_T25 l0 x33_2).f3), .slice A198_4 ((rd_T25 l0 x33_2).f4).length c198_4, .string ((rd_T25 l0 x33_2).f5), .string ((rd_T25 l0 x33_2).f6), .float .f64 ((rd_T25 l0 x33_2).f7)] 25 (0, 0)) (sqK BK199.out)) : gb199 ≠ gb206)); have n6_ := Aside0.mk ((by rw [hg]; exact Nat.ne_of_gt (blk_lt (g := gb199) (o := .cells #[.int .i64 ((rd_T25 l0 x33_2).f0), .int .i64 ((rd_T25 l0 x33_2).f1), .int .i64 ((rd_T25 l0 x33_2).f2), .int .i64 ((rd_T25 l0 x33_2).f3), .slice A198_4 ((rd_T25 l0 x33_2).f4).length c198_4, .string ((rd_T25 l0 x33_2).f5), .string ((rd_T25 l0 x33_2).f6), .float .f64 ((rd_T25 l0 x33_2).f7)] 25 (0, 0)) (sqK BK199.out)) : gb206 ≠ gb199)); clear BK199; clear HB; have BK199 := n0_; have HB := n1_; have BK206 := n2_; have GW206 := n3_; have GE206 := n4_; have NB199_206 := n5_; have NB206_199 := n6_; clear n0_ n1_ n2_ n3_ n4_ n5_ n6_; clear hb hbox hg; have hnb := NB206_199.out; have hnc := NB199_206.out) | ((with_reducible refine gate_store (p := 12) rfl ?_); refine rec_event rfl 25 _ _ rfl gb206 25 [.int .i64 0, .int .i64 0, .int .i64 0, .int .i64 0, .slice none 0 0, .string (⟨#[]⟩ : ByteArray), .string (⟨#[]⟩ : ByteArray), .float .f64 (0 : Nat)] [.int .i64 ((rd_T25 (fm t200) x45_3).f0), .int .i64 ((rd_T25 (fm t200) x45_3).f1), .int .i64 ((rd_T25 (fm t200) x45_3).f2), .int .i64 ((rd_T25 (fm t200) x45_3).f3), .slice A205_4 ((rd_T25 (fm t200) x45_3).f4).length c205_4, .string ((rd_T25 (fm t200) x45_3).f5), .string ((rd_T25 (fm t200) x45_3).f6), .float .f64 ((rd_T25 (fm t200) x45_3).f7)] BK206.out rfl (by kernel_rfl) (by intro q hq; simp only [List.mem_cons, List.not_mem_nil, or_false] at hq; rcases hq with rfl | rfl | rfl | rfl | rfl | rfl | rfl | rfl <;> rfl) rfl rfl (fun W_ h1_ h2_ h3_ => ?_); have hx_ : Fy W0 W_ gb199 gb206 (rd_T25 l0 x33_2) A198_4 c198_4 (rd_T25 (fm t200) x45_3) A205_4 c205_4 := ⟨(h2_ gb199 NB199_206.out).trans BK199.out, h1_, h3_ _ _ GE206.out HB.out⟩; clear BK199 BK206 HB h1_ h2_ h3_; have HX := Aside0.mk hx_; clear hx_; obtain ⟨z0, z1, z2, z3, z4, z5, z6, z7, z8, z9, z10, z11, z12, z13, z14, z15⟩ := HX.out.all))
       by_cases c28 : t200 < 10
       case neg =>
        rw [if_neg c28] at H
        have c28b0 := decide_eq_false c28
        clear c28
        by_cases c97 : t200 = 10
        case neg =>
         rw [if_neg c97] at H
         have c97b0 := beq_eq_false_iff_ne.mpr c97
         have c97b1 := bne_iff_ne.mpr c97
         have H' := Aside0.mk H
         clear H
         go_wp2
         go_roundg k3
         case measure => have := HK1.out; have := HK2.out; have := HK3.out; omega
         case rel => exact ⟨(wrap64 (x45_3 + 1)), sqE, H', ⟨by have := HK1.out; have := HK2.out; have := HK3.out; omega⟩, ⟨by (with_reducible repeat (first | refine blk_drewN ?_ _ | refine blk_drew ?_)); exact HX.out.1⟩, ⟨by (with_reducible repeat (first | apply pw_below_drewN | apply below_drew1)); exact HX.out.2.2⟩⟩
        rw [if_pos c97] at H
        have c97b0 := beq_iff_eq.mpr c97
        have c97b1 := bne_eq_false_iff_eq.mpr c97
        clear c97
        by_cases c98 : ((rd_T25 (fm t200) x45_3).f5).toList = ((rd_T25 l0 x33_2).f5).toList
        case neg =>
         rw [if_neg c98] at H
         have c98b0 := beq_eq_false_iff_ne.mpr c98
         have c98b1 := bne_iff_ne.mpr c98
         by_cases c118 : ((rd_T25 (fm t200) x45_3).f5).toList = ((rd_T25 l0 x33_2).f6).toList
         case neg =>
          rw [if_neg c118] at H
          have c118b0 := beq_eq_false_iff_ne.mpr c118
          have c118b1 := bne_iff_ne.mpr c118
          have H' := Aside0.mk H
          clear H
          go_wp2
          go_roundg k3
          case measure => have := HK1.out; have := HK2.out; have := HK3.out; omega
          case rel => exact ⟨(wrap64 (x45_3 + 1)), sqE, H', ⟨by have := HK1.out; have := HK2.out; have := HK3.out; omega⟩, ⟨by (with_reducible repeat (first | refine blk_drewN ?_ _ | refine blk_drew ?_)); exact HX.out.1⟩, ⟨by (with_reducible repeat (first | apply pw_below_drewN | apply below_drew1)); exact HX.out.2.2⟩⟩
         rw [if_pos c118] at H
         have c118b0 := beq_iff_eq.mpr c118
         have c118b1 := bne_eq_false_iff_eq.mpr c118
         clear c118
         by_cases c119 : ((rd_T25 (fm t200) x45_3).f6).toList = ((rd_T25 l0 x33_2).f5).toList
         ·rw [if_pos c119] at H
          have c119b0 := beq_iff_eq.mpr c119
          have c119b1 := bne_eq_false_iff_eq.mpr c119
          clear c119
          simp only [Option.some.injEq, Prod.mk.injEq] at H
          obtain ⟨rfl, rfl⟩ := H
          go_wp2
          go_ret2
          exact ⟨sqE', below_step HBo.out (by (with_reducible repeat (first | apply pw_below_drewN | apply below_drew1)); exact HX.out.2.2)⟩
         rw [if_neg c119] at H
         have c119b0 := beq_eq_false_iff_ne.mpr c119
         have c119b1 := bne_iff_ne.mpr c119
         have H' := Aside0.mk H
         clear H
         go_wp2
         go_roundg k3
         case measure => have := HK1.out; have := HK2.out; have := HK3.out; omega
         case rel => exact ⟨(wrap64 (x45_3 + 1)), sqE, H', ⟨by have := HK1.out; have := HK2.out; have := HK3.out; omega⟩, ⟨by (with_reducible repeat (first | refine blk_drewN ?_ _ | refine blk_drew ?_)); exact HX.out.1⟩, ⟨by (with_reducible repeat (first | apply pw_below_drewN | apply below_drew1)); exact HX.out.2.2⟩⟩
        rw [if_pos c98] at H
        have c98b0 := beq_iff_eq.mpr c98
        have c98b1 := bne_eq_false_iff_eq.mpr c98
        clear c98
        by_cases c99 : ((rd_T25 (fm t200) x45_3).f6).toList = ((rd_T25 l0 x33_2).f6).toList
        ·rw [if_pos c99] at H
         have c99b0 := beq_iff_eq.mpr c99
         have c99b1 := bne_eq_false_iff_eq.mpr c99
         clear c99
         simp only [Option.some.injEq, Prod.mk.injEq] at H
         obtain ⟨rfl, rfl⟩ := H
         go_wp2
         go_ret2
         exact ⟨sqE', below_step HBo.out (by (with_reducible repeat (first | apply pw_below_drewN | apply below_drew1)); exact HX.out.2.2)⟩
        rw [if_neg c99] at H
        have c99b0 := beq_eq_false_iff_ne.mpr c99
        have c99b1 := bne_iff_ne.mpr c99
        by_cases c104 : ((rd_T25 (fm t200) x45_3).f5).toList = ((rd_T25 l0 x33_2).f6).toList
        case neg =>
         rw [if_neg c104] at H
         have c104b0 := beq_eq_false_iff_ne.mpr c104
         have c104b1 := bne_iff_ne.mpr c104
         have H' := Aside0.mk H
         clear H
         go_wp2
         go_roundg k3
         case measure => have := HK1.out; have := HK2.out; have := HK3.out; omega
         case rel => exact ⟨(wrap64 (x45_3 + 1)), sqE, H', ⟨by have := HK1.out; have := HK2.out; have := HK3.out; omega⟩, ⟨by (with_reducible repeat (first | refine blk_drewN ?_ _ | refine blk_drew ?_)); exact HX.out.1⟩, ⟨by (with_reducible repeat (first | apply pw_below_drewN | apply below_drew1)); exact HX.out.2.2⟩⟩
        rw [if_pos c104] at H
        have c104b0 := beq_iff_eq.mpr c104
        have c104b1 := bne_eq_false_iff_eq.mpr c104
        clear c104
        by_cases c105 : ((rd_T25 (fm t200) x45_3).f6).toList = ((rd_T25 l0 x33_2).f5).toList
        ·rw [if_pos c105] at H
         have c105b0 := beq_iff_eq.mpr c105
         have c105b1 := bne_eq_false_iff_eq.mpr c105
         clear c105
         simp only [Option.some.injEq, Prod.mk.injEq] at H
         obtain ⟨rfl, rfl⟩ := H
         go_wp2
         go_ret2
         exact ⟨sqE', below_step HBo.out (by (with_reducible repeat (first | apply pw_below_drewN | apply below_drew1)); exact HX.out.2.2)⟩
        rw [if_neg c105] at H
        have c105b0 := beq_eq_false_iff_ne.mpr c105
        have c105b1 := bne_iff_ne.mpr c105
        have H' := Aside0.mk H
        clear H
        go_wp2
        go_roundg k3
        case measure => have := HK1.out; have := HK2.out; have := HK3.out; omega
        case rel => exact ⟨(wrap64 (x45_3 + 1)), sqE, H', ⟨by have := HK1.out; have := HK2.out; have := HK3.out; omega⟩, ⟨by (with_reducible repeat (first | refine blk_drewN ?_ _ | refine blk_drew ?_)); exact HX.out.1⟩, ⟨by (with_reducible repeat (first | apply pw_below_drewN | apply below_drew1)); exact HX.out.2.2⟩⟩
       rw [if_pos c28] at H
       have c28b0 := decide_eq_true c28
       clear c28
       obtain ⟨t207, A29, H⟩ := sqO H
       try dsimp only at H
       by_cases c30 : t207 = true
       ·subst c30
        rw [if_pos rfl] at H
        simp only [Option.some.injEq, Prod.mk.injEq] at H
        obtain ⟨rfl, rfl⟩ := H
        go_wp2_with (first | (go_at_call 58; (with_reducible refine (table_meet.calls k3 ((rd_T25 (fm t200) x45_3).f0) ((rd_T25 (fm t200) x45_3).f1) ((rd_T25 (fm t200) x45_3).f2) ((rd_T25 (fm t200) x45_3).f3) _ _ ((rd_T25 (fm t200) x45_3).f4) ((rd_T25 (fm t200) x45_3).f5) ((rd_T25 (fm t200) x45_3).f6) ((rd_T25 (fm t200) x45_3).f7) ((rd_T25 l0 x33_2).f0) ((rd_T25 l0 x33_2).f1) ((rd_T25 l0 x33_2).f2) ((rd_T25 l0 x33_2).f3) _ _ ((rd_T25 l0 x33_2).f4) ((rd_T25 l0 x33_2).f5) ((rd_T25 l0 x33_2).f6) ((rd_T25 l0 x33_2).f7) true _ ?side1 ?side2 ?side3 ?side4 A29.out).mono ?_); (case side1 => exact Kd.C_below HR205_4.out HX.out.2.2); (case side2 => exact HC205_4.out); (case side3 => exact Kd.C_below HR198_4.out HX.out.2.2); (case side4 => exact HC198_4.out); rintro e W_ ⟨rfl, hb⟩; have hx_ := HX.out.below (W1 := W_) ⟨hb.os, hb.tape, hb.output, hb.size, hb.block⟩; clear HX hb z0 z1 z2 z3 z4 z5 z6 z7 z8 z9 z10 z11 z12 z13 z14 z15; have HX := Aside0.mk hx_; clear hx_; obtain ⟨z0, z1, z2, z3, z4, z5, z6, z7, z8, z9, z10, z11, z12, z13, z14, z15⟩ := HX.out.all))
        go_ret2
        exact ⟨sqE', below_step HBo.out (by (with_reducible repeat (first | apply pw_below_drewN | apply below_drew1)); exact HX.out.2.2)⟩
       replace c30 := Bool.eq_false_iff.mpr c30
       subst c30
       rw [if_neg (show ¬ (false = true) by decide)] at H
       by_cases c36 : t200 = 10
       case neg =>
        rw [if_neg c36] at H
        have c36b0 := beq_eq_false_iff_ne.mpr c36
        have c36b1 := bne_iff_ne.mpr c36
        have H' := Aside0.mk H
        clear H
        go_wp2_with (first | (go_at_call 58; (with_reducible refine (table_meet.calls k3 ((rd_T25 (fm t200) x45_3).f0) ((rd_T25 (fm t200) x45_3).f1) ((rd_T25 (fm t200) x45_3).f2) ((rd_T25 (fm t200) x45_3).f3) _ _ ((rd_T25 (fm t200) x45_3).f4) ((rd_T25 (fm t200) x45_3).f5) ((rd_T25 (fm t200) x45_3).f6) ((rd_T25 (fm t200) x45_3).f7) ((rd_T25 l0 x33_2).f0) ((rd_T25 l0 x33_2).f1) ((rd_T25 l0 x33_2).f2) ((rd_T25 l0 x33_2).f3) _ _ ((rd_T25 l0 x33_2).f4) ((rd_T25 l0 x33_2).f5) ((rd_T25 l0 x33_2).f6) ((rd_T25 l0 x33_2).f7) false _ ?side1 ?side2 ?side3 ?side4 A29.out).mono ?_); (case side1 => exact Kd.C_below HR205_4.out HX.out.2.2); (case side2 => exact HC205_4.out); (case side3 => exact Kd.C_below HR198_4.out HX.out.2.2); (case side4 => exact HC198_4.out); rintro e W_ ⟨rfl, hb⟩; have hx_ := HX.out.below (W1 := W_) ⟨hb.os, hb.tape, hb.output, hb.size, hb.block⟩; clear HX hb z0 z1 z2 z3 z4 z5 z6 z7 z8 z9 z10 z11 z12 z13 z14 z15; have HX := Aside0.mk hx_; clear hx_; obtain ⟨z0, z1, z2, z3, z4, z5, z6, z7, z8, z9, z10, z11, z12, z13, z14, z15⟩ := HX.out.all))
        go_roundg k3
        case measure => have := HK1.out; have := HK2.out; have := HK3.out; omega
        case rel => exact ⟨(wrap64 (x45_3 + 1)), sqE, H', ⟨by have := HK1.out; have := HK2.out; have := HK3.out; omega⟩, ⟨by (with_reducible repeat (first | refine blk_drewN ?_ _ | refine blk_drew ?_)); exact HX.out.1⟩, ⟨by (with_reducible repeat (first | apply pw_below_drewN | apply below_drew1)); exact HX.out.2.2⟩⟩
       rw [if_pos c36] at H
       have c36b0 := beq_iff_eq.mpr c36
       have c36b1 := bne_eq_false_iff_eq.mpr c36
       clear c36
       by_cases c37 : ((rd_T25 (fm t200) x45_3).f5).toList = ((rd_T25 l0 x33_2).f5).toList
       case neg =>
        rw [if_neg c37] at H
        have c37b0 := beq_eq_false_iff_ne.mpr c37
        have c37b1 := bne_iff_ne.mpr c37
        by_cases c69 : ((rd_T25 (fm t200) x45_3).f5).toList = ((rd_T25 l0 x33_2).f6).toList
        case neg =>
         rw [if_neg c69] at H
         have c69b0 := beq_eq_false_iff_ne.mpr c69
         have c69b1 := bne_iff_ne.mpr c69
         have H' := Aside0.mk H
         clear H
         go_wp2_with (first | (go_at_call 58; (with_reducible refine (table_meet.calls k3 ((rd_T25 (fm t200) x45_3).f0) ((rd_T25 (fm t200) x45_3).f1) ((rd_T25 (fm t200) x45_3).f2) ((rd_T25 (fm t200) x45_3).f3) _ _ ((rd_T25 (fm t200) x45_3).f4) ((rd_T25 (fm t200) x45_3).f5) ((rd_T25 (fm t200) x45_3).f6) ((rd_T25 (fm t200) x45_3).f7) ((rd_T25 l0 x33_2).f0) ((rd_T25 l0 x33_2).f1) ((rd_T25 l0 x33_2).f2) ((rd_T25 l0 x33_2).f3) _ _ ((rd_T25 l0 x33_2).f4) ((rd_T25 l0 x33_2).f5) ((rd_T25 l0 x33_2).f6) ((rd_T25 l0 x33_2).f7) false _ ?side1 ?side2 ?side3 ?side4 A29.out).mono ?_); (case side1 => exact Kd.C_below HR205_4.out HX.out.2.2); (case side2 => exact HC205_4.out); (case side3 => exact Kd.C_below HR198_4.out HX.out.2.2); (case side4 => exact HC198_4.out); rintro e W_ ⟨rfl, hb⟩; have hx_ := HX.out.below (W1 := W_) ⟨hb.os, hb.tape, hb.output, hb.size, hb.block⟩; clear HX hb z0 z1 z2 z3 z4 z5 z6 z7 z8 z9 z10 z11 z12 z13 z14 z15; have HX := Aside0.mk hx_; clear hx_; obtain ⟨z0, z1, z2, z3, z4, z5, z6, z7, z8, z9, z10, z11, z12, z13, z14, z15⟩ := HX.out.all))
         go_roundg k3
         case measure => have := HK1.out; have := HK2.out; have := HK3.out; omega
         case rel => exact ⟨(wrap64 (x45_3 + 1)), sqE, H', ⟨by have := HK1.out; have := HK2.out; have := HK3.out; omega⟩, ⟨by (with_reducible repeat (first | refine blk_drewN ?_ _ | refine blk_drew ?_)); exact HX.out.1⟩, ⟨by (with_reducible repeat (first | apply pw_below_drewN | apply below_drew1)); exact HX.out.2.2⟩⟩
        rw [if_pos c69] at H
        have c69b0 := beq_iff_eq.mpr c69
        have c69b1 := bne_eq_false_iff_eq.mpr c69
        clear c69
        by_cases c70 : ((rd_T25 (fm t200) x45_3).f6).toList = ((rd_T25 l0 x33_2).f5).toList
        ·rw [if_pos c70] at H
         have c70b0 := beq_iff_eq.mpr c70
         have c70b1 := bne_eq_false_iff_eq.mpr c70
         clear c70
         simp only [Option.some.injEq, Prod.mk.injEq] at H
         obtain ⟨rfl, rfl⟩ := H
         go_wp2_with (first | (go_at_call 58; (with_reducible refine (table_meet.calls k3 ((rd_T25 (fm t200) x45_3).f0) ((rd_T25 (fm t200) x45_3).f1) ((rd_T25 (fm t200) x45_3).f2) ((rd_T25 (fm t200) x45_3).f3) _ _ ((rd_T25 (fm t200) x45_3).f4) ((rd_T25 (fm t200) x45_3).f5) ((rd_T25 (fm t200) x45_3).f6) ((rd_T25 (fm t200) x45_3).f7) ((rd_T25 l0 x33_2).f0) ((rd_T25 l0 x33_2).f1) ((rd_T25 l0 x33_2).f2) ((rd_T25 l0 x33_2).f3) _ _ ((rd_T25 l0 x33_2).f4) ((rd_T25 l0 x33_2).f5) ((rd_T25 l0 x33_2).f6) ((rd_T25 l0 x33_2).f7) false _ ?side1 ?side2 ?side3 ?side4 A29.out).mono ?_); (case side1 => exact Kd.C_below HR205_4.out HX.out.2.2); (case side2 => exact HC205_4.out); (case side3 => exact Kd.C_below HR198_4.out HX.out.2.2); (case side4 => exact HC198_4.out); rintro e W_ ⟨rfl, hb⟩; have hx_ := HX.out.below (W1 := W_) ⟨hb.os, hb.tape, hb.output, hb.size, hb.block⟩; clear HX hb z0 z1 z2 z3 z4 z5 z6 z7 z8 z9 z10 z11 z12 z13 z14 z15; have HX := Aside0.mk hx_; clear hx_; obtain ⟨z0, z1, z2, z3, z4, z5, z6, z7, z8, z9, z10, z11, z12, z13, z14, z15⟩ := HX.out.all))
         go_ret2
         exact ⟨sqE', below_step HBo.out (by (with_reducible repeat (first | apply pw_below_drewN | apply below_drew1)); exact HX.out.2.2)⟩
        rw [if_neg c70] at H
        have c70b0 := beq_eq_false_iff_ne.mpr c70
        have c70b1 := bne_iff_ne.mpr c70
        have H' := Aside0.mk H
        clear H
        go_wp2_with (first | (go_at_call 58; (with_reducible refine (table_meet.calls k3 ((rd_T25 (fm t200) x45_3).f0) ((rd_T25 (fm t200) x45_3).f1) ((rd_T25 (fm t200) x45_3).f2) ((rd_T25 (fm t200) x45_3).f3) _ _ ((rd_T25 (fm t200) x45_3).f4) ((rd_T25 (fm t200) x45_3).f5) ((rd_T25 (fm t200) x45_3).f6) ((rd_T25 (fm t200) x45_3).f7) ((rd_T25 l0 x33_2).f0) ((rd_T25 l0 x33_2).f1) ((rd_T25 l0 x33_2).f2) ((rd_T25 l0 x33_2).f3) _ _ ((rd_T25 l0 x33_2).f4) ((rd_T25 l0 x33_2).f5) ((rd_T25 l0 x33_2).f6) ((rd_T25 l0 x33_2).f7) false _ ?side1 ?side2 ?side3 ?side4 A29.out).mono ?_); (case side1 => exact Kd.C_below HR205_4.out HX.out.2.2); (case side2 => exact HC205_4.out); (case side3 => exact Kd.C_below HR198_4.out HX.out.2.2); (case side4 => exact HC198_4.out); rintro e W_ ⟨rfl, hb⟩; have hx_ := HX.out.below (W1 := W_) ⟨hb.os, hb.tape, hb.output, hb.size, hb.block⟩; clear HX hb z0 z1 z2 z3 z4 z5 z6 z7 z8 z9 z10 z11 z12 z13 z14 z15; have HX := Aside0.mk hx_; clear hx_; obtain ⟨z0, z1, z2, z3, z4, z5, z6, z7, z8, z9, z10, z11, z12, z13, z14, z15⟩ := HX.out.all))
        go_roundg k3
        case measure => have := HK1.out; have := HK2.out; have := HK3.out; omega
        case rel => exact ⟨(wrap64 (x45_3 + 1)), sqE, H', ⟨by have := HK1.out; have := HK2.out; have := HK3.out; omega⟩, ⟨by (with_reducible repeat (first | refine blk_drewN ?_ _ | refine blk_drew ?_)); exact HX.out.1⟩, ⟨by (with_reducible repeat (first | apply pw_below_drewN | apply below_drew1)); exact HX.out.2.2⟩⟩
       rw [if_pos c37] at H
       have c37b0 := beq_iff_eq.mpr c37
       have c37b1 := bne_eq_false_iff_eq.mpr c37
       clear c37
       by_cases c38 : ((rd_T25 (fm t200) x45_3).f6).toList = ((rd_T25 l0 x33_2).f6).toList
       ·rw [if_pos c38] at H
        have c38b0 := beq_iff_eq.mpr c38
        have c38b1 := bne_eq_false_iff_eq.mpr c38
        clear c38
        simp only [Option.some.injEq, Prod.mk.injEq] at H
        obtain ⟨rfl, rfl⟩ := H
        go_wp2_with (first | (go_at_call 58; (with_reducible refine (table_meet.calls k3 ((rd_T25 (fm t200) x45_3).f0) ((rd_T25 (fm t200) x45_3).f1) ((rd_T25 (fm t200) x45_3).f2) ((rd_T25 (fm t200) x45_3).f3) _ _ ((rd_T25 (fm t200) x45_3).f4) ((rd_T25 (fm t200) x45_3).f5) ((rd_T25 (fm t200) x45_3).f6) ((rd_T25 (fm t200) x45_3).f7) ((rd_T25 l0 x33_2).f0) ((rd_T25 l0 x33_2).f1) ((rd_T25 l0 x33_2).f2) ((rd_T25 l0 x33_2).f3) _ _ ((rd_T25 l0 x33_2).f4) ((rd_T25 l0 x33_2).f5) ((rd_T25 l0 x33_2).f6) ((rd_T25 l0 x33_2).f7) false _ ?side1 ?side2 ?side3 ?side4 A29.out).mono ?_); (case side1 => exact Kd.C_below HR205_4.out HX.out.2.2); (case side2 => exact HC205_4.out); (case side3 => exact Kd.C_below HR198_4.out HX.out.2.2); (case side4 => exact HC198_4.out); rintro e W_ ⟨rfl, hb⟩; have hx_ := HX.out.below (W1 := W_) ⟨hb.os, hb.tape, hb.output, hb.size, hb.block⟩; clear HX hb z0 z1 z2 z3 z4 z5 z6 z7 z8 z9 z10 z11 z12 z13 z14 z15; have HX := Aside0.mk hx_; clear hx_; obtain ⟨z0, z1, z2, z3, z4, z5, z6, z7, z8, z9, z10, z11, z12, z13, z14, z15⟩ := HX.out.all))
        go_ret2
        exact ⟨sqE', below_step HBo.out (by (with_reducible repeat (first | apply pw_below_drewN | apply below_drew1)); exact HX.out.2.2)⟩
       rw [if_neg c38] at H
       have c38b0 := beq_eq_false_iff_ne.mpr c38
       have c38b1 := bne_iff_ne.mpr c38
       by_cases c46 : ((rd_T25 (fm t200) x45_3).f5).toList = ((rd_T25 l0 x33_2).f6).toList
       case neg =>
        rw [if_neg c46] at H
        have c46b0 := beq_eq_false_iff_ne.mpr c46
        have c46b1 := bne_iff_ne.mpr c46
        have H' := Aside0.mk H
        clear H
        go_wp2_with (first | (go_at_call 58; (with_reducible refine (table_meet.calls k3 ((rd_T25 (fm t200) x45_3).f0) ((rd_T25 (fm t200) x45_3).f1) ((rd_T25 (fm t200) x45_3).f2) ((rd_T25 (fm t200) x45_3).f3) _ _ ((rd_T25 (fm t200) x45_3).f4) ((rd_T25 (fm t200) x45_3).f5) ((rd_T25 (fm t200) x45_3).f6) ((rd_T25 (fm t200) x45_3).f7) ((rd_T25 l0 x33_2).f0) ((rd_T25 l0 x33_2).f1) ((rd_T25 l0 x33_2).f2) ((rd_T25 l0 x33_2).f3) _ _ ((rd_T25 l0 x33_2).f4) ((rd_T25 l0 x33_2).f5) ((rd_T25 l0 x33_2).f6) ((rd_T25 l0 x33_2).f7) false _ ?side1 ?side2 ?side3 ?side4 A29.out).mono ?_); (case side1 => exact Kd.C_below HR205_4.out HX.out.2.2); (case side2 => exact HC205_4.out); (case side3 => exact Kd.C_below HR198_4.out HX.out.2.2); (case side4 => exact HC198_4.out); rintro e W_ ⟨rfl, hb⟩; have hx_ := HX.out.below (W1 := W_) ⟨hb.os, hb.tape, hb.output, hb.size, hb.block⟩; clear HX hb z0 z1 z2 z3 z4 z5 z6 z7 z8 z9 z10 z11 z12 z13 z14 z15; have HX := Aside0.mk hx_; clear hx_; obtain ⟨z0, z1, z2, z3, z4, z5, z6, z7, z8, z9, z10, z11, z12, z13, z14, z15⟩ := HX.out.all))
        go_roundg k3
        case measure => have := HK1.out; have := HK2.out; have := HK3.out; omega
        case rel => exact ⟨(wrap64 (x45_3 + 1)), sqE, H', ⟨by have := HK1.out; have := HK2.out; have := HK3.out; omega⟩, ⟨by (with_reducible repeat (first | refine blk_drewN ?_ _ | refine blk_drew ?_)); exact HX.out.1⟩, ⟨by (with_reducible repeat (first | apply pw_below_drewN | apply below_drew1)); exact HX.out.2.2⟩⟩
       rw [if_pos c46] at H
       have c46b0 := beq_iff_eq.mpr c46
       have c46b1 := bne_eq_false_iff_eq.mpr c46
       clear c46
       by_cases c47 : ((rd_T25 (fm t200) x45_3).f6).toList = ((rd_T25 l0 x33_2).f5).toList
       ·rw [if_pos c47] at H
        have c47b0 := beq_iff_eq.mpr c47
        have c47b1 := bne_eq_false_iff_eq.mpr c47
        clear c47
        simp only [Option.some.injEq, Prod.mk.injEq] at H
        obtain ⟨rfl, rfl⟩ := H
        go_wp2_with (first | (go_at_call 58; (with_reducible refine (table_meet.calls k3 ((rd_T25 (fm t200) x45_3).f0) ((rd_T25 (fm t200) x45_3).f1) ((rd_T25 (fm t200) x45_3).f2) ((rd_T25 (fm t200) x45_3).f3) _ _ ((rd_T25 (fm t200) x45_3).f4) ((rd_T25 (fm t200) x45_3).f5) ((rd_T25 (fm t200) x45_3).f6) ((rd_T25 (fm t200) x45_3).f7) ((rd_T25 l0 x33_2).f0) ((rd_T25 l0 x33_2).f1) ((rd_T25 l0 x33_2).f2) ((rd_T25 l0 x33_2).f3) _ _ ((rd_T25 l0 x33_2).f4) ((rd_T25 l0 x33_2).f5) ((rd_T25 l0 x33_2).f6) ((rd_T25 l0 x33_2).f7) false _ ?side1 ?side2 ?side3 ?side4 A29.out).mono ?_); (case side1 => exact Kd.C_below HR205_4.out HX.out.2.2); (case side2 => exact HC205_4.out); (case side3 => exact Kd.C_below HR198_4.out HX.out.2.2); (case side4 => exact HC198_4.out); rintro e W_ ⟨rfl, hb⟩; have hx_ := HX.out.below (W1 := W_) ⟨hb.os, hb.tape, hb.output, hb.size, hb.block⟩; clear HX hb z0 z1 z2 z3 z4 z5 z6 z7 z8 z9 z10 z11 z12 z13 z14 z15; have HX := Aside0.mk hx_; clear hx_; obtain ⟨z0, z1, z2, z3, z4, z5, z6, z7, z8, z9, z10, z11, z12, z13, z14, z15⟩ := HX.out.all))
        go_ret2
        exact ⟨sqE', below_step HBo.out (by (with_reducible repeat (first | apply pw_below_drewN | apply below_drew1)); exact HX.out.2.2)⟩
       rw [if_neg c47] at H
       have c47b0 := beq_eq_false_iff_ne.mpr c47
       have c47b1 := bne_iff_ne.mpr c47
       have H' := Aside0.mk H
       clear H
       go_wp2_with (first | (go_at_call 58; (with_reducible refine (table_meet.calls k3 ((rd_T25 (fm t200) x45_3).f0) ((rd_T25 (fm t200) x45_3).f1) ((rd_T25 (fm t200) x45_3).f2) ((rd_T25 (fm t200) x45_3).f3) _ _ ((rd_T25 (fm t200) x45_3).f4) ((rd_T25 (fm t200) x45_3).f5) ((rd_T25 (fm t200) x45_3).f6) ((rd_T25 (fm t200) x45_3).f7) ((rd_T25 l0 x33_2).f0) ((rd_T25 l0 x33_2).f1) ((rd_T25 l0 x33_2).f2) ((rd_T25 l0 x33_2).f3) _ _ ((rd_T25 l0 x33_2).f4) ((rd_T25 l0 x33_2).f5) ((rd_T25 l0 x33_2).f6) ((rd_T25 l0 x33_2).f7) false _ ?side1 ?side2 ?side3 ?side4 A29.out).mono ?_); (case side1 => exact Kd.C_below HR205_4.out HX.out.2.2); (case side2 => exact HC205_4.out); (case side3 => exact Kd.C_below HR198_4.out HX.out.2.2); (case side4 => exact HC198_4.out); rintro e W_ ⟨rfl, hb⟩; have hx_ := HX.out.below (W1 := W_) ⟨hb.os, hb.tape, hb.output, hb.size, hb.block⟩; clear HX hb z0 z1 z2 z3 z4 z5 z6 z7 z8 z9 z10 z11 z12 z13 z14 z15; have HX := Aside0.mk hx_; clear hx_; obtain ⟨z0, z1, z2, z3, z4, z5, z6, z7, z8, z9, z10, z11, z12, z13, z14, z15⟩ := HX.out.all))
       go_roundg k3
       case measure => have := HK1.out; have := HK2.out; have := HK3.out; omega
       case rel => exact ⟨(wrap64 (x45_3 + 1)), sqE, H', ⟨by have := HK1.out; have := HK2.out; have := HK3.out; omega⟩, ⟨by (with_reducible repeat (first | refine blk_drewN ?_ _ | refine blk_drew ?_)); exact HX.out.1⟩, ⟨by (with_reducible repeat (first | apply pw_below_drewN | apply below_drew1)); exact HX.out.2.2⟩⟩
end Go.Proofs.YtnoppeocbfapdaaGreatDoor.T
