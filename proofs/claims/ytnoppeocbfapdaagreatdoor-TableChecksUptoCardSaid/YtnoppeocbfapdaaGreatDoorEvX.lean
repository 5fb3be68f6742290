import Derived.Test.YtnoppeocbfapdaaGreatDoorEvW
import Derived.Laws.MakeOwn
import Derived.Laws.CopyOwn
/-! The evaluator's operations answer as the model's do (5): what makes blocks. -/
namespace Go.Ev
open Go Go.RowKit
set_option linter.unusedVariables false
set_option linter.unusedSimpArgs false
section
variable {P : Program} {o : Oper}
theorem heap_push (w : World) (ob : Obj) : (w.heap.push ob)[w.heap.size]? = some ob := by simp
/-- a new variable -/
theorem newP_ok {B : Nat} {W0 : World} {H : HP} {ι : Inj} {w : World} {res : Result Next} (g : GS P B W0 ι H w) (x : Blk) (hx : x ≠ .dead) (ob : Obj) (S z : Nat) (hr : res = .ok (.value (.pointer (some ⟨w.heap.size, 0, none⟩))) (w.alloc ob))
    (hbr : ∀ ι', Ext0 ι ι' → BR P B ι' x w.heap.size S z (w.alloc ob)) : ROK P B W0 H ι w res (newP H x) := by
  unfold newP
  refine push_ok (Q := ROK P B W0 H ι w res) trivial g x hx S z (w.alloc ob) ob rfl (g.below.alloc g.size ob) hbr fun H1 ι' a b c d => ?_
  exact ⟨a, _, _, ι', .inl hr, b, RA.one (.ptr c), d⟩
theorem br_cells {B : Nat} {ι : Inj} {w : World} {l : List AV} {cs : Array Value} {e : TypeId} (g : B ≤ w.heap.size) (h : cellsR ι l cs) (w1 : World) (hw : w1.heap = w.heap.push (.cells cs e (0, 0))) :
    ∀ ι', Ext0 ι ι' → BR P B ι' (.cells l e true) w.heap.size cs.size (zOf P e) w1 := fun ι' ex =>
  ⟨cs, (0, 0), by rw [hw]; exact heap_push _ _, rfl, rfl, h.mono ex, fun _ => ⟨rfl, g⟩⟩
theorem F2.cellsRv {ι : Inj} {c : List AV} {v : Value} (h : F2 (fun (a : AV) v => RV2 ι a.val v) c v.cells.toList) : Go.Ev.cellsR ι c v.cells := by
  have := F2.cellsR h; simpa using this
def putB (w : World) (r : Nat) (ob : Obj) : World := { w with heap := w.heap.setIfInBounds r ob }
theorem run_put {w : World} {r : Nat} {ob0 : Obj} (h : w.heap[r]? = some ob0) (hn_ : ∀ c e f, ob0 ≠ .cells c e f) (ob : Obj) : (setObj r ob).run P w = .ok () (putB w r ob) := by
  cases ob0 with
  | cells c e f => exact absurd rfl (hn_ c e f)
  | _ => simp [setObj, Sem.run, h, putB]
theorem put_get {w : World} {r : Nat} {ob : Obj} (h : r < w.heap.size) : (putB w r ob).heap[r]? = some ob := by
  show (w.heap.setIfInBounds r ob)[r]? = some ob
  simp [h]
theorem put_ok {Q : R → Prop} (hno : Q .no) {B : Nat} {W0 : World} {H : HP} {ι : Inj} {w : World} (g : GS P B W0 ι H w) {b r S z : Nat} (hl : ι b = .live r S z) (x : Blk) (ob : Obj) (hB : B ≤ r) (hbr : BR P B ι x r S z (putB w r ob)) {k : HP → R}
    (hk : ∀ H1, HS H H1 → GS P B W0 ι H1 (putB w r ob) → Q (k H1)) : Q (H.setK b x .no k) := by
  have hs : ∀ k, k ≠ r → (putB w r ob).heap[k]? = w.heap[k]? := fun k hk => by
    show (w.heap.setIfInBounds r ob)[k]? = _
    rw [Array.getElem?_setIfInBounds_ne (by omega)]
  have hz : (putB w r ob).heap.size = w.heap.size := by show (w.heap.setIfInBounds r ob).size = _; simp
  exact set_ok hno g hl x (putB w r ob) hs (by omega) (g.below.trans ⟨rfl, rfl, rfl, by omega, fun k hk => hs k (by omega)⟩) hbr hk
theorem mok_alloc (e : TypeId) (h : o.op = .alloc e) : MOK P o (unBx (aAlloc P e)) := by
  intro B W0 ι tm H a w hs g
  unfold aAlloc
  cases hi : P.info? e with
  | none => exact trivial
  | some j =>
    dsimp only
    cases hz : j.zero with
    | none => exact trivial
    | some z =>
      dsimp only
      cases hl : lit0 z with
      | false => exact trivial
      | true =>
        show ROK P B W0 H ι w _ (valCells (AV.of z) .no fun c => newP H (.cells c e true))
        refine valCells_ok (Q := ROK P B W0 H ι w _) trivial (RA.of (ι := ι) (.of_lit hl)) fun l hcl => ?_
        refine newP_ok g _ (by simp) (.cells z.cells e (0, 0)) z.cells.size (zOf P e) ?_ (br_cells g.size (F2.cellsRv hcl) _ rfl)
        simp [execOp, h, Instr.alloc, zeroValue, typeInfo, hi, hz, newVar, newRow, Result.andThen]
theorem mok_box (e : TypeId) (x : Operand) (h : o.op = .box e x) : MOK P o fun _ tm H => valCells (aval x tm) .no fun c => newP H (.cells c e true) := by
  intro B W0 ι tm H a w hs g
  dsimp only
  refine valCells_ok (Q := ROK P B W0 H ι w _) trivial (opd hs g.gl x) fun l hcl => ?_
  refine newP_ok g _ (by simp) (.cells (a.eval x).cells e (0, 0)) (a.eval x).cells.size (zOf P e) ?_ (br_cells g.size (F2.cellsRv hcl) _ rfl)
  simp [execOp, h, Instr.box, newVar, newRow, Result.andThen]
theorem mok_range (t : TypeId) (x : Operand) (h : o.op = .range t x) (ht : isTx P t = true) : MOK P o fun _ tm H => onO (aval x tm) .no fun v => vRange v H := by
  intro B W0 ι tm H a w hs g
  have hx := opd hs g.gl x
  have hu := isTx_ok ht
  dsimp only
  rw [onO_eq]
  cases ex : aval x tm with
  | o v =>
    rw [ex] at hx
    cases v with
    | string s =>
      have hv := hx.lit_inv rfl
      refine newP_ok g _ (by simp) (.stringIter s 0) 0 0 ?_ fun ι' _ => ⟨heap_push _ _, g.size⟩
      simp [execOp, h, hv, AV.val, Instr.range, run_underlying hu, Result.andThen]
    | _ => exact trivial
  | _ => exact trivial
theorem mok_makeMap (t : TypeId) (h : o.op = .makeMap t none) : MOK P o fun _ tm H => H.newK (.mp [] 0) .no fun n H' => .val (.m n) H' := by
  intro B W0 ι tm H a w hs g
  dsimp only
  refine push_ok (Q := ROK P B W0 H ι w _) trivial g (.mp [] 0) (by simp) 0 0 (w.alloc (.map #[] 0)) (.map #[] 0) rfl (g.below.alloc g.size _) (fun ι' _ => ⟨#[], heap_push _ _, g.size, F2.nil _⟩) fun H1 ι' b c d e => ?_
  refine ⟨b, _, _, ι', .inl ?_, c, RA.one (.mp d), e⟩
  simp [execOp, h, Instr.makeMap, Result.andThen]
/-- a new slice -/
theorem newSlice_ok {B : Nat} {W0 : World} {H : HP} {ι : Inj} {w : World} {res : Result Next} (g : GS P B W0 ι H w) (l cap cap' : Nat) (c : List AV) (e : TypeId) (cs : Array Value) (w1 : World) (hw : w1.heap = w.heap.push (.cells cs e (0, 0))) (hbel : Below B W0 w1)
    (hc : cellsR ι c cs) (hcap : cap ≤ cap') (hS : cap' * zOf P e ≤ cs.size) (hr : res = .ok (.value (.slice (some ⟨w.heap.size, 0, none⟩) l cap')) w1) : ROK P B W0 H ι w res (newSlice H l cap c e) := by
  unfold newSlice
  refine push_ok (Q := ROK P B W0 H ι w res) trivial g _ (by simp) cs.size (zOf P e) w1 (.cells cs e (0, 0)) hw hbel (br_cells g.size hc _ hw) fun H1 ι' a b c d => ?_
  rw [fNat_eq, fNat_eq]
  exact ⟨a, _, _, ι', .inl hr, b, RA.one (.sl c hcap (by omega)), d⟩
theorem lit1_one {v : Value} (h : lit1 v = true) : v.oneCell' = true := by cases v <;> first | rfl | (simp [lit1] at h)
theorem mok_makeSlice (t : TypeId) (l c : Operand) (h : o.op = .makeSlice t l c) (e : TypeId) (he : elemB P t = some e) : MOK P o (unBx (aMakeSlice P e (fun tm => aval l tm) (fun tm => aval c tm))) := by
  intro B W0 ι tm H a w hs g
  have hu := elemB_ok he
  unfold aMakeSlice
  cases hi : P.info? e with
  | none => exact trivial
  | some j =>
    dsimp only
    cases hz : j.zero with
    | none => exact trivial
    | some z =>
      dsimp only
      cases hl : (lit1 z && Nat.beq j.size 1 && Nat.ble j.bytes 64 && Nat.beq (zOf P e) 1) with
      | false => exact trivial
      | true =>
        simp only [Bool.and_eq_true, Nat.beq_eq] at hl
        obtain ⟨⟨⟨h1, h2⟩, h3⟩, h4⟩ := hl
        have h3' : j.bytes ≤ 64 := Nat.le_of_ble_eq_true h3
        show ROK P B W0 H ι w _ (isNat (aval l tm) .no fun l => isNat (aval c tm) .no fun c => ite' (Nat.ble l c && Nat.ble c 100000) (newSlice H l c (repR (AV.of z) c) e) .no)
        refine isNat_ok (opd hs g.gl l) fun k1 n1 hn1 => isNat_ok (opd hs g.gl c) fun k2 n2 hn2 => ?_
        cases hb : (Nat.ble n1 n2 && Nat.ble n2 100000) with
        | false => exact trivial
        | true =>
          rw [Bool.and_eq_true] at hb
          have hb1 := Nat.le_of_ble_eq_true hb.1
          have hb2 := Nat.le_of_ble_eq_true hb.2
          rw [ite'_true, repR_eq]
          have hzc : z.cells = #[z] := cells_one (lit1_one h1)
          have hbig : (j.bytes : Int) * n2 ≤ 281474976710656 := by
            have : j.bytes * n2 ≤ 64 * 100000 := Nat.mul_le_mul h3' hb2
            have e9 : ((j.bytes * n2 : Nat) : Int) = (j.bytes : Int) * (n2 : Int) := Int.natCast_mul _ _
            omega
          have hrun := run_make (P := P) w t e j z hu hi hz k1 k2 n1 n2 (by omega) (by omega) hbig (by omega)
          simp only [Int.toNat_natCast, h2, Nat.mul_one] at hrun
          refine newSlice_ok g n1 n2 n2 _ e (madeCells z.cells n2) (w.alloc (.cells (madeCells z.cells n2) e)) rfl (g.below.alloc g.size _) ?_ (Nat.le_refl _) (by rw [h4, size_madeCells]; simp) ?_
          · refine ⟨by simp [size_madeCells], fun q y hy => ?_⟩
            rw [List.getElem?_replicate] at hy
            split at hy
            · rename_i hq
              injection hy with hy; subst hy
              exact ⟨z, by simp [madeCells, hq, hzc, Nat.mod_one], by rw [of_val]; exact .one (.lit h1)⟩
            · cases hy
          · simp [execOp, h, hn1, hn2, hrun, Result.andThen]
theorem mok_next (it : Operand) (h : o.op = .next it true) : MOK P o fun _ tm H => onP (aval it tm) .no fun b o => ite' (Nat.beq o 0) (aNext1 b H (H.get b)) .no := by
  intro B W0 ι tm H a w hs g
  have hx := opd hs g.gl it
  dsimp only
  rw [onP_eq]
  cases ex : aval it tm with
  | p b q =>
    rw [ex] at hx
    dsimp only
    cases hq : Nat.beq q 0 with
    | false => exact trivial
    | true =>
      rw [Nat.beq_eq] at hq
      subst hq
      rw [ite'_true]
      cases hb : H.get b with
      | iter s pos =>
        show ROK P B W0 H ι w _ (ite' (Nat.blt pos s.size) (aNextAt b s pos H (Utf8.decode s pos)) (.val (.o (.tuple #[.bool false])) H))
        obtain ⟨r, S, z, hal⟩ := g.hr.alive b (by rw [hb]; simp)
        have hbr := g.hr.blk b r S z hal
        rw [hb] at hbr
        rcases hx.p with ⟨r1, S1, z1, hl', hv⟩ | ⟨hd', _⟩
        · rw [hal] at hl'; injection hl' with e3 e4 e5; subst e3
          have hget : (getObj r).run P w = .ok (.stringIter s pos) w := by simp [getObj, Sem.run, hbr.1]
          cases hlt : Nat.blt pos s.size with
          | false =>
            rw [ite'_false]
            have hlt' : ¬ pos < s.size := fun e => by rw [← Nat.blt_eq] at e; rw [e] at hlt; cases hlt
            refine .same g (v' := .tuple #[.bool false]) ?_ (.inr (.of_lit rfl))
            simp [execOp, h, hv, Instr.next, hget, hlt', Result.andThen]
          | true =>
            rw [ite'_true]
            have hlt' : pos < s.size := by rw [← Nat.blt_eq]; exact hlt
            unfold aNextAt
            rw [fNat_eq, fNat_eq]
            have hset := run_put (P := P) hbr.1 (by intro c e f h; cases h) (.stringIter s (pos + (Utf8.decode s pos).2))
            have hr_ : r < w.heap.size := (Array.getElem?_eq_some_iff.1 hbr.1).1
            refine put_ok (Q := ROK P B W0 H ι w _) trivial g hal (.iter s (pos + (Utf8.decode s pos).2)) (.stringIter s (pos + (Utf8.decode s pos).2)) hbr.2 ⟨put_get hr_, hbr.2⟩ fun H1 hs1 g1 => ?_
            refine ⟨hs1, _, _, ι, .inl ?_, Ext.refl H ι, .inr (.of_lit rfl), g1⟩
            simp [execOp, h, hv, Instr.next, hget, hlt', hset, Result.andThen, goInt]
            rfl
        · rw [hal] at hd'; cases hd'
      | _ => exact trivial
  | _ => exact trivial
theorem cellsR_sets {ι : Inj} {c : List AV} {cs : Array Value} (h : cellsR ι c cs) (q : Nat) {l : List AV} {vs : List Value} (hl : F2 (fun (a : AV) v => RV2 ι a.val v) l vs) (hle : q + vs.length ≤ c.length) :
    cellsR ι (sets c q l) (cs.toList.take q ++ vs ++ cs.toList.drop (q + vs.length)).toArray := by
  have h1 := h.1
  have hlen := hl.1
  have hsz : cs.toList.length = cs.size := by simp
  refine ⟨by rw [sets_length]; simp; omega, fun j y hy => ?_⟩
  rw [sets_get _ _ _ _ (by omega)] at hy
  rw [List.getElem?_toArray]
  by_cases c1 : q ≤ j ∧ j < q + l.length
  · rw [if_pos c1] at hy
    obtain ⟨v, v1, v2⟩ := hl.2 _ _ hy
    refine ⟨v, ?_, v2⟩
    rw [List.append_assoc, List.getElem?_append_right (by simp; omega), List.getElem?_append_left (by simp; omega)]
    rw [← v1]; congr 1; simp; omega
  · rw [if_neg c1] at hy
    obtain ⟨v, v1, v2⟩ := h.2 _ _ hy
    refine ⟨v, ?_, v2⟩
    have v1' : cs.toList[j]? = some v := by simpa using v1
    by_cases c2 : j < q
    · rw [List.append_assoc, List.getElem?_append_left (by simp; omega), List.getElem?_take, if_pos c2]; exact v1'
    · rw [List.getElem?_append_right (by simp; omega), List.getElem?_drop]
      rw [← v1']; congr 1; simp; omega
theorem setCells_eq {w : World} {r q : Nat} {cs : Array Value} {e : TypeId} {vs : List Value} (h : w.heap[r]? = some (.cells cs e (0, 0))) (hle : q + vs.length ≤ cs.size) (h1 : ∀ v ∈ vs, v.oneCell' = true) :
    w.setCells r q vs = w.setRow r (cs.toList.take q ++ vs ++ cs.toList.drop (q + vs.length)).toArray := by
  have a := run_storeCells_at (P := default) r q e vs 0 cs w h (by omega) h1
  have b := run_storeCells_cells (P := default) r q vs 0 w (fun j hj => by rw [cell_row h]; simp; omega) (fun j hj => by simp [World.frozen?, h]) h1
  rw [a] at b
  injection b with _ b
  simpa using b.symm
theorem F2.one {ι : Inj} {l : List AV} {vs : List Value} (h : F2 (fun (a : AV) v => RV2 ι a.val v) l vs) : ∀ v ∈ vs, v.oneCell' = true := by
  intro v hv
  obtain ⟨i, hi, rfl⟩ := List.getElem_of_mem hv
  obtain ⟨v', v1, v2⟩ := h.2 i (l[i]'(by rw [h.1]; exact hi)) (by simp)
  rw [List.getElem?_eq_getElem hi] at v1
  injection v1 with v1
  rw [v1]; exact v2.oneCell
/-- cells are written -/
theorem write_ok {Q : R → Prop} (hno : Q .no) {B : Nat} {W0 : World} {H : HP} {ι : Inj} {w : World} (g : GS P B W0 ι H w) {b q : Nat} {l : List AV} {vs : List Value} (hl : F2 (fun (a : AV) v => RV2 ι a.val v) l vs) {k : HP → R}
    (hk : ∀ r S z cs c e H1 w1, H.get b = .cells c e true → ι b = .live r S z → q + vs.length ≤ S → w.heap[r]? = some (.cells cs e (0, 0)) → cs.size = S → zOf P e = z → w1 = w.setRow r (cs.toList.take q ++ vs ++ cs.toList.drop (q + vs.length)).toArray → w1 = w.setCells r q vs →
      HS H H1 → H1.get b = .cells (sets c q l) e true → GS P B W0 ι H1 w1 → Q (k H1)) : Q (storeK H b q l .no k) := by
  unfold storeK
  rw [onCells_eq]
  cases hb : H.get b with
  | cells c e own =>
    dsimp only
    cases own with
    | false => exact hno
    | true =>
      rw [ite'_true, lenS_eq, lenS_eq]
      cases hle : Nat.ble (Nat.add q l.length) c.length with
      | false => exact hno
      | true =>
        have hle' : q + l.length ≤ c.length := Nat.le_of_ble_eq_true hle
        rw [ite'_true, wrs_eq]
        obtain ⟨r, S, z, cs, fr, h1, h2, h3, h4, h5, h6⟩ := g.cells hb
        obtain ⟨rfl, hB⟩ := h6 rfl
        have hlen := hl.1
        have h51 := h5.1
        have hw := setCells_eq (q := q) (vs := vs) h2 (by omega) (F2.one hl)
        have hsz : (cs.toList.take q ++ vs ++ cs.toList.drop (q + vs.length)).toArray.size = cs.size := by
          simp; omega
        by_cases hbb : b < 1000000
        · obtain ⟨H1, e1, e2, e3, e5⟩ := setK_spec (β := R) H b (.cells (sets c q l) e true) hbb (.inr trivial)
          rw [e1]
          have hS := set_ok (Q := fun r_ => ∀ H1', r_ = .val un H1' → GS P B W0 ι H1' (w.setCells r q vs)) (by intro _ h; cases h) g h1 (.cells (sets c q l) e true) (w.setCells r q vs)
            (fun k hk => by rw [hw]; exact setRow_other _ _ _ _ hk) (by rw [hw]; simp) (by rw [hw]; exact below_setRow g.below hB _)
            ⟨_, (0, 0), by rw [hw]; exact setRow_heap _ _ _ _ _ _ h2, by rw [hsz]; exact h3, h4, cellsR_sets h5 q hl (by omega), fun _ => ⟨rfl, hB⟩⟩ (k := fun H => .val un H)
            (fun H1 _ g1 H1' e => by injection e with _ e; subst e; exact g1)
          rw [e1] at hS
          exact hk r S z cs c e H1 _ hb h1 (by omega) h2 h3 h4 hw rfl e2 (by rw [e5]; simp) (hS H1 rfl)
        · rw [setK_no H b _ hbb]; exact hno
  | _ => exact hno
theorem mok_store (t : TypeId) (x y : Operand) (h : o.op = .store t x y) : MOK P o (unBx (szB P t fun z => .mk fun _ tm H => onP (aval x tm) .no fun b o => valCells (aval y tm) .no fun c => ite' (Nat.beq (lenS c) z) (storeK H b o c .no fun H => .val un H) .no)) := by
  intro B W0 ι tm H a w hs g
  have hx := opd hs g.gl x
  have hy := opd hs g.gl y
  unfold szB
  cases hi : P.info? t with
  | none => exact trivial
  | some j =>
    show ROK P B W0 H ι w _ (onP (aval x tm) .no fun b o => valCells (aval y tm) .no fun c => ite' (Nat.beq (lenS c) j.size) (storeK H b o c .no fun H => .val un H) .no)
    rw [onP_eq]
    cases ex : aval x tm with
    | p b q =>
      rw [ex] at hx
      dsimp only
      refine valCells_ok (Q := ROK P B W0 H ι w _) trivial hy fun l hl => ?_
      rw [lenS_eq]
      cases hz : Nat.beq l.length j.size with
      | false => exact trivial
      | true =>
        rw [Nat.beq_eq] at hz
        rw [ite'_true]
        refine write_ok (Q := ROK P B W0 H ι w _) trivial g hl fun r S z cs c e H1 w1 hb h1 h2 h3 h4 h5 h6 h7 h8 h9 g1 => ?_
        rcases hx.p with ⟨r1, S1, z1, hl', hv⟩ | ⟨hd', _⟩
        · rw [h1] at hl'; injection hl' with e3 e4 e5; subst e3
          refine ⟨h8, undef, w1, ι, .inr ⟨?_, rfl⟩, Ext.refl H ι, RA.un _ rfl, g1⟩
          have hsz : (a.eval y).cells.size = j.size := by rw [← hz, hl.1]; simp
          have hst := run_storeCells_cells (P := P) r q (a.eval y).cells.toList 0 w (fun j hj => by rw [cell_row h3]; simp at hj h2 ⊢; omega) (fun j hj => by simp [World.frozen?, h3]) (F2.one hl)
          simp only [Nat.add_zero] at hst
          rw [← h7] at hst
          simp [execOp, h, hv, Instr.storeAt, Instr.sureAddr, storeVar, hsz, sizeOf, typeInfo, hi, hst, Result.andThen]
        · rw [h1] at hd'; cases hd'
    | _ => exact trivial
end
end Go.Ev
