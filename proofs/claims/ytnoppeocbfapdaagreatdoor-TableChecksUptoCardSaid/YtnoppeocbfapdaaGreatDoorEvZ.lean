import Derived.Test.YtnoppeocbfapdaaGreatDoorEvY
import Derived.Laws.Tables
/-! The evaluator's operations answer as the model's do (7): structs and slices built, bytes, append. -/
namespace Go.Ev
open Go Go.RowKit
set_option linter.unusedVariables false
set_option linter.unusedSimpArgs false
section
variable {P : Program} {o : Oper}
abbrev C2 (ι : Inj) (c : List AV) (vs : List Value) : Prop := F2 (fun (a : AV) v => RV2 ι a.val v) c vs
theorem foldl_sets (off : Nat) : ∀ (l : List Value) (k : Nat) (cs : Array Value), ((l.zipIdx k).foldl (fun cs (x : Value × Nat) => cs.setIfInBounds (off + x.2) x.1) cs).toList = sets cs.toList (off + k) l := by
  intro l
  induction l with
  | nil => intro k cs; rfl
  | cons v l ih =>
    intro k cs
    rw [List.zipIdx_cons, List.foldl_cons, ih]
    simp [sets, Nat.add_assoc]
theorem fill_step (place : Nat → Option (Nat × Nat)) (cs : Array Value) (i : Nat) (v : Value) (rest : List (Nat × Value)) (off size : Nat) (hp : place i = some (off, size)) (h1 : v.cells.size = size) (h2 : off + v.cells.size ≤ cs.size) :
    ∃ cs1 : Array Value, cs1.toList = sets cs.toList off v.cells.toList ∧ Instr.fill place cs ((i, v) :: rest) = Instr.fill place cs1 rest := by
  refine ⟨v.cells.zipIdx.foldl (fun cs (x : Value × Nat) => cs.setIfInBounds (off + x.2) x.1) cs, ?_, ?_⟩
  · rw [← Array.foldl_toList, Array.toList_zipIdx]
    have := foldl_sets off v.cells.toList 0 cs
    simpa using this
  · have : ¬ (off + v.cells.size > cs.size) := by omega
    simp only [Instr.fill, hp]
    rw [if_neg (by simp [h1]; omega)]
theorem partsK_ok {Q : R → Prop} (hno : Q .no) {ι : Inj} {tm : Tr AV} {a : Act} (hs : SR ι tm a) (gl : ∀ g, g < 8 → ι g = .dead ∨ ∃ S z, ι g = .live g S z) (places : List (Nat × Nat)) (place : Nat → Option (Nat × Nat)) (hp : ∀ i p, places[i]? = some p → place i = some p) :
    ∀ (parts : List (Nat × Operand)) {c : List AV} {cs : Array Value}, C2 ι c cs.toList → ∀ {k : List AV → R},
      (∀ c' cs', C2 ι c' cs'.toList → cs'.size = cs.size → Instr.fill place cs (parts.map fun x => (x.1, a.eval x.2)) = some cs' → Q (k c')) → Q (partsK places tm .no parts c k) := by
  intro parts
  induction parts with
  | nil => intro c cs h k hk; exact hk c cs h rfl rfl
  | cons x r ih =>
    intro c cs h k hk
    show Q (match places[x.1]? with
      | some (off, size) => valCells (aval x.2 tm) .no fun vs => ite' (Nat.beq (lenS vs) size && Nat.ble (Nat.add off (lenS vs)) (lenS c)) (wrs vs c off fun c => partsK places tm .no r c k) .no
      | none => .no)
    cases hpl : places[x.1]? with
    | none => exact hno
    | some q =>
      obtain ⟨off, size⟩ := q
      dsimp only
      refine valCells_ok (Q := Q) hno (opd hs gl x.2) fun l hl => ?_
      rw [lenS_eq, lenS_eq]
      cases hb : (Nat.beq l.length size && Nat.ble (Nat.add off l.length) c.length) with
      | false => exact hno
      | true =>
        rw [Bool.and_eq_true, Nat.beq_eq] at hb
        have hb2 : off + l.length ≤ c.length := Nat.le_of_ble_eq_true hb.2
        rw [ite'_true, wrs_eq]
        have hlen : l.length = (a.eval x.2).cells.size := by rw [hl.1]; simp
        have hcl : c.length = cs.size := by rw [h.1]; simp
        obtain ⟨cs1, e1, e2⟩ := fill_step place cs x.1 (a.eval x.2) (r.map fun x => (x.1, a.eval x.2)) off size (hp _ _ hpl) (by omega) (by omega)
        refine ih (cs := cs1) (by rw [e1]; exact F2.sets hl h off) fun c' cs' h1 h2 h3 => hk c' cs' h1 ?_ ?_
        · rw [h2, ← Array.length_toList, e1, sets_length]; simp
        · rw [List.map_cons, e2]; exact h3
theorem places_ok : ∀ (fs : List Field), (fs.all fun f => (P.info? f.type).isSome) = true → fs.mapM (fun f => (P.info? f.type).map fun i => (f.offset, i.size)) = some (fs.map fun f => (f.offset, sizeB P f.type)) := by
  intro fs
  induction fs with
  | nil => intro _; rfl
  | cons f fs ih =>
    intro h
    rw [List.all_cons, Bool.and_eq_true] at h
    obtain ⟨i, hi⟩ := Option.isSome_iff_exists.1 h.1
    simp [List.mapM_cons, hi, ih h.2, sizeB]
theorem mok_build (t : TypeId) (parts : Array (Nat × Operand)) (h : o.op = .build t parts) : MOK P o (unBx (aBuild P t parts.toList)) := by
  intro B W0 ι tm H a w hs g
  unfold aBuild
  cases hi : P.info? t with
  | none => exact trivial
  | some j =>
    cases hu : P.underlying t with
    | none => exact trivial
    | some d =>
      cases d with
      | struct fs =>
        dsimp only
        cases hz : j.zero with
        | none => exact trivial
        | some z =>
          dsimp only
          cases hl : (lit0 z && fs.toList.all fun f => (P.info? f.type).isSome) with
          | false => exact trivial
          | true =>
            rw [Bool.and_eq_true] at hl
            show ROK P B W0 H ι w _ (valCells (AV.of z) .no fun c => partsK (fs.toList.map fun f => (f.offset, sizeB P f.type)) tm .no parts.toList c fun c => .val (mkAgg c) H)
            refine valCells_ok (Q := ROK P B W0 H ι w _) trivial (RA.of (ι := ι) (.of_lit hl.1)) fun l hcl => ?_
            refine partsK_ok (Q := ROK P B W0 H ι w _) trivial hs g.gl _ ((fs.toList.map fun f => (f.offset, sizeB P f.type)).toArray[·]?) (fun i p e => by simpa using e) parts.toList (cs := z.cells) hcl fun c' cs' h1 h2 h3 => ?_
            refine .same g (v' := .agg cs') ?_ (.inr (.three (.agg (F2.map h1))))
            have hb : P.built t (parts.map fun x => (x.1, a.eval x.2)).toList = some cs' := by
              unfold Program.built
              rw [hi, hu]
              dsimp only
              rw [hz, places_ok fs.toList hl.2]
              dsimp only
              rw [Array.toList_map]; exact h3
            have := run_build (P := P) w t _ cs' hb
            simp [execOp, h, this, Result.andThen]
      | _ => exact trivial
theorem rep_flat {α : Type} (l : List α) : ∀ (n i : Nat), i < n * l.length → (List.replicate n l).flatten[i]? = l[i % l.length]? := by
  intro n
  induction n with
  | zero => intro i h; omega
  | succ n ih =>
    intro i h
    rw [List.replicate_succ, List.flatten_cons]
    by_cases hi : i < l.length
    · rw [List.getElem?_append_left hi, Nat.mod_eq_of_lt hi]
    · rw [List.getElem?_append_right (by omega), ih _ (by rw [Nat.succ_mul] at h; omega), ← Nat.mod_eq_sub_mod (by omega)]
theorem zerosV_eq (z : Value) (n : Nat) : ((Array.range (n * z.cells.size)).map (z.cells[· % z.cells.size]!)).toList = zerosV z n := by
  apply List.ext_getElem?
  intro i
  unfold zerosV
  have hlen : z.cells.toList.length = z.cells.size := by simp
  by_cases hi : i < n * z.cells.size
  · rw [rep_flat z.cells.toList n i (by rw [hlen]; exact hi), hlen]
    have h0 : 0 < z.cells.size := by
      rcases Nat.eq_zero_or_pos z.cells.size with e | e
      · rw [e] at hi; omega
      · exact e
    have hm := Nat.mod_lt i h0
    simp [hi, hm]
  · rw [List.getElem?_eq_none (by simp; omega), List.getElem?_eq_none (by simp; omega)]
theorem mok_buildSlice (t : TypeId) (len : Nat) (parts : Array (Nat × Operand)) (h : o.op = .buildSlice t len parts) (e : TypeId) (he : elemB P t = some e) : MOK P o (unBx (aBuildSlice P e len parts.toList)) := by
  intro B W0 ι tm H a w hs g
  have hu := elemB_ok he
  unfold aBuildSlice
  cases hi : P.info? e with
  | none => exact trivial
  | some j =>
    dsimp only
    cases hz : j.zero with
    | none => exact trivial
    | some z =>
      dsimp only
      cases hl : (z.cells.toList.all lit1 && Nat.beq z.cells.size j.size && Nat.ble (len * j.size) 1000 && !Nat.beq (len * j.size) 0 && Nat.beq (zOf P e) j.size) with
      | false => exact trivial
      | true =>
        simp only [Bool.and_eq_true, Nat.beq_eq, Bool.not_eq_true'] at hl
        obtain ⟨⟨⟨⟨h1, h2⟩, h3⟩, h4⟩, h5⟩ := hl
        have h3' : len * j.size ≤ 1000 := Nat.le_of_ble_eq_true h3
        have h4' : len * j.size ≠ 0 := by intro e0; rw [e0] at h4; simp at h4
        show ROK P B W0 H ι w _ (forceL (zerosV z len) fun c => partsK ((List.range len).map fun k => (k * j.size, j.size)) tm .no parts.toList c fun c => newSlice H len len c e)
        rw [forceL_eq]
        have h0 : C2 ι ((zerosV z len).map AV.of) ((Array.range (len * z.cells.size)).map (z.cells[· % z.cells.size]!)).toList := by
          rw [zerosV_eq]
          refine F2.map (F2.refl_of (R := fun v v' => RV2 ι (AV.of v).val v') (zerosV z len) lit1 ?_ fun v hv => by rw [of_val]; exact .one (.lit hv))
          rw [List.all_eq_true]
          intro x hx
          unfold zerosV at hx
          obtain ⟨l, hl, hxl⟩ := List.mem_flatten.1 hx
          rw [(List.mem_replicate.1 hl).2] at hxl
          exact List.all_eq_true.1 h1 x hxl
        refine partsK_ok (Q := ROK P B W0 H ι w _) trivial hs g.gl _ (fun i => some (i * j.size, j.size)) (fun i p e => ?_) parts.toList h0 fun c' cs' q1 q2 q3 => ?_
        · rw [List.getElem?_map] at e
          cases hr : (List.range len)[i]? with
          | none => rw [hr] at e; cases e
          | some i' =>
            rw [hr] at e
            have : i' = i := by
              obtain ⟨_, e2⟩ := List.getElem?_eq_some_iff.1 hr
              simpa using e2.symm
            subst this; exact e
        · refine newSlice_ok g len len len c' e cs' (w.alloc (.cells cs' e)) rfl (g.below.alloc g.size _) (by simpa using F2.cellsR q1) (Nat.le_refl _) ?_ ?_
          · rw [h5, q2]; simp [h2]
          · have h6 : ¬ (16777216 < len * j.size) := by omega
            have hq : Instr.fill (fun i => some (i * j.size, j.size)) ((Array.range (len * j.size)).map (z.cells[· % z.cells.size]!)) (parts.map fun x => (x.1, a.eval x.2)).toList = some cs' := by
              rw [Array.toList_map]; rw [h2] at q3 ⊢; exact q3
            rw [Array.toList_map] at hq
            simp [execOp, h, h6, Instr.buildSlice, run_underlying hu, sizeOf, typeInfo, zeroValue, hi, hz, h4', hq, newRow, Result.andThen]
end
end Go.Ev
