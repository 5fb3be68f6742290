import Derived.Test.YtnoppeocbfapdaaGreatDoorEvC
/-! The evaluator's operations answer as the model's do (10): all of them. -/
namespace Go.Ev
open Go Go.RowKit
set_option linter.unusedVariables false
set_option linter.unusedSimpArgs false
section
variable {P : Program} {o : Oper}
theorem mok_no' {P : Program} {o : Oper} : MOK P o (unBx (.mk fun _ _ _ => .no)) := fun _ _ _ _ _ _ _ _ _ => trivial
theorem mok_convert (c d : TypeId) (x : Operand) (h : o.op = .convert c d x) : MOK P o (unBx (aConvert P (slow o) c d (fun tm => aval x tm))) := by
  unfold aConvert
  split
  · rename_i k1 k hu hu'; exact mok_int2 c d x h k1 k hu hu'
  · rename_i e hu hu'
    cases hb : isU8 P e with
    | false => rw [ite'_false]; exact mok_no'
    | true =>
      rw [ite'_true]
      have he : P.underlying e = some (.int .u8) := by
        revert hb; unfold isU8; split
        · rename_i he; intro _; exact he
        · intro hb; cases hb
      exact mok_toStr c d x h e hu hu' he
  · rename_i t hu hu'; exact mok_safe c d x h t (.inl ⟨hu, hu'⟩)
  · rename_i t hu hu'; exact mok_safe c d x h t (.inr ⟨hu, hu'⟩)
  · exact mok_slow P o
theorem mok_appB (c : Call) (x y : Operand) (h : o.op = .call c) (hc : c.callee = .builtin .append) (ha : c.args.toList = [x, y]) (t u : TypeId) (ht : c.argTypes.toList = [t, u]) (e : TypeId) (he : elemB P t = some e)
    (hk : (∃ e', P.underlying u = some (.slice e')) ∨ P.underlying u = some .string) : MOK P o (unBx (appB P e x y)) := by
  unfold appB
  cases hi : P.info? e with
  | none => exact mok_no'
  | some j =>
    dsimp only
    cases hb : (Nat.blt 0 j.bytes && Nat.ble j.bytes 128 && (match j.zero with | some z => Nat.beq z.cells.size j.size | none => false) && !Nat.beq j.size 0 && Nat.beq (zOf P e) j.size) with
    | false => exact mok_no'
    | true =>
      simp only [Bool.and_eq_true, Nat.beq_eq, Bool.not_eq_true'] at hb
      obtain ⟨⟨⟨⟨h1, h2⟩, h3⟩, h4⟩, h5⟩ := hb
      cases hz : j.zero with
      | none => rw [hz] at h3; cases h3
      | some z =>
        rw [hz] at h3
        have h3' : z.cells.size = j.size := by rw [Nat.beq_eq] at h3; exact h3
        have hs0 : j.size ≠ 0 := by intro e0; rw [e0] at h4; simp at h4
        exact mok_append c x y h hc ha t u ht e he hk j z ⟨hi, hz, by rw [← Nat.blt_eq]; exact h1, Nat.le_of_ble_eq_true h2, h3', hs0, h5⟩
theorem mok_builtin (c : Call) (b : Builtin) (h : o.op = .call c) (hc : c.callee = .builtin b) : MOK P o (unBx (aBuiltin P (slow o) b c.args.toList c.argTypes.toList)) := by
  unfold aBuiltin
  split
  · rename_i x ha
    split
    · rename_i t ts ht
      cases h1 : isSl P t with
      | true => exact mok_lenS c x h hc ha t ts ht h1
      | false =>
        cases h2 : isTx P t with
        | true => exact mok_lenT c x h hc ha t ts ht h2
        | false => exact mok_slow P o
    · exact mok_slow P o
  · rename_i x ha
    split
    · rename_i t ts ht
      cases h1 : isSl P t with
      | true => exact mok_cap c x h hc ha t ts ht h1
      | false => exact mok_slow P o
    · exact mok_slow P o
  · rename_i x ha
    exact mok_sliceData c x h hc ha
  · rename_i x y ha
    split
    · rename_i t it ht
      split
      · rename_i e hu
        cases h1 : Nat.beq (sizeB P e) 1 with
        | false => exact mok_no'
        | true => exact mok_unsafeStr c x y h hc ha t [it] ht e hu (by rw [Nat.beq_eq] at h1; exact h1) ⟨it, rfl⟩
      · exact mok_no'
    · exact mok_no'
  · rename_i x y ha
    split
    · rename_i t ts ht
      cases he : elemB P t with
      | none => exact mok_no'
      | some e =>
        cases h1 : (P.info? e).isSome with
        | false => dsimp only; rw [h1]; exact mok_no'
        | true => dsimp only; rw [h1]; exact mok_copy c x y h hc ha t ts ht e he h1
    · exact mok_no'
  · rename_i x y ha
    split
    · rename_i t u ht
      split
      · rename_i e e' he hu; exact mok_appB c x y h hc ha t u ht e he (.inl ⟨_, hu⟩)
      · rename_i e he hu; exact mok_appB c x y h hc ha t u ht e he (.inr hu)
      · exact mok_no'
    · exact mok_no'
  · exact mok_slow P o
theorem mok_call (po : PO P) (c : Call) (h : o.op = .call c) : MOK P o (unBx (aCall P (slow o) c)) := by
  unfold aCall
  cases hc : c.callee with
  | builtin b => exact mok_builtin c b h hc
  | invoke t n => exact mok_no'
  | value x =>
    cases x with
    | func f => exact mok_callF po c f h hc
    | tmp t => exact mok_callV po c _ h hc
    | const v => exact mok_callV po c _ h hc
    | global g => exact mok_callV po c _ h hc
theorem mok_all (po : PO P) (o : Oper) : MOK P o (unBx (aopO P (slow o) o.op)) := by
  cases h : o.op with
  | move x => exact mok_move x (.inl h)
  | assign x => exact mok_move x (.inr h)
  | pick c x y => exact mok_pick c x y h
  | alloc e => exact mok_alloc e h
  | box e x => exact mok_box e x h
  | build t parts => exact mok_build t parts h
  | buildSlice t len parts =>
    show MOK P o (unBx (match elemB P t with | some e => aBuildSlice P e len parts.toList | none => (.mk fun _ _ _ => .no : Bx M)))
    cases he : elemB P t with
    | none => exact mok_no'
    | some e => exact mok_buildSlice t len parts h e he
  | load t x => exact mok_load t x h
  | store t x y => exact mok_store t x y h
  | nilCheck x => exact mok_nil x h
  | binOp op t x y t' =>
    show MOK P o (unBx (ite' (isPtr P t) (.mk (kindBin op true false (unBx (intOp op)) (slow o) (fun tm => aval x tm) fun tm => aval y tm))
      (ite' (isSl P t) (.mk (kindBin op false true (unBx (intOp op)) (slow o) (fun tm => aval x tm) fun tm => aval y tm)) (.mk (kindBin op false false (unBx (intOp op)) (slow o) (fun tm => aval x tm) fun tm => aval y tm)))))
    cases h1 : isPtr P t with
    | true => exact mok_bin op t t' x y h true false (fun _ => h1) (fun e => by cases e)
    | false => cases h2 : isSl P t with
      | true => exact mok_bin op t t' x y h false true (fun e => by cases e) (fun _ => h2)
      | false => exact mok_bin op t t' x y h false false (fun e => by cases e) (fun e => by cases e)
  | convert c d x => exact mok_convert c d x h
  | makeFunc fn a c => exact mok_makeFunc fn a c h
  | makeSlice t l c =>
    show MOK P o (unBx (match elemB P t with | some e => aMakeSlice P e (fun tm => aval l tm) (fun tm => aval c tm) | none => (.mk fun _ _ _ => .no : Bx M)))
    cases he : elemB P t with
    | none => exact mok_no'
    | some e => exact mok_makeSlice t l c h e he
  | makeMap t r => cases r with
    | none => exact mok_makeMap t h
    | some _ => exact mok_no'
  | lookup t m k ok =>
    cases ok with
    | true => exact mok_no'
    | false => exact mok_lookup t m k h
  | mapUpdate t m k x => exact mok_mapUpdate t m k x h
  | slice t x lo hi mx => cases mx with
    | none => exact mok_slice t x lo hi h
    | some _ => exact mok_no'
  | fieldAddr s x f => exact mok_field s x f h
  | field s x f => exact mok_fieldV s x f h
  | indexAddr t x i => exact mok_index t x i h
  | index t x i =>
    show MOK P o (unBx (match P.underlying t with | some .string => (.mk (aIndexStr (fun tm => aval x tm) (fun tm => aval i tm)) : Bx M) | _ => .mk (slow o)))
    split
    · rename_i hu; exact mok_indexStr t x i h hu
    · exact mok_slow P o
  | range t x =>
    show MOK P o (unBx (ite' (isTx P t) (.mk fun _ tm H => onO (aval x tm) .no fun v => vRange v H) (.mk fun _ _ _ => .no)))
    cases ht : isTx P t with
    | true => exact mok_range t x h ht
    | false => exact mok_no'
  | next it str =>
    cases str with
    | true => exact mok_next it h
    | false => exact mok_no'
  | extract x i => exact mok_extract x i h
  | call c => exact mok_call po c h
  | unOp _ _ _ => exact mok_slow P o
  | _ => exact mok_no'
end
end Go.Ev
