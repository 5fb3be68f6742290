import Derived.Test.YtnoppeocbfapdaaGreatDoorEvQ
import Derived.Lib.Builder
import Derived.Lib.UnsafeStr
import Derived.Laws.BytesString
import Derived.Deep.MidRow
/-! The evaluator's operations answer as the model's do (3): lengths, reads of cells, conversions. -/
namespace Go.Ev
open Go Go.RowKit
set_option linter.unusedVariables false
set_option linter.unusedSimpArgs false
section
variable {P : Program} {o : Oper}
theorem GS.cells {B : Nat} {W0 : World} {H : HP} {ι : Inj} {w : World} (g : GS P B W0 ι H w) {b : Nat} {c : List AV} {e : TypeId} {own : Bool} (hb : H.get b = .cells c e own) :
    ∃ r S z cs fr, ι b = .live r S z ∧ w.heap[r]? = some (.cells cs e fr) ∧ cs.size = S ∧ zOf P e = z ∧ cellsR ι c cs ∧ (own = true → fr = (0, 0) ∧ B ≤ r) := by
  obtain ⟨r, S, z, h⟩ := g.hr.alive b (by rw [hb]; simp)
  have := g.hr.blk b r S z h
  rw [hb] at this
  obtain ⟨cs, fr, h1, h2, h3, h4, h5⟩ := this
  exact ⟨r, S, z, cs, fr, h, h1, h2, h3, h4, h5⟩
theorem cellsR_sub {ι : Inj} {c : List AV} {cs : Array Value} (h : cellsR ι c cs) (q n : Nat) (hle : q + n ≤ c.length) :
    ∃ vs : List Value, vs.length = n ∧ F2 (fun (a : AV) v => RV2 ι a.val v) ((c.drop q).take n) vs ∧ ∀ j v, vs[j]? = some v → cs[q + j]? = some v := by
  have h1 := h.1
  refine ⟨(cs.toList.drop q).take n, by simp; omega, ⟨by simp; omega, fun i v hv => ?_⟩, fun j v hj => ?_⟩
  · rw [List.getElem?_take] at hv
    split at hv
    · rename_i hi
      rw [List.getElem?_drop] at hv
      obtain ⟨v', a, b⟩ := h.2 _ _ hv
      refine ⟨v', ?_, b⟩
      rw [List.getElem?_take, if_pos hi, List.getElem?_drop]; simpa using a
    · cases hv
  · rw [List.getElem?_take] at hj
    split at hj
    · rw [List.getElem?_drop] at hj; simpa using hj
    · cases hj
theorem cell_row {w : World} {r q : Nat} {cs : Array Value} {e : TypeId} {fr : Nat × Nat} (h : w.heap[r]? = some (.cells cs e fr)) : w.cell? ⟨r, q, none⟩ = cs[q]? := by
  simp [World.cell?, h]
/-- n cells from a place on -/
theorem cellsK_ok {Q : R → Prop} (hno : Q .no) {B : Nat} {W0 : World} {H : HP} {ι : Inj} {w : World} (g : GS P B W0 ι H w) {b q n : Nat} {k : List AV → R}
    (h : ∀ r S z c e own vs, H.get b = .cells c e own → ι b = .live r S z → q + n ≤ S → q + n ≤ c.length → vs.length = n → F2 (fun (a : AV) v => RV2 ι a.val v) ((c.drop q).take n) vs → w.rangeAt r q vs → Q (k ((c.drop q).take n))) : Q (cellsK H b q n .no k) := by
  unfold cellsK
  rw [onCells_eq]
  cases hb : H.get b with
  | cells c e own =>
    dsimp only
    rw [lenS_eq, dropR_eq, takeK_eq]
    cases hle : Nat.ble (Nat.add q n) c.length with
    | false => exact hno
    | true =>
      rw [ite'_true]
      have hle' : q + n ≤ c.length := Nat.le_of_ble_eq_true hle
      obtain ⟨r, S, z, cs, fr, h1, h2, h3, h4, h5, h6⟩ := g.cells hb
      obtain ⟨vs, v1, v2, v3⟩ := cellsR_sub h5 q n hle'
      exact h r S z c e own vs hb h1 (by have := h5.1; omega) hle' v1 v2 fun j v hj => by rw [cell_row h2]; exact v3 j v hj
  | _ => exact hno
theorem bytesA_ok {Q : R → Prop} (hno : Q .no) {ι : Inj} {l : List AV} {vs : List Value} (h : F2 (fun (a : AV) v => RV2 ι a.val v) l vs) : ∀ {k : List UInt8 → R},
    (∀ z : List UInt8, vs = z.map (fun x => Value.int .u8 x.toNat) → Q (k z)) → Q (bytesA l .no k) := by
  induction l generalizing vs with
  | nil => intro k hk; rw [h.nil_inv] at hk; exact hk [] rfl
  | cons x l ih =>
    intro k hk
    obtain ⟨y, r, rfl, h1, h2⟩ := h.inv
    cases x with
    | i kd n =>
      show Q (ite' (eqK kd .u8) (Int.rec (motive := fun _ => R) (fun m => ite' (Nat.blt m 256) (bytesA l .no fun z => k (UInt8.ofNat m :: z)) .no) (fun _ => .no) n) .no)
      cases hk8 : eqK kd .u8 with
      | false => exact hno
      | true =>
        obtain rfl := eqK_eq hk8
        rw [ite'_true]
        cases n with
        | negSucc m => exact hno
        | ofNat m =>
          show Q (ite' (Nat.blt m 256) (bytesA l .no fun z => k (UInt8.ofNat m :: z)) .no)
          cases hm : Nat.blt m 256 with
          | false => exact hno
          | true =>
            have hm' : m < 256 := by rw [← Nat.blt_eq]; exact hm
            refine ih h2 fun z e => hk (UInt8.ofNat m :: z) ?_
            rw [e, h1.lit_inv rfl]
            have : (UInt8.ofNat m).toNat = m := by simp; omega
            simp only [List.map_cons, this]; rfl
    | _ => exact hno
theorem run_one {t : TypeId} (h : isOneB P t = true) (w : World) : (isAgg t).run P w = .ok false w := by
  unfold isOneB at h
  cases hu : P.underlying t with
  | none => rw [hu] at h; simp at h
  | some d =>
    rw [hu] at h
    unfold isAgg
    rw [Sem.run_bind, run_underlying hu]
    cases d <;> simp_all
theorem RA.agg {ι : Inj} {cs : Array Value} {v : Value} (h : RA ι (.o (.agg cs)) v) : ∃ cs', v = .agg cs' ∧ F2 (RV2 ι) cs.toList cs'.toList := by
  rcases h with h | h
  · cases h.1
  · cases h with
    | three h => cases h with
      | two h => cases h with
        | one h => cases h with
          | lit h => simp [AV.val, lit1] at h
      | agg ha => exact ⟨_, rfl, ha⟩
theorem mok_load (t : TypeId) (x : Operand) (h : o.op = .load t x) : MOK P o fun _ tm H => unBx (loadB P t) H (aval x tm) .no fun v => .val v H := by
  intro B W0 ι tm H a w hs g
  have hx := opd hs g.gl x
  dsimp only
  unfold loadB
  cases hi : P.info? t with
  | none => exact trivial
  | some j =>
    dsimp only
    cases hag : isAggB P t with
    | true =>
      show ROK P B W0 H ι w _ (loadN j.size H (aval x tm) .no fun v => .val v H)
      unfold loadN
      rw [onP_eq]
      cases ex : aval x tm with
      | p b q =>
        rw [ex] at hx
        refine cellsK_ok (Q := ROK P B W0 H ι w _) trivial g fun r S z c e own vs hb hl hle hle' hvl hv hrg => ?_
        rcases hx.p with ⟨r1, S1, z1, hl', hv'⟩ | ⟨hd', _⟩
        · rw [hl] at hl'; injection hl' with e3 e4 e5; subst e3
          refine .same g (v' := .agg vs.toArray) ?_ (.inr (.three (.agg (by simpa using F2.map hv))))
          unfold isAggB at hag
          cases hu : P.underlying t with
          | none => rw [hu] at hag; simp at hag
          | some d =>
            have hd : d.isRow = true := by rw [hu] at hag; cases d <;> simp_all
            have := run_loadAt_mid (P := P) w r q t vs d hrg hu hd (by rw [hi]; simp [hvl])
            simp [execOp, h, hv', this, Result.andThen]
        · rw [hl] at hd'; cases hd'
      | _ => exact trivial
    | false =>
      show ROK P B W0 H ι w _ (unBx (ite' (isOneB P t) (.mk load1) (.mk fun _ _ nx _ => nx)) H (aval x tm) .no fun v => .val v H)
      cases h1b : isOneB P t with
      | false => exact trivial
      | true =>
      show ROK P B W0 H ι w _ (load1 H (aval x tm) .no fun v => .val v H)
      unfold load1
      rw [onP_eq]
      cases ex : aval x tm with
      | p b q =>
        rw [ex] at hx
        dsimp only
        rw [onCells_eq]
        cases hb : H.get b with
        | cells c e own =>
          dsimp only
          rw [nthK_eq]
          cases hc : c[q]? with
          | none => exact trivial
          | some y =>
            obtain ⟨r, S, z, cs, fr, h1, h2, h3, h4, h5, h6⟩ := g.cells hb
            rcases hx.p with ⟨r1, S1, z1, hl', hv'⟩ | ⟨hd', _⟩
            · rw [h1] at hl'; injection hl' with e3 e4 e5; subst e3
              obtain ⟨v', v1, v2⟩ := h5.2 q y hc
              refine .same g (v' := v') ?_ (.inr (.three (.two v2)))
              have hcell : w.cell? ⟨r, q, none⟩ = some v' := by rw [cell_row h2]; exact v1
              simp [execOp, h, hv', Instr.loadAt, Instr.sureAddr, loadVar, run_one h1b, hcell, Result.andThen]
            · rw [h1] at hd'; cases hd'
        | _ => exact trivial
      | _ => exact trivial
/-- a value's field -/
theorem mok_fieldV (s : TypeId) (x : Operand) (f : Nat) (h : o.op = .field s x f) : MOK P o (unBx (aFieldV P (fun tm => aval x tm) (fieldB P s f))) := by
  intro B W0 ι tm H a w hs g
  have hx := opd hs g.gl x
  unfold aFieldV fieldB
  cases hu : P.underlying s with
  | none => exact trivial
  | some d =>
    cases d with
    | struct fs =>
      dsimp only
      cases hf : fs[f]? with
      | none => exact trivial
      | some fd =>
        dsimp only
        cases h1b : isOneB P fd.type with
        | false => exact trivial
        | true =>
          show ROK P B W0 H ι w _ (onO (aval x tm) .no fun v => match v with
            | .agg cs => match cs.toList[fd.offset]? with | some v => ofV v H | none => .no
            | _ => .no)
          rw [onO_eq]
          cases ex : aval x tm with
          | o v =>
            rw [ex] at hx
            cases v with
            | agg cs =>
              dsimp only
              cases hc : cs.toList[fd.offset]? with
              | none => exact trivial
              | some y =>
                dsimp only
                simp only [ofV, rval, force_eq]
                obtain ⟨cs', hv, hR⟩ : ∃ cs', a.eval x = .agg cs' ∧ F2 (RV2 ι) cs.toList cs'.toList := hx.agg
                obtain ⟨v', v1, v2⟩ := hR.2 _ _ hc
                refine .same g (v' := v') ?_ (RA.of (.three (.two v2)))
                have v1' : cs'[fd.offset]? = some v' := by simpa using v1
                simp [execOp, h, hv, Instr.field, run_underlying hu, hf, asAgg, part, run_one h1b, v1', Result.andThen]
            | _ => exact trivial
          | _ => exact trivial
    | _ => exact trivial
theorem isSl_ok {t : TypeId} (h : isSl P t = true) : ∃ e, P.underlying t = some (.slice e) := by
  unfold isSl at h
  cases hu : P.underlying t with
  | none => rw [hu] at h; simp at h
  | some d => rw [hu] at h; cases d <;> simp_all
theorem isTx_ok {t : TypeId} (h : isTx P t = true) : P.underlying t = some .string := by
  unfold isTx at h
  cases hu : P.underlying t with
  | none => rw [hu] at h; simp at h
  | some d => rw [hu] at h; cases d <;> simp_all
theorem elemB_ok {t e : TypeId} (h : elemB P t = some e) : P.underlying t = some (.slice e) := by
  unfold elemB at h
  cases hu : P.underlying t with
  | none => rw [hu] at h; simp at h
  | some d => rw [hu] at h; cases d <;> simp_all
/-- a builtin's call -/
theorem run_builtin {a : Act} {w : World} {c : Call} {b : Builtin} (h : o.op = .call c) (hc : c.callee = .builtin b) {l : List Operand} (ha : c.args.toList = l) {f : Array TypeId → TypeId → Array Value → Sem Value}
    (hb : ∀ ts t k vs, builtin b ts t k vs = (do pure (.value (← f ts t vs)))) {v : Value} {w' : World} (hr : (f c.argTypes o.type (l.map a.eval).toArray).run P w = .ok v w') : (execOp a.eval o).run P w = .ok (.value v) w' := by
  have hargs : c.args.map a.eval = (l.map a.eval).toArray := by
    rw [← Array.toList_inj]; simp [ha]
  simp [execOp, h, resolve, hc, hargs, invoke, hb, hr, Result.andThen]
theorem mok_lenS (c : Call) (x : Operand) (h : o.op = .call c) (hc : c.callee = .builtin .len) (ha : c.args.toList = [x]) (t : TypeId) (ts : List TypeId) (ht : c.argTypes.toList = t :: ts) (hsl : isSl P t = true) : MOK P o (aLenS (fun tm => aval x tm)) := by
  intro B W0 ι tm H a w hs g
  have hx := opd hs g.gl x
  obtain ⟨e, hu⟩ := isSl_ok hsl
  have ht0 : c.argTypes[0]? = some t := by rw [← Array.getElem?_toList, ht]; rfl
  have hrun : ∀ ad l k, a.eval x = .slice ad l k → (execOp a.eval o).run P w = .ok (.value (.int .i64 l)) w := fun ad l k hv =>
    run_builtin (f := Builtin.len_) h hc ha (fun _ _ _ _ => rfl) (by simp [Builtin.len_, ht0, hv, run_underlying hu, goInt, Result.andThen])
  unfold aLenS
  dsimp only
  cases ex : aval x tm with
  | s b q l k =>
    rw [ex] at hx
    obtain ⟨ad, c', hv, _⟩ := hx.sAdd
    exact .same g (hrun _ _ _ hv) (.mk_i _ _ _)
  | o v =>
    rw [ex] at hx
    cases v with
    | slice ad n k => cases ad with
      | none => exact .same g (hrun _ _ _ (hx.lit_inv rfl)) (.mk_i _ _ _)
      | some _ => exact trivial
    | _ => exact trivial
  | _ => exact trivial
theorem mok_lenT (c : Call) (x : Operand) (h : o.op = .call c) (hc : c.callee = .builtin .len) (ha : c.args.toList = [x]) (t : TypeId) (ts : List TypeId) (ht : c.argTypes.toList = t :: ts) (htx : isTx P t = true) : MOK P o (aLenT (fun tm => aval x tm)) := by
  intro B W0 ι tm H a w hs g
  have hx := opd hs g.gl x
  have hu := isTx_ok htx
  have ht0 : c.argTypes[0]? = some t := by rw [← Array.getElem?_toList, ht]; rfl
  unfold aLenT
  dsimp only
  rw [onO_eq]
  cases ex : aval x tm with
  | o v =>
    rw [ex] at hx
    cases v with
    | string s =>
      have hv := hx.lit_inv rfl
      dsimp only [onStr]
      rw [fNat_eq, lenS_eq]
      refine .same g (v' := .int .i64 s.size) (run_builtin (f := Builtin.len_) h hc ha (fun _ _ _ _ => rfl) ?_) (.mk_i _ _ _)
      simp [Builtin.len_, ht0, hv, AV.val, run_underlying hu, goInt, Result.andThen]
    | _ => exact trivial
  | _ => exact trivial
theorem mok_cap (c : Call) (x : Operand) (h : o.op = .call c) (hc : c.callee = .builtin .cap) (ha : c.args.toList = [x]) (t : TypeId) (ts : List TypeId) (ht : c.argTypes.toList = t :: ts) (hsl : isSl P t = true) : MOK P o (aCap (fun tm => aval x tm)) := by
  intro B W0 ι tm H a w hs g
  have hx := opd hs g.gl x
  obtain ⟨e, hu⟩ := isSl_ok hsl
  have ht0 : c.argTypes[0]? = some t := by rw [← Array.getElem?_toList, ht]; rfl
  unfold aCap
  dsimp only
  rw [onO_eq]
  cases ex : aval x tm with
  | o v =>
    rw [ex] at hx
    cases v with
    | slice ad n k => cases ad with
      | none =>
        have hv := hx.lit_inv rfl
        refine .same g (v' := .int .i64 k) (run_builtin (f := Builtin.cap_) h hc ha (fun _ _ _ _ => rfl) ?_) (.mk_i _ _ _)
        simp [Builtin.cap_, ht0, hv, AV.val, run_underlying hu, goInt, Result.andThen]
      | some _ => exact trivial
    | _ => exact trivial
  | _ => exact trivial
theorem mok_sliceData (c : Call) (x : Operand) (h : o.op = .call c) (hc : c.callee = .builtin .unsafeSliceData) (ha : c.args.toList = [x]) : MOK P o (aSliceData (fun tm => aval x tm)) := by
  intro B W0 ι tm H a w hs g
  have hx := opd hs g.gl x
  unfold aSliceData
  dsimp only
  cases ex : aval x tm with
  | s b q l k =>
    rw [ex] at hx
    rw [onV_s]
    obtain ⟨ad, c', hv, hle, hp⟩ := hx.sAdd
    cases hk : Nat.beq k 0 with
    | true => exact trivial
    | false =>
      have hk0 : k ≠ 0 := by intro e; rw [e] at hk; simp at hk
      refine .same g (v' := .pointer (some ad)) (run_builtin (f := Builtin.unsafeSliceData_) h hc ha (fun _ _ _ _ => rfl) ?_) ?_
      · rw [List.map_cons, List.map_nil, hv]
        exact Lib.run_unsafeSliceData_row w _ _ _ _ _ (by omega)
      · have := hp 0
        simpa [Addr.add] using this
  | _ => exact trivial
theorem mok_copy (c : Call) (x y : Operand) (h : o.op = .call c) (hc : c.callee = .builtin .copy) (ha : c.args.toList = [x, y]) (t : TypeId) (ts : List TypeId) (ht : c.argTypes.toList = t :: ts) (e : TypeId) (he : elemB P t = some e) (hi : (P.info? e).isSome = true) :
    MOK P o (aCopy (fun tm => aval x tm) (fun tm => aval y tm)) := by
  intro B W0 ι tm H a w hs g
  have hx := opd hs g.gl x
  have hy := opd hs g.gl y
  have hu := elemB_ok he
  obtain ⟨j, hj⟩ := Option.isSome_iff_exists.1 hi
  have ht0 : c.argTypes[0]? = some t := by rw [← Array.getElem?_toList, ht]; rfl
  unfold aCopy
  dsimp only
  cases ex : aval x tm with
  | s b q l k =>
    rw [ex] at hx
    rw [onV_s]
    obtain ⟨ad, c', hv, hle, hp⟩ := hx.sAdd
    cases hl : Nat.beq l 0 with
    | false => exact trivial
    | true =>
      rw [Nat.beq_eq] at hl
      subst hl
      rw [ite'_true, onO_eq]
      cases ey : aval y tm with
      | o v =>
        rw [ey] at hy
        dsimp only
        split
        · have hv2 := hy.lit_inv rfl
          refine .same g (v' := .int .i64 0) (run_builtin (f := Builtin.copy_) h hc ha (fun _ _ _ _ => rfl) ?_) (.mk_i _ _ _)
          simp [Builtin.copy_, ht0, hv, hv2, AV.val, run_underlying hu, goInt, Result.andThen, Builtin.lenOf, Builtin.firstCells, sizeOf, typeInfo, hj, storeCells]
        · exact trivial
      | _ => exact trivial
  | _ => exact trivial
theorem foldl_push (l : List UInt8) : ∀ acc : ByteArray, l.foldl (fun r x => r.push x) acc = ⟨acc.data ++ l.toArray⟩ := by
  induction l with
  | nil => intro acc; simp
  | cons x l ih => intro acc; rw [List.foldl_cons, ih]; apply ByteArray.ext; simp [ByteArray.push]
theorem bytes_fold (z : List UInt8) : (z.map fun x => (x.toNat : Int)).foldl (fun r n => r.push (UInt8.ofNat n.toNat)) ByteArray.empty = ⟨⟨z⟩⟩ := by
  have := foldl_push z ByteArray.empty
  rw [List.foldl_map]
  simpa using this
theorem mok_toStr (cs d : TypeId) (x : Operand) (h : o.op = .convert cs d x) (e : TypeId) (hu : P.underlying cs = some (.slice e)) (hu' : P.underlying d = some .string) (he : P.underlying e = some (.int .u8)) : MOK P o (aToStr (fun tm => aval x tm)) := by
  intro B W0 ι tm H a w hs g
  have hx := opd hs g.gl x
  unfold aToStr
  dsimp only
  cases ex : aval x tm with
  | s b q l k =>
    rw [ex] at hx
    rw [onV_s]
    refine cellsK_ok (Q := ROK P B W0 H ι w _) trivial g fun r S z c e' own vs hb hl hle hle' hvl hvs hrg => ?_
    refine bytesA_ok (Q := ROK P B W0 H ι w _) trivial hvs fun bs hns => ?_
    rcases hx.s with ⟨r1, S1, z1, c', hl', hc, hS, hv⟩ | ⟨hd', _⟩
    · rw [hl] at hl'; injection hl' with e3 e4 e5; subst e3
      refine .same g (v' := .string ⟨⟨bs⟩⟩) ?_ (.inr (.of_lit rfl))
      have hld : (loadCells ⟨r, q, none⟩ l).run P w = .ok ((bs.map fun x => (x.toNat : Int)).map (Value.int .u8)).toArray w := by
        have := run_loadCells_list (P := P) w ⟨r, q, none⟩ vs (fun j v hj => by rw [Addr.add_mid]; exact hrg j v hj)
        rw [hvl] at this
        rw [this, hns, List.map_map]; rfl
      have := run_bytesToString (P := P) w ⟨r, q, none⟩ l c' _ hld
      rw [bytes_fold] at this
      simp [execOp, h, hv, convert, run_underlying hu, run_underlying hu', run_underlying he, this, Result.andThen]
    · rw [hl] at hd'; cases hd'
  | _ => exact trivial
theorem mok_int2 (cs d : TypeId) (x : Operand) (h : o.op = .convert cs d x) (k1 k : IntKind) (hu : P.underlying cs = some (.int k1)) (hu' : P.underlying d = some (.int k)) :
    MOK P o fun P tm H => onV (aval x tm) (fun _ n => aInt k n H) (fun _ => .no) (fun _ _ => .no) (fun _ _ _ _ => .no) (fun _ => .no) (fun _ => .no) := by
  intro B W0 ι tm H a w hs g
  have hx := opd hs g.gl x
  dsimp only
  cases ex : aval x tm with
  | i k0 n =>
    rw [ex] at hx
    refine R_int g k n ?_
    simp [execOp, h, hx.i, convert, run_underlying hu, run_underlying hu', Conv.intToInt, Result.andThen]
  | _ => exact trivial
/-- to unsafe.Pointer and back -/
theorem mok_safe (c0 d : TypeId) (x : Operand) (h : o.op = .convert c0 d x) (t : TypeId) (hu : (P.underlying c0 = some (.pointer t) ∧ P.underlying d = some .unsafePointer) ∨ (P.underlying c0 = some .unsafePointer ∧ P.underlying d = some (.pointer t))) :
    MOK P o (aSafe P t (fun tm => aval x tm)) := by
  intro B W0 ι tm H a w hs g
  have hx := opd hs g.gl x
  unfold aSafe
  dsimp only
  rw [onP_eq]
  cases ex : aval x tm with
  | p b q =>
    rw [ex] at hx
    dsimp only
    rw [onCells_eq]
    cases hb : H.get b with
    | cells c e own =>
      dsimp only
      cases hc : (Nat.beq q 0 && Nat.beq e t && !Nat.beq (sizeB P t) 0 && Nat.ble (sizeB P t) (lenS c)) with
      | false => exact trivial
      | true =>
        rw [ite'_true]
        simp only [Bool.and_eq_true, Nat.beq_eq, lenS_eq, Bool.not_eq_true'] at hc
        obtain ⟨⟨⟨rfl, rfl⟩, h3⟩, h4⟩ := hc
        have h4' : sizeB P e ≤ c.length := Nat.le_of_ble_eq_true h4
        have h3' : sizeB P e ≠ 0 := by intro e0; rw [e0] at h3; simp at h3
        obtain ⟨r, S, z, cs, fr, h1, h2, h5, h6, h7, h8⟩ := g.cells hb
        rcases hx.p with ⟨r1, S1, z1, hl', hv⟩ | ⟨hd', _⟩
        · rw [h1] at hl'; injection hl' with e3 e4 e5; subst e3
          refine .same g (v' := .pointer (some ⟨r, 0, none⟩)) ?_ (RA.one (.ptr h1))
          have hsh : w.shape? r = some (e, cs.size) := by simp [World.shape?, h2]
          have hsz : sizeB P e ≤ cs.size := Nat.le_trans h4' h7.1
          unfold sizeB at h3' hsz
          cases hi : P.info? e with
          | none => rw [hi] at h3'; simp at h3'
          | some j =>
            rw [hi] at h3' hsz
            simp at h3' hsz
            have hrun : (convert c0 d (.pointer (some ⟨r, 0, none⟩))).run P w = .ok (.pointer (some ⟨r, 0, none⟩)) w := by
              rcases hu with ⟨hu, hu'⟩ | ⟨hu, hu'⟩
              · exact Lib.run_to_unsafe w _ hu hu' hi h3' hsh (by show 0 < cs.size; omega)
              · refine Lib.run_from_unsafe w _ hu hu' hi hsh ?_
                have hce : P.cellsOf e = j.size := by simp [Program.cellsOf, hi]
                rw [hce]
                have hd : P.depth = (2 * (P.types.size + Made.depth) + 1) + 1 := rfl
                rw [hd]
                simp only [liesAt, Bool.or_eq_true]
                left
                rw [hd]
                have : 1 ≤ cs.size / j.size := (Nat.one_le_div_iff (by omega)).2 hsz
                simp [rowAt, hce, h3', sameLayout, this]
            simp [execOp, h, hv, hrun, Result.andThen]
        · rw [h1] at hd'; cases hd'
    | _ => exact trivial
  | _ => exact trivial
end
end Go.Ev
