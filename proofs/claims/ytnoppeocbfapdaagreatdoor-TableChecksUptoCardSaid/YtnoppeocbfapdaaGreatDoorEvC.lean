import Derived.Test.YtnoppeocbfapdaaGreatDoorEvP
/-! The evaluator's operations answer as the model's do (9): bytes as a text; calls; all operations. -/
namespace Go.Ev
open Go Go.RowKit
set_option linter.unusedVariables false
set_option linter.unusedSimpArgs false
/-- what the evaluator takes of this program for granted: two functions that have no body, a name that none has -/
structure PO (P : Program) : Prop where
  ng : ∀ (f : Nat) (fn : Func), P.funcs[f]? = some fn → (fn.name == "runtime.NumGoroutine") = false
  ne : ∀ x w, (callFunc fNoEscape #[x]).run P w = .ok (.value x) w
  nz : ∃ ps t, (P.funcs[fMakeNoZero]?).bind (fun (fn : Func) => fn.resultTypes[0]?) = some t ∧ ∀ x w v w', (Extern.BytealgMakeNoZero.makeNoZero ps #[t] #[x]).run P w = .ok v w' → (callFunc fMakeNoZero #[x]).run P w = .ok (.value v) w'
section
variable {P : Program} {o : Oper}
theorem isN64_ok {Q : R → Prop} (hno : Q .no) {ι : Inj} {av : AV} {v : Value} {k : Nat → R} (hv : RA ι av v) (h : ∀ (n : Nat), v = .int .i64 n → Q (k n)) : Q (isN64 av .no k) := by
  cases av with
  | i kd n =>
    show Q (ite' (eqK kd .i64) (Int.rec (motive := fun _ => R) k (fun _ => .no) n) .no)
    cases hk : eqK kd .i64 with
    | false => exact hno
    | true =>
      obtain rfl := eqK_eq hk
      rw [ite'_true]
      cases n with
      | ofNat n => exact h n hv.i
      | negSucc n => exact hno
  | _ => exact hno
theorem mok_unsafeStr (c : Call) (x y : Operand) (h : o.op = .call c) (hc : c.callee = .builtin .unsafeString) (ha : c.args.toList = [x, y]) (t : TypeId) (ts : List TypeId) (ht : c.argTypes.toList = t :: ts) (e : TypeId) (hu : P.underlying t = some (.pointer e)) (h1e : sizeB P e = 1)
    (hts : ∃ it, ts = [it]) : MOK P o (aUnsafeStr e (fun tm => aval x tm) (fun tm => aval y tm)) := by
  intro B W0 ι tm H a w hs g
  have hx := opd hs g.gl x
  have hy := opd hs g.gl y
  obtain ⟨it, rfl⟩ := hts
  have htsA : c.argTypes = #[t, it] := by rw [← Array.toList_inj, ht]
  unfold aUnsafeStr
  dsimp only
  refine isN64_ok (Q := ROK P B W0 H ι w _) trivial hy fun n hn_ => ?_
  cases n with
  | zero => exact trivial
  | succ n =>
    show ROK P B W0 H ι w _ (onP (aval x tm) .no fun b o => onCells (H.get b) .no fun cs e' w => ite' (w && Nat.beq o 0 && Nat.beq e' e && Nat.ble n 1000000) (cellsK H b o (n + 1) .no fun c => bytesA c .no fun z => H.setK b (.cells cs e' false) .no fun H => .val (mkS z) H) .no)
    rw [onP_eq]
    cases ex : aval x tm with
    | p b q =>
      rw [ex] at hx
      dsimp only
      rw [onCells_eq]
      cases hb : H.get b with
      | cells c0 e' own =>
        dsimp only
        cases hcnd : (own && Nat.beq q 0 && Nat.beq e' e && Nat.ble n 1000000) with
        | false => exact trivial
        | true =>
          simp only [Bool.and_eq_true, Nat.beq_eq] at hcnd
          obtain ⟨⟨⟨rfl, rfl⟩, rfl⟩, hmil⟩ := hcnd
          have hmil' : n ≤ 1000000 := Nat.le_of_ble_eq_true hmil
          rw [ite'_true]
          refine cellsK_ok (Q := ROK P B W0 H ι w _) trivial g fun r S z c e2 own2 vs hb2 hl hle hle' hvl hvs hrg => ?_
          refine bytesA_ok (Q := ROK P B W0 H ι w _) trivial hvs fun bs hbs => ?_
          obtain ⟨r', S', z', cs, fr, h1, h3, h4, h5, h6, h7⟩ := g.cells hb
          rw [h1] at hl; injection hl with a1 a2 a3; subst a1; subst a2; subst a3
          obtain ⟨rfl, hB⟩ := h7 rfl
          rcases hx.p with ⟨r1, S1, z1, hl', hv⟩ | ⟨hd', _⟩
          · rw [h1] at hl'; injection hl' with e3 e4 e5; subst e3
            have hbl : bs.length = n + 1 := by rw [← hvl, hbs]; simp
            have hce : P.cellsOf e' = 1 := h1e
            have hsh : w.shape? r' = some (e', cs.size) := by simp [World.shape?, h3]
            have hcell : ∀ j b, bs[j]? = some b → w.cell? ((⟨r', 0, none⟩ : Addr).add j) = some (.int .u8 b.toNat) := fun j b hj => by
              rw [Addr.add_mid]
              exact hrg j _ (by rw [hbs]; simp [hj])
            have hrow := Lib.run_unsafeString_row (P := P) w t it o.type e' hu hce r' cs.size hsh bs (by intro e0; rw [e0] at hbl; simp at hbl) (by omega) (by omega) hcell
            have hfr : (w.freeze ⟨r', 0, none⟩ bs.length).heap[r']? = some (.cells cs e' (0, bs.length)) := by
              have h0 : bs.length ≠ 0 := by omega
              simp [World.freeze, h0, Array.getElem?_modify, h3]
            have hne : ∀ k, k ≠ r' → (w.freeze ⟨r', 0, none⟩ bs.length).heap[k]? = w.heap[k]? := fun k hk => by
              have h0 : bs.length ≠ 0 := by omega
              simp only [World.freeze, if_neg h0, Array.getElem?_modify]
              rw [if_neg (by omega)]
            have hsz : (w.freeze ⟨r', 0, none⟩ bs.length).heap.size = w.heap.size := by
              have h0 : bs.length ≠ 0 := by omega
              simp [World.freeze, h0]
            refine set_ok (Q := ROK P B W0 H ι w _) trivial g h1 (.cells c0 e' false) (w.freeze ⟨r', 0, none⟩ bs.length) hne (by omega) (Lib.below_freeze g.below hB _) ⟨cs, _, hfr, h4, h5, h6, fun e0 => by cases e0⟩ fun H1 hs1 g1 => ?_
            refine ⟨hs1, _, _, ι, .inl (run_builtin (f := Builtin.unsafeString_) h hc ha (fun _ _ _ _ => rfl) ?_), Ext.refl H ι, .inr (.of_lit rfl), g1⟩
            rw [htsA, List.map_cons, List.map_cons, List.map_nil, hv, hn_]
            have e9 : ((n + 1 : Nat) : Int) = (bs.length : Int) := by omega
            rw [e9]
            exact hrow
          · rw [h1] at hd'; cases hd'
      | _ => exact trivial
    | _ => exact trivial
theorem digits_one : ∀ (n t : Nat) (acc : Array Value), (∀ v ∈ acc.toList, v.oneCell' = true ∧ nob v = true) → ∀ v ∈ (Extern.BytealgMakeNoZero.digits n t acc).toList, v.oneCell' = true ∧ nob v = true
  | 0, _, _, h => h
  | n + 1, t, acc, h => by
    rw [Extern.BytealgMakeNoZero.digits]
    exact digits_one n _ _ (by
      intro v hv
      rw [Array.toList_push, List.mem_append] at hv
      rcases hv with hv | hv
      · exact h v hv
      · rw [List.mem_singleton] at hv; subst hv; exact ⟨rfl, rfl⟩)
/-- .. with what its cells are -/
theorem run_noZero (w : World) (ps : Array TypeId) (t e : TypeId) (ht : P.underlying t = some (.slice e)) (n : Nat) (hn : n ≤ 281474976710656) :
    ∃ cs : Array Value, (Extern.BytealgMakeNoZero.makeNoZero ps #[t] #[.int .i64 n]).run P w = .ok (.slice (some ⟨w.heap.size, 0, none⟩) n cs.size) (w.drew.drew.alloc (.cells cs e)) ∧ n ≤ cs.size ∧ ∀ v ∈ cs.toList, v.oneCell' = true ∧ nob v = true := by
  have hdef : Extern.BytealgMakeNoZero.makeNoZero ps #[t] #[.int .i64 n] =
      (do
        let .slice elem ← underlying t | stuck "bytealg.MakeNoZero: slice type expected"
        if (n : Int) < 0 || (n : Int) > 2 ^ 48 then runtimePanic (.error "makeslice: len out of range")
        let cap ← choose (.appendCap (n : Int).toNat 0 elem)
        askRoom cap
        let bytes ← choose (.extern "internal/bytealg.MakeNoZero.bytes" 0)
        let a ← newRow elem (Extern.BytealgMakeNoZero.digits cap bytes #[])
        pure (.slice (some a) (n : Int).toNat cap)) := rfl
  refine ⟨Extern.BytealgMakeNoZero.digits (grownCap w n 0 e) ((Question.extern "internal/bytealg.MakeNoZero.bytes" 0).cut (w.tape (w.drawn + 1) (.extern "internal/bytealg.MakeNoZero.bytes" 0))) #[], ?_, ?_, digits_one _ _ _ (by simp)⟩
  · rw [hdef]
    have h1 : ¬ (n : Int) < 0 := by omega
    have h2 : ¬ (281474976710656 : Int) < (n : Int) := by omega
    simp [run_underlying ht, h1, h2, Question.forced, newRow, Lib.size_digits, grownCap]
  · rw [Lib.size_digits]
    simpa using grownCap_ge w n 0 e
theorem run_callF {a : Act} {w : World} {c : Call} {f : FuncId} (h : o.op = .call c) (hc : c.callee = .value (.func f)) : (execOp a.eval o).run P w = (callFunc f (c.args.map a.eval)).run P w := by
  have : a.eval (.func f) = .func (.func f) #[] #[] := rfl
  simp [execOp, h, resolve, hc, this, Deferred.ofValue, invoke]
theorem run_enter (po : PO P) {f : FuncId} (hb : bodied P f = true) (args : Array Value) (w : World) : (callFunc f args).run P w = .ok (.enter f args) w := by
  unfold bodied at hb
  cases hf : P.funcs[f]? with
  | none => rw [hf] at hb; simp at hb
  | some fn =>
    rw [hf] at hb
    dsimp only at hb
    have hn_ : fn.name ≠ "runtime.NumGoroutine" := by simpa using po.ng f fn hf
    have : fn.body ≠ none := by intro e; rw [e] at hb; simp at hb
    simp [callFunc, hf, hn_, this]
theorem mok_callF (po : PO P) (c : Call) (f : FuncId) (h : o.op = .call c) (hc : c.callee = .value (.func f)) : MOK P o (unBx (aCallF P (slow o) f c.args.toList)) := by
  intro B W0 ι tm H a w hs g
  unfold aCallF
  cases hb : bodied P f with
  | true =>
    show ROK P B W0 H ι w _ (avals c.args.toList tm fun l => .enter f l)
    rw [avals_eq]
    refine ⟨c.args.toList.map a.eval, ?_, avals_ok hs g.gl _⟩
    rw [run_callF h hc, run_enter po hb]
    congr 2
    rw [← Array.toList_inj]; simp
  | false =>
    rw [ite'_false]
    cases ha : c.args.toList with
    | nil => exact mok_slow P o B W0 ι tm H a w hs g
    | cons x r =>
      cases r with
      | cons y r => exact mok_slow P o B W0 ι tm H a w hs g
      | nil =>
        have hargs : c.args.map a.eval = #[a.eval x] := by rw [← Array.toList_inj]; simp [ha]
        show ROK P B W0 H ι w _ (unBx (ite' (Nat.beq f fNoEscape) (.mk fun _ tm H => .val (aval x tm) H) (ite' (Nat.beq f fMakeNoZero) (aNoZero P f fun tm => aval x tm) (.mk (slow o)))) P tm H)
        cases h1 : Nat.beq f fNoEscape with
        | true =>
          rw [Nat.beq_eq] at h1; subst h1
          refine .same g (v' := a.eval x) ?_ (opd hs g.gl x)
          rw [run_callF h hc, hargs, po.ne]
        | false =>
          rw [ite'_false]
          cases h2 : Nat.beq f fMakeNoZero with
          | false => exact mok_slow P o B W0 ι tm H a w hs g
          | true =>
            rw [Nat.beq_eq] at h2; subst h2
            rw [ite'_true]
            obtain ⟨ps, t, ht, hrun⟩ := po.nz
            unfold aNoZero
            cases hf : P.funcs[fMakeNoZero]? with
            | none => rw [hf] at ht; cases ht
            | some fn =>
              rw [hf] at ht
              have ht' : fn.resultTypes[0]? = some t := ht
              show ROK P B W0 H ι w _ (unBx (match (fn.resultTypes[0]?).bind (elemB P) with
                | some e => (ite' (Nat.beq (zOf P e) 1) (.mk fun _ tm H => isN64 (aval x tm) .no fun n => ite' (Nat.ble n 100000) (newSlice H n n (repR un n) e) .no) (.mk fun _ _ _ => .no) : Bx M)
                | none => (.mk fun _ _ _ => .no : Bx M)) P tm H)
              rw [ht']
              show ROK P B W0 H ι w _ (unBx (match elemB P t with
                | some e => (ite' (Nat.beq (zOf P e) 1) (.mk fun _ tm H => isN64 (aval x tm) .no fun n => ite' (Nat.ble n 100000) (newSlice H n n (repR un n) e) .no) (.mk fun _ _ _ => .no) : Bx M)
                | none => (.mk fun _ _ _ => .no : Bx M)) P tm H)
              cases he : elemB P t with
              | none => exact trivial
              | some e =>
                dsimp only
                cases hz : Nat.beq (zOf P e) 1 with
                | false => exact trivial
                | true =>
                  rw [Nat.beq_eq] at hz
                  show ROK P B W0 H ι w _ (isN64 (aval x tm) .no fun n => ite' (Nat.ble n 100000) (newSlice H n n (repR un n) e) .no)
                  refine isN64_ok (Q := ROK P B W0 H ι w _) trivial (opd hs g.gl x) fun n hn_ => ?_
                  cases hn1 : Nat.ble n 100000 with
                  | false => exact trivial
                  | true =>
                    have hn2 : n ≤ 100000 := Nat.le_of_ble_eq_true hn1
                    rw [ite'_true, repR_eq]
                    obtain ⟨cs, r1, r2, r3⟩ := run_noZero (P := P) w ps t e (elemB_ok he) n (by omega)
                    refine newSlice_ok g n n cs.size _ e cs (w.drew.drew.alloc (.cells cs e)) rfl (g.below.drew.drew.alloc g.size _) ?_ r2 (by rw [hz]; omega) ?_
                    · refine ⟨by simpa using r2, fun i y hy => ?_⟩
                      rw [List.getElem?_replicate] at hy
                      split at hy
                      · rename_i hi
                        injection hy with hy; subst hy
                        have hi' : i < cs.size := by omega
                        refine ⟨cs[i], by simp [hi'], .one (.un (r3 _ (by simp)).1 (r3 _ (by simp)).2)⟩
                      · cases hy
                    · rw [run_callF h hc, hargs, hn_]
                      exact hrun _ _ _ _ r1
theorem RA.func {ι : Inj} {f : Fn} {a c : Array Value} {v : Value} (h : RA ι (.o (.func f a c)) v) : ∃ a' c', v = .func f a' c' ∧ F2 (RV1 ι) a.toList a'.toList ∧ F2 (RV1 ι) c.toList c'.toList := by
  rcases h with h | h
  · cases h.1
  · cases h with
    | three h => cases h with
      | two h => cases h with
        | one h => cases h with
          | lit h => simp [AV.val, lit1] at h
        | fn ha hc => exact ⟨_, _, rfl, ha, hc⟩
theorem RA.ofs {ι : Inj} {l : List Value} {vs : List Value} (h : F2 (RV1 ι) l vs) : F2 (RA ι) (l.map AV.of) vs := F2.map (h.imp fun _ _ h => RA.of (.three (.two (.one h))))
theorem mok_callV (po : PO P) (c : Call) (x : Operand) (h : o.op = .call c) (hc : c.callee = .value x) : MOK P o fun P tm _ => aCallV c.args.toList (aval x tm) P tm := by
  intro B W0 ι tm H a w hs g
  have hx := opd hs g.gl x
  dsimp only
  unfold aCallV
  rw [onO_eq]
  cases ex : aval x tm with
  | o v =>
    rw [ex] at hx
    dsimp only
    rw [avals_eq]
    unfold vCall
    split
    · rename_i f first cap
      cases hb : bodied P f with
      | false => exact trivial
      | true =>
        rw [ite'_true, forceL_eq, forceL_eq]
        obtain ⟨a', c', hv, h1, h2⟩ := hx.func
        refine ⟨a'.toList ++ c.args.toList.map a.eval ++ c'.toList, ?_, ?_⟩
        · have e : (execOp a.eval o).run P w = (callFunc f (a' ++ c.args.map a.eval ++ c')).run P w := by
            simp [execOp, h, resolve, hc, hv, Deferred.ofValue, invoke]
          rw [e, run_enter po hb]
          congr 2
          rw [← Array.toList_inj]; simp
        · exact ((RA.ofs h1).append (avals_ok hs g.gl _)).append (RA.ofs h2)
    · exact trivial
  | _ => exact trivial
end
end Go.Ev
