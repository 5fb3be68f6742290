import Derived.Test.YtnoppeocbfapdaaGreatDoorEvX
/-! The evaluator's operations answer as the model's do (6): functions, maps, structs, slices built. -/
namespace Go.Ev
open Go Go.RowKit
set_option linter.unusedVariables false
set_option linter.unusedSimpArgs false
theorem avals_eq {β : Type} (l : List Operand) (tm : Tr AV) (k : List AV → β) : avals l tm k = k (l.map fun x => aval x tm) := by
  induction l generalizing k with
  | nil => rfl
  | cons x l ih =>
    have : avals (x :: l) tm k = (aval x tm).force fun v => avals l tm fun z => k (v :: z) := rfl
    rw [this, force_eq, ih]; rfl
section
variable {P : Program} {o : Oper}
theorem plain_ok {ι : Inj} {av : AV} {v : Value} (h : plain av = true) (hv : RA ι av v) : RV1 ι av.val v := by
  cases av with
  | i kd n => rw [hv.i]; exact .lit rfl
  | b x => rw [hv.b]; exact .lit rfl
  | p x y =>
    rcases hv.p with ⟨r, S, z, hl, rfl⟩ | ⟨hd, a, rfl⟩
    · exact .ptr hl
    · exact .dptr hd
  | s x y l c =>
    rcases hv.s with ⟨r, S, z, c', hl, hc, hS, rfl⟩ | ⟨hd, a, c', hc, rfl⟩
    · exact .sl hl hc hS
    · exact .dsl hd hc
  | m x =>
    rcases hv.m with ⟨r, S, z, hl, rfl⟩ | ⟨hd, r, rfl⟩
    · exact .mp hl
    · exact .dmp hd
  | o u =>
    have h1 : lit1 u = true := h
    have h0 : lit0 u = true := by cases u <;> first | exact h1 | (simp [lit1] at h1)
    rw [hv.lit_inv h0]; exact .lit h1
theorem avals_ok {ι : Inj} {tm : Tr AV} {a : Act} (hs : SR ι tm a) (gl : ∀ g, g < 8 → ι g = .dead ∨ ∃ S z, ι g = .live g S z) (l : List Operand) : F2 (RA ι) (l.map fun x => aval x tm) (l.map a.eval) := by
  induction l with
  | nil => exact F2.nil _
  | cons x l ih => exact F2.cons (opd hs gl x) ih
theorem plains_ok {ι : Inj} {l : List AV} {vs : List Value} (h : F2 (RA ι) l vs) (hp : l.all plain = true) : F2 (RV1 ι) (l.map AV.val) vs := by
  induction l generalizing vs with
  | nil => rw [h.nil_inv]; exact F2.nil _
  | cons x l ih =>
    obtain ⟨y, r, rfl, h1, h2⟩ := h.inv
    simp only [List.all_cons, Bool.and_eq_true] at hp
    exact F2.cons (plain_ok hp.1 h1) (ih h2 hp.2)
theorem mok_makeFunc (fn : Fn) (first cap : Array Operand) (h : o.op = .makeFunc fn first cap) : MOK P o fun _ tm H => avals first.toList tm fun a => avals cap.toList tm fun c => ite' (a.all plain && c.all plain) (.val (.o (.func fn ⟨a.map AV.val⟩ ⟨c.map AV.val⟩)) H) .no := by
  intro B W0 ι tm H a w hs g
  dsimp only
  rw [avals_eq, avals_eq]
  cases hp : ((first.toList.map fun x => aval x tm).all plain && (cap.toList.map fun x => aval x tm).all plain) with
  | false => exact trivial
  | true =>
    rw [Bool.and_eq_true] at hp
    rw [ite'_true]
    refine .same g (v' := .func fn (first.map a.eval) (cap.map a.eval)) ?_ (.inr (.three (.two (.fn ?_ ?_))))
    · simp [execOp, h, Instr.makeFunc, Result.andThen]
    · simpa using plains_ok (avals_ok hs g.gl first.toList) hp.1
    · simpa using plains_ok (avals_ok hs g.gl cap.toList) hp.2
/- maps -/
theorem checkKey_int {kt : TypeId} {k : IntKind} (hu : P.underlying kt = some (.int k)) (e : Bool) (n : Nat) (kd : IntKind) (x : Int) (w : World) : (Instr.checkKey e (n + 1) kt (.int kd x)).run P w = .ok () w := by
  unfold Instr.checkKey
  simp [run_underlying hu, Result.andThen]
def MR (ι : Inj) (e : AV × AV) (e' : MapEntry) : Prop := RA ι e.1 e'.key ∧ RA ι e.2 e'.val
theorem findA_ok {Q : R → Prop} (hno : Q .no) {ι : Inj} (kd : IntKind) (n : Int) : ∀ {es : List (AV × AV)} {es' : List MapEntry}, F2 (MR ι) es es' → ∀ (i : Nat) {miss : R} {hit : Nat → AV → R},
    (Instr.findNow (.int kd) (.int kd n) es' i = some none → Q miss) →
    (∀ d a e', es'[d]? = some e' → e'.key = .int kd n → RA ι a e'.val → Instr.findNow (.int kd) (.int kd n) es' i = some (some (i + d, e'.val)) → Q (hit (i + d) a)) → Q (findA kd n .no miss hit es i) := by
  intro es
  induction es with
  | nil => intro es' h i miss hit hm hh; rw [h.nil_inv] at hm; exact hm rfl
  | cons x es ih =>
    intro es' h i miss hit hm hh
    obtain ⟨y, r, rfl, ⟨h1, h1'⟩, h2⟩ := h.inv
    obtain ⟨xk, xv⟩ := x
    cases xk with
    | i kd' m =>
      show Q (ite' (eqK kd kd') (ite' (eqI n m) (hit i xv) (findA kd n .no miss hit es (i + 1))) .no)
      cases hk : eqK kd kd' with
      | false => exact hno
      | true =>
        obtain rfl := eqK_eq hk
        rw [ite'_true, eqI_eq]
        have hkey : y.key = .int kd m := h1.i
        cases hnm : (n == m) with
        | true =>
          have hnm' : n = m := by simpa using hnm
          rw [ite'_true]
          exact hh 0 xv y rfl (by rw [hkey, hnm']) h1' (by simp [Instr.findNow, Instr.sameNow, hkey, hnm'])
        | false =>
          have hnm' : ¬ n = m := by simpa using hnm
          rw [ite'_false]
          have hstep : ∀ i, Instr.findNow (.int kd) (.int kd n) (y :: r) i = Instr.findNow (.int kd) (.int kd n) r (i + 1) := fun i => by simp [Instr.findNow, Instr.sameNow, hkey, hnm]
          refine ih h2 (i + 1) (fun e => hm (by rw [hstep]; exact e)) fun d a e' e1 e2 e3 e4 => ?_
          have := hh (d + 1) a e' (by simpa using e1) e2 e3 (by rw [hstep, e4]; congr 3; omega)
          rw [show i + (d + 1) = i + 1 + d by omega] at this
          exact this
    | _ => exact hno
theorem mapB_ok {t : TypeId} {kd : IntKind} {et : TypeId} (h : mapB P t = some (kd, et)) : ∃ kt, P.underlying t = some (.map kt et) ∧ P.underlying kt = some (.int kd) := by
  unfold mapB at h
  cases hu : P.underlying t with
  | none => rw [hu] at h; simp at h
  | some d =>
    rw [hu] at h
    cases d with
    | map kt et' =>
      dsimp only at h
      cases hk : P.underlying kt with
      | none => rw [hk] at h; simp at h
      | some d =>
        rw [hk] at h
        cases d <;> simp_all
    | _ => simp at h
theorem GS.map {B : Nat} {W0 : World} {H : HP} {ι : Inj} {w : World} (g : GS P B W0 ι H w) {b : Nat} {es : List (AV × AV)} {cl : Nat} (hb : H.get b = .mp es cl) :
    ∃ r S z es', ι b = .live r S z ∧ w.heap[r]? = some (.map es' cl) ∧ B ≤ r ∧ F2 (MR ι) es es'.toList := by
  obtain ⟨r, S, z, h⟩ := g.hr.alive b (by rw [hb]; simp)
  have := g.hr.blk b r S z h
  rw [hb] at this
  obtain ⟨es', h1, h2, h3⟩ := this
  exact ⟨r, S, z, es', h, h1, h2, h3⟩
theorem mok_lookup (t : TypeId) (m k : Operand) (h : o.op = .lookup t m k false) : MOK P o (unBx (aLookup P t (fun tm => aval m tm) (fun tm => aval k tm))) := by
  intro B W0 ι tm H a w hs g
  have hm := opd hs g.gl m
  have hk := opd hs g.gl k
  unfold aLookup
  cases hB : mapB P t with
  | none => exact trivial
  | some q =>
    obtain ⟨kd, et⟩ := q
    obtain ⟨kt, hu, hku⟩ := mapB_ok hB
    dsimp only
    cases hz : (P.info? et).bind (·.zero) with
    | none => exact trivial
    | some z =>
      dsimp only
      cases hl : lit0 z with
      | false => exact trivial
      | true =>
        rw [ite'_true]
        show ROK P B W0 H ι w _ (onV (aval k tm) _ _ _ _ _ _)
        cases ek : aval k tm with
        | i kd' n =>
          rw [ek] at hk
          rw [onV_i]
          cases hkk : eqK kd kd' with
          | false => exact trivial
          | true =>
            obtain rfl := eqK_eq hkk
            rw [ite'_true]
            show ROK P B W0 H ι w _ (onV (aval m tm) _ _ _ _ _ _)
            cases em : aval m tm with
            | m b =>
              rw [em] at hm
              rw [onV_m]
              cases hb : H.get b with
              | mp es cl =>
                obtain ⟨r, S, zz, es', h1, h2, h3, h4⟩ := g.map hb
                rcases hm.m with ⟨r1, S1, z1, hl', hv⟩ | ⟨hd', _⟩
                · rw [h1] at hl'; injection hl' with e3 e4 e5; subst e3
                  have hget : (getObj r).run P w = .ok (.map es' cl) w := by simp [getObj, Sem.run, h2]
                  have hck := checkKey_int hku es'.isEmpty 9999 kd n w
                  have hzv : (zeroValue et).run P w = .ok z w := by
                    cases hi : P.info? et with
                    | none => rw [hi] at hz; simp at hz
                    | some j =>
                      rw [hi] at hz
                      have hz' : j.zero = some z := by simpa using hz
                      simp [zeroValue, typeInfo, hi, hz', Result.andThen]
                  show ROK P B W0 H ι w _ (findA kd n .no (ofV z H) (fun _ x => .val x H) es 0)
                  refine findA_ok (Q := ROK P B W0 H ι w _) trivial kd n h4 0 (fun hf => ?_) fun d av e' e1 e2 e3 e4 => ?_
                  · simp only [ofV, rval, force_eq]
                    refine .same g (v' := z) ?_ (RA.of (.of_lit hl))
                    simp [execOp, h, hv, hk.i, Instr.lookup, run_underlying hu, hget, hck, Instr.findKey, run_underlying hku, hf, hzv, Result.andThen]
                  · refine .same g (v' := e'.val) ?_ e3
                    simp [execOp, h, hv, hk.i, Instr.lookup, run_underlying hu, hget, hck, Instr.findKey, run_underlying hku, e4, Result.andThen]
                · rw [h1] at hd'; cases hd'
              | _ => exact trivial
            | _ => exact trivial
        | _ => exact trivial
theorem F2.modify {α β : Type} {R : α → β → Prop} {l : List α} {l' : List β} (h : F2 R l l') (i : Nat) {f : α → α} {f' : β → β} (hf : ∀ x y, R x y → R (f x) (f' y)) : F2 R (l.modify i f) (l'.modify i f') := by
  induction l generalizing l' i with
  | nil => rw [h.nil_inv]; simpa using F2.nil R
  | cons z l ih => obtain ⟨y', r, rfl, h1, h2⟩ := h.inv; cases i with
    | zero => exact F2.cons (hf _ _ h1) h2
    | succ i => exact F2.cons h1 (ih h2 i)
theorem mok_mapUpdate (t : TypeId) (m k x : Operand) (h : o.op = .mapUpdate t m k x) : MOK P o (unBx (aMapUpdate P t (fun tm => aval m tm) (fun tm => aval k tm) (fun tm => aval x tm))) := by
  intro B W0 ι tm H a w hs g
  have hm := opd hs g.gl m
  have hk := opd hs g.gl k
  have hx := opd hs g.gl x
  unfold aMapUpdate
  cases hB : mapB P t with
  | none => exact trivial
  | some q =>
    obtain ⟨kd, et⟩ := q
    obtain ⟨kt, hu, hku⟩ := mapB_ok hB
    show ROK P B W0 H ι w _ (onV (aval k tm) _ _ _ _ _ _)
    cases ek : aval k tm with
    | i kd' n =>
      rw [ek] at hk
      rw [onV_i]
      cases hkk : eqK kd kd' with
      | false => exact trivial
      | true =>
        obtain rfl := eqK_eq hkk
        rw [ite'_true]
        show ROK P B W0 H ι w _ (onV (aval m tm) _ _ _ _ _ _)
        cases em : aval m tm with
        | m b =>
          rw [em] at hm
          rw [onV_m]
          cases hb : H.get b with
          | mp es cl =>
            obtain ⟨r, S, zz, es', h1, h2, h3, h4⟩ := g.map hb
            rcases hm.m with ⟨r1, S1, z1, hl', hv⟩ | ⟨hd', _⟩
            · rw [h1] at hl'; injection hl' with e3 e4 e5; subst e3
              have hget : (getObj r).run P w = .ok (.map es' cl) w := by simp [getObj, Sem.run, h2]
              have hck := checkKey_int hku false 9999 kd n w
              have hr_ : r < w.heap.size := (Array.getElem?_eq_some_iff.1 h2).1
              show ROK P B W0 H ι w _ (findA kd n .no (fNat (Nat.succ cl) fun cl' => H.setK b (.mp (es ++ [(.i kd n, aval x tm)]) cl') .no fun H => .val un H)
                (fun i _ => H.setK b (.mp (es.modify i fun e => (.i kd n, aval x tm)) cl) .no fun H => .val un H) es 0)
              refine findA_ok (Q := ROK P B W0 H ι w _) trivial kd n h4 0 (fun hf => ?_) fun d av e' e1 e2 e3 e4 => ?_
              · rw [fNat_eq]
                refine put_ok (Q := ROK P B W0 H ι w _) trivial g h1 (.mp (es ++ [(.i kd n, aval x tm)]) (cl + 1)) (.map (es'.push { key := .int kd n, val := a.eval x, born := cl }) (cl + 1)) h3 ⟨_, put_get hr_, h3, ?_⟩ fun H1 hs1 g1 => ?_
                · rw [Array.toList_push]
                  exact h4.append (F2.cons ⟨.mk_i _ _ _, hx⟩ (F2.nil _))
                · refine ⟨hs1, undef, _, ι, .inr ⟨?_, rfl⟩, Ext.refl H ι, RA.un _ rfl, g1⟩
                  have hset := run_put (P := P) h2 (by intro c e f h; cases h) (.map (es'.push { key := .int kd n, val := a.eval x, born := cl }) (cl + 1))
                  simp [execOp, h, hv, hk.i, Instr.mapUpdate, run_underlying hu, hget, hck, Instr.findKey, run_underlying hku, hf, hset, Result.andThen]
              · refine put_ok (Q := ROK P B W0 H ι w _) trivial g h1 (.mp (es.modify (0 + d) fun e => (.i kd n, aval x tm)) cl) (.map (es'.modify (0 + d) fun e => { e with key := .int kd n, val := a.eval x }) cl) h3 ⟨_, put_get hr_, h3, ?_⟩ fun H1 hs1 g1 => ?_
                · rw [Array.toList_modify]
                  exact h4.modify _ fun _ _ _ => ⟨.mk_i _ _ _, hx⟩
                · refine ⟨hs1, undef, _, ι, .inr ⟨?_, rfl⟩, Ext.refl H ι, RA.un _ rfl, g1⟩
                  have hset := run_put (P := P) h2 (by intro c e f h; cases h) (.map (es'.modify (0 + d) fun e => { e with key := .int kd n, val := a.eval x }) cl)
                  have hkey : ((es'[0 + d]?).map (·.key)).getD (Value.int kd n) = .int kd n := by
                    rw [Nat.zero_add]
                    have : es'[d]? = some e' := by simpa using e1
                    rw [this]; exact e2
                  have hks : ∀ v, (Instr.keyThatStays (.int kd n) v).run P w = (Instr.keyThatStays (.int kd n) v).run P w := fun _ => rfl
                  have hst : (Instr.keyThatStays (.int kd n) (.int kd n)).run P w = .ok (.int kd n) w := by
                    have : Instr.sameBits 10000 (.int kd n) (.int kd n) = true := by
                      show Instr.sameBits (9999 + 1) (.int kd n) (.int kd n) = true
                      simp [Instr.sameBits]
                    simp [Instr.keyThatStays, this]
                  simp only [execOp, h, hv, hk.i, Instr.mapUpdate, Sem.run_bind, run_underlying hu, hget, hck, Instr.findKey, run_underlying hku, e4, Result.andThen, Sem.run_pure]
                  rw [hkey]
                  simp only [Nat.zero_add] at hset
                  simp [hst, hset, Result.andThen]
            · rw [h1] at hd'; cases hd'
          | _ => exact trivial
        | _ => exact trivial
    | _ => exact trivial
end
end Go.Ev
