import Derived.Test.YtnoppeocbfapdaaGreatDoorEvR
/-! The evaluator's operations answer as the model's do (1): what leaves the heap alone. -/
namespace Go.Ev
open Go Go.RowKit
set_option linter.unusedVariables false
set_option linter.unusedSimpArgs false
def SR (ι : Inj) (tm : Tr AV) (a : Act) : Prop := ∀ t, RA ι (tget tm t) (a.tmps.getD t undef)
structure GS (P : Program) (B : Nat) (W0 : World) (ι : Inj) (H : HP) (w : World) : Prop where
  hr : HR P B ι H w
  gl : ∀ g, g < 8 → ι g = .dead ∨ ∃ S z, ι g = .live g S z
  below : Below B W0 w
  size : B ≤ w.heap.size
def OpV (P : Program) (B : Nat) (W0 : World) (H H1 : HP) (ι : Inj) (v : AV) (res : Result Next) : Prop :=
  ∃ v' w' ι', (res = .ok (.value v') w' ∨ (res = .ok .skip w' ∧ v = un)) ∧ Ext H ι ι' ∧ RA ι' v v' ∧ GS P B W0 ι' H1 w'
/-- one operation, carried out by both -/
def ROK (P : Program) (B : Nat) (W0 : World) (H : HP) (ι : Inj) (w : World) (res : Result Next) : R → Prop
  | .val v H1 => HS H H1 ∧ OpV P B W0 H H1 ι v res
  | .enter f args => ∃ args' : List Value, res = .ok (.enter f args'.toArray) w ∧ F2 (RA ι) args args'
  | .no => True
/-- .. for all states that it stands for -/
def MOK (P : Program) (o : Oper) (m : M) : Prop := ∀ (B : Nat) (W0 : World) (ι : Inj) (tm : Tr AV) (H : HP) (a : Act) (w : World), SR ι tm a → GS P B W0 ι H w → ROK P B W0 H ι w ((execOp a.eval o).run P w) (m P tm H)
theorem SR.mono {ι ι' : Inj} {tm : Tr AV} {a : Act} (h : SR ι tm a) (e : Ext0 ι ι') : SR ι' tm a := fun t => (h t).mono e
theorem opd {ι : Inj} {tm : Tr AV} {a : Act} (h : SR ι tm a) (gl : ∀ g, g < 8 → ι g = .dead ∨ ∃ S z, ι g = .live g S z) (x : Operand) : RA ι (aval x tm) (a.eval x) := by
  cases x with
  | tmp t => rw [aval_tmp]; exact h t
  | const v =>
    show RA ι (ite' (lit0 v) (AV.of v) un) v
    cases e : lit0 v with
    | true => exact RA.of (.of_lit e)
    | false => exact RA.un _ (by cases v <;> first | rfl | (simp [lit0, lit1] at e))
  | global g =>
    show RA ι (ite' (Nat.blt g 8) (.p g 0) un) (.pointer (some ⟨g, 0, none⟩))
    cases e : Nat.blt g 8 with
    | false => exact RA.un _ rfl
    | true =>
      rcases gl g (by rw [Nat.blt_eq] at e; exact e) with h | ⟨S, z, h⟩
      · exact RA.one (.dptr h)
      · exact RA.one (.ptr h)
  | func f => exact .inr (.three (.two (.fn (F2.nil _) (F2.nil _))))
theorem ROK.same {P : Program} {B : Nat} {W0 : World} {H : HP} {ι : Inj} {w : World} {res : Result Next} {v : AV} {v' : Value} (g : GS P B W0 ι H w) (hr : res = .ok (.value v') w) (hv : RA ι v v') : ROK P B W0 H ι w res (.val v H) :=
  ⟨HS.refl H, v', w, ι, .inl hr, Ext.refl H ι, hv, g⟩
theorem mok_no {P : Program} {o : Oper} : MOK P o fun _ _ _ => .no := fun _ _ _ _ _ _ _ _ _ => trivial
section
variable {P : Program} {o : Oper}
theorem mok_move (x : Operand) (h : o.op = .move x ∨ o.op = .assign x) : MOK P o fun _ tm H => .val (aval x tm) H := by
  intro B W0 ι tm H a w hs g
  exact .same g (by rcases h with h | h <;> simp [execOp, h]) (opd hs g.gl x)
theorem mok_pick (c x y : Operand) (h : o.op = .pick c x y) : MOK P o fun P tm H => aPick (fun tm => aval x tm) (fun tm => aval y tm) (aval c tm) P tm H := by
  intro B W0 ι tm H a w hs g
  have hc := opd hs g.gl c
  dsimp only
  cases e : aval c tm with
  | b q =>
    rw [e] at hc
    have hb := hc.b
    have hr : ∀ v, (if q = true then a.eval x else a.eval y) = v → (execOp a.eval o).run P w = .ok (.value v) w := by
      intro v hv; subst hv
      simp [execOp, h, hb, asBool]
    cases q with
    | true => exact .same g (hr _ rfl) (opd hs g.gl x)
    | false => exact .same g (hr _ rfl) (opd hs g.gl y)
  | _ => exact trivial
theorem mok_nil (x : Operand) (h : o.op = .nilCheck x) : MOK P o fun _ tm H => onP (aval x tm) .no fun b o => .val (.p b o) H := by
  intro B W0 ι tm H a w hs g
  have hx := opd hs g.gl x
  dsimp only
  rw [onP_eq]
  cases e : aval x tm with
  | p b q =>
    rw [e] at hx
    refine .same g (v' := a.eval x) ?_ hx
    rcases hx.p with ⟨r, S, z, _, hv⟩ | ⟨_, ad, hv⟩ <;> simp [execOp, h, hv]
  | _ => exact trivial
theorem mok_extract (x : Operand) (i : Nat) (h : o.op = .extract x i) : MOK P o fun _ tm H => aExtract i (aval x tm) H := by
  intro B W0 ι tm H a w hs g
  have hx := opd hs g.gl x
  simp only [aExtract, onO_eq]
  cases e : aval x tm with
  | o v =>
    rw [e] at hx
    cases v with
    | tuple vs =>
      simp only
      cases hi : vs.toList[i]? with
      | none => trivial
      | some y =>
        rcases hx with hx | hx
        · have hx := hx.1
          have : vs = #[] := by simpa [un, undef] using hx
          subst this; simp at hi
        · generalize hv : a.eval x = v' at hx
          cases hx with
          | three h => cases h with
            | two h => cases h with
              | one h => cases h with
                | lit h => simp [lit1, AV.val] at h
                | un h => simp at hi
          | tup ha =>
            rename_i a'
            obtain ⟨y', hy', hR⟩ := ha.2 i y hi
            simp only [ofV, rval, force_eq]
            refine .same g (v' := y') ?_ (RA.of (.three hR))
            have : a'[i]? = some y' := by simpa using hy'
            simp [execOp, h, hv, Instr.extract, this]
    | _ => exact trivial
  | _ => exact trivial
end
theorem prun_ok {α : Type} (P : Program) (m : Sem α) : ∀ {x : α}, prun P m = some x → ∀ w, m.run P w = .ok x w := by
  induction m with
  | pure a => intro x h w; simp [prun] at h; simp [Sem.run, h]
  | program k ih => intro x h w; simp only [Sem.run]; exact ih _ h w
  | mark m k ih => intro x h w; simp only [Sem.run]; exact ih h w
  | choose q k ih =>
    intro x h w
    simp only [prun] at h
    split at h
    · rename_i hf; simp only [Sem.run, hf, if_true]; exact ih _ h w
    · cases h
  | _ => intro x h w; simp [prun] at h
theorem mok_slow (P : Program) (o : Oper) : MOK P o (slow o) := by
  intro B W0 ι tm H a w hs g
  unfold slow
  cases hl : (o.op.operands.toList.all fun x => (match x with | .func _ => true | x => lit (aval x tm))) with
  | false => exact trivial
  | true =>
    rw [ite'_true]
    cases hp : prun P (execOp (fun x => (aval x tm).val) o) with
    | none => exact trivial
    | some n =>
      have hr := prun_ok P _ hp w
      cases n with
      | value v =>
        show ROK P B W0 H ι w _ (ite' (lit0 v) (ofV v H) .no)
        cases hv : lit0 v with
        | false => exact trivial
        | true =>
          have hsel : ∀ cs b, o.op ≠ .select cs b := by
            intro cs b e
            rw [execOp] at hr
            simp only [e] at hr
            simp only [Sem.run_bind] at hr
            revert hr
            cases (Array.mapM (fun s => do
              pure { chan := (fun x => (aval x tm).val) s.chan, send := s.send.map (fun x => (aval x tm).val), zero := ← zeroValue s.elem : CommCase }) cs : Sem (Array CommCase)).run P w <;> simp [Result.andThen]
          have hc : execOp a.eval o = execOp (fun x => (aval x tm).val) o := by
            refine execOp_congr o hsel fun x hx => ?_
            have := List.all_eq_true.1 hl x (by simpa using hx)
            cases x with
            | func f => rfl
            | tmp t => exact (opd hs g.gl (.tmp t)).lit_inv this
            | const c => exact (opd hs g.gl (.const c)).lit_inv this
            | global q => exact (opd hs g.gl (.global q)).lit_inv this
          rw [ite'_true, hc]
          simp only [ofV, rval, force_eq]
          exact .same g hr (RA.of (.of_lit hv))
      | _ => exact trivial
theorem wrapF_eq (k : IntKind) (n : Int) : wrapF k n = k.wrap n := by
  have hm : ∀ m : Nat, 0 < m → ((imod m n : Nat) : Int) = n % (m : Int) := by
    intro m h0
    cases n with
    | ofNat a => show ((a % m : Nat) : Int) = _; simp
    | negSucc a =>
      show ((m - 1 - a % m : Nat) : Int) = _
      have := Nat.mod_lt a h0
      rw [Int.negSucc_emod a (by omega)]
      omega
  have hU : ∀ m : Nat, 0 < m → wrapU m n = n % (m : Int) := fun m h0 => hm m h0
  have hS : ∀ h m : Nat, 0 < m → wrapS h m n = if (h : Int) ≤ n % (m : Int) then n % (m : Int) - m else n % (m : Int) := by
    intro h m h0
    unfold wrapS
    rw [ite'_eq]
    have e := hm m h0
    have hlt : imod m n < m := by
      cases n with
      | ofNat a => exact Nat.mod_lt a h0
      | negSucc a => show m - 1 - a % m < m; omega
    by_cases c : Nat.ble h (imod m n) = true
    · rw [if_pos c]
      have c' : h ≤ imod m n := by rw [Nat.ble_eq] at c; exact c
      rw [if_pos (by omega), ← e]
      show Int.negSucc (m - imod m n - 1) = _
      omega
    · rw [if_neg c]
      have c' : ¬ h ≤ imod m n := fun x => c (by rw [Nat.ble_eq]; exact x)
      rw [if_neg (by omega), ← e]
      rfl
  cases k
  case i64 => exact (hS _ _ (by omega)).trans (by simp [IntKind.wrap, IntKind.bits, IntKind.signed])
  case i32 => exact (hS _ _ (by omega)).trans (by simp [IntKind.wrap, IntKind.bits, IntKind.signed])
  case i16 => exact (hS _ _ (by omega)).trans (by simp [IntKind.wrap, IntKind.bits, IntKind.signed])
  case i8 => exact (hS _ _ (by omega)).trans (by simp [IntKind.wrap, IntKind.bits, IntKind.signed])
  case u64 => exact (hU _ (by omega)).trans (by simp [IntKind.wrap, IntKind.bits, IntKind.signed])
  case u32 => exact (hU _ (by omega)).trans (by simp [IntKind.wrap, IntKind.bits, IntKind.signed])
  case u16 => exact (hU _ (by omega)).trans (by simp [IntKind.wrap, IntKind.bits, IntKind.signed])
  case u8 => exact (hU _ (by omega)).trans (by simp [IntKind.wrap, IntKind.bits, IntKind.signed])
theorem ltI_eq (x y : Int) : ltI x y = decide (x < y) := by
  cases x with
  | ofNat a => cases y with
    | ofNat b =>
      show Nat.blt a b = _
      rw [Bool.eq_iff_iff, Nat.blt_eq, decide_eq_true_eq]; simp
    | negSucc b => show false = _; simp; omega
  | negSucc a => cases y with
    | ofNat b => show true = _; simp; omega
    | negSucc b =>
      show Nat.blt b a = _
      rw [Bool.eq_iff_iff, Nat.blt_eq, decide_eq_true_eq]; omega
theorem eqI_eq (x y : Int) : eqI x y = (x == y) := by
  cases x with
  | ofNat a => cases y with
    | ofNat b =>
      show Nat.beq a b = _
      rw [Bool.eq_iff_iff, Nat.beq_eq]; simp; omega
    | negSucc b => rfl
  | negSucc a => cases y with
    | ofNat b => rfl
    | negSucc b =>
      show Nat.beq a b = _
      rw [Bool.eq_iff_iff, Nat.beq_eq]; simp
theorem eqK_eq {k k' : IntKind} (h : eqK k k' = true) : k = k' := by cases k <;> cases k' <;> first | rfl | (simp [eqK] at h)
theorem eqGuard_ok (P : Program) (op : BinOp) (t : TypeId) (x y : Operand) (a b : Value) (ha : a ≠ .nilIface) (hg : ∀ c, a ≠ .agg c) (w : World) : (eqGuard op t x y a b).run P w = .ok () w := by
  unfold eqGuard
  cases op <;> first | rfl | (cases a <;> first | rfl | exact absurd rfl ha | exact absurd rfl (hg _))
section
variable {P : Program} {o : Oper}
theorem R_int {B : Nat} {W0 : World} {H : HP} {ι : Inj} {w : World} {res : Result Next} (g : GS P B W0 ι H w) (k : IntKind) (n : Int) (hr : res = .ok (.value (.int k (k.wrap n))) w) : ROK P B W0 H ι w res (aInt k n H) := by
  simp only [aInt, fInt_eq, wrapF_eq]
  exact .same g hr (.mk_i _ _ _)
theorem R_bool {B : Nat} {W0 : World} {H : HP} {ι : Inj} {w : World} {res : Result Next} (g : GS P B W0 ι H w) (x : Bool) (hr : res = .ok (.value (.bool x)) w) : ROK P B W0 H ι w res (aBool x H) := by
  cases x <;> exact .same g hr (.mk_b _ _)
theorem R_prun {B : Nat} {W0 : World} {H : HP} {ι : Inj} {w : World} {res : Result Next} (g : GS P B W0 ι H w) (s : Sem Value) (hr : ∀ v, s.run P w = .ok v w → res = .ok (.value v) w) : ROK P B W0 H ι w res (aPrun P H s) := by
  unfold aPrun
  cases hp : prun P s with
  | none => exact trivial
  | some v =>
    show ROK P B W0 H ι w res (ite' (lit0 v) (ofV v H) .no)
    cases hv : lit0 v with
    | false => exact trivial
    | true =>
      simp only [ofV, rval, force_eq, ite'_true]
      exact .same g (hr v (prun_ok P s hp w)) (RA.of (.of_lit hv))
theorem mok_int (op : BinOp) (t t' : TypeId) (x y : Operand) (h : o.op = .binOp op t x y t') {B : Nat} {W0 : World} {ι : Inj} {H : HP} {a : Act} {w : World} (g : GS P B W0 ι H w) {k k' : IntKind} {m n : Int}
    (hx : a.eval x = .int k m) (hy : a.eval y = .int k' n) (hk : isShift op = true ∨ k = k') : ROK P B W0 H ι w ((execOp a.eval o).run P w) (unBx (intOp op) k m n P H) := by
  have hg := eqGuard_ok P op t x y (.int k m) (.int k' n) (by simp) (by simp) w
  have hrun : ∀ v, (binOp op t (.int k m) (.int k' n)).run P w = .ok v w → (execOp a.eval o).run P w = .ok (.value v) w := by
    intro v hv
    simp [execOp, h, hx, hy, hg, hv, Result.andThen]
  have hk2 : isShift op = false → k = k' := fun e => hk.resolve_left (by rw [e]; simp)
  cases op
  case add => obtain rfl := hk2 rfl; exact R_int g k (m + n) (hrun _ (by simp [binOp, Op.intArith]))
  case sub => obtain rfl := hk2 rfl; exact R_int g k (m - n) (hrun _ (by simp [binOp, Op.intArith]))
  case mul => obtain rfl := hk2 rfl; exact R_int g k (m * n) (hrun _ (by simp [binOp, Op.intArith]))
  case quo => obtain rfl := hk2 rfl; exact R_prun g _ fun v hv => hrun v (by simpa [binOp] using hv)
  case rem => obtain rfl := hk2 rfl; exact R_prun g _ fun v hv => hrun v (by simpa [binOp] using hv)
  case and => obtain rfl := hk2 rfl; exact R_prun g _ fun v hv => hrun v (by simpa [binOp] using hv)
  case or => obtain rfl := hk2 rfl; exact R_prun g _ fun v hv => hrun v (by simpa [binOp] using hv)
  case xor => obtain rfl := hk2 rfl; exact R_prun g _ fun v hv => hrun v (by simpa [binOp] using hv)
  case andNot => obtain rfl := hk2 rfl; exact R_prun g _ fun v hv => hrun v (by simpa [binOp] using hv)
  case shl =>
    cases n with
    | ofNat n => exact R_int g k (m * 2 ^ min n k.bits) (hrun _ (by simp [binOp, Op.shift, show ¬ ((n : Int) < 0) by omega]))
    | negSucc n => exact trivial
  case shr =>
    cases n with
    | ofNat n =>
      show ROK P B W0 H ι w _ (fInt (m.fdiv (2 ^ min n k.bits)) fun n => .val (.i k n) H)
      rw [fInt_eq]
      exact .same g (hrun _ (by simp [binOp, Op.shift, show ¬ ((n : Int) < 0) by omega])) (.mk_i _ _ _)
    | negSucc n => exact trivial
  case eql => obtain rfl := hk2 rfl; exact R_bool g (eqI m n) (hrun _ (by simp [binOp, Op.intCmp, eqI_eq]))
  case neq => obtain rfl := hk2 rfl; exact R_bool g (!eqI m n) (hrun _ (by simp [binOp, Op.intCmp, eqI_eq, bne]))
  case lss => obtain rfl := hk2 rfl; exact R_bool g (ltI m n) (hrun _ (by simp [binOp, Op.intCmp, ltI_eq]))
  case leq => obtain rfl := hk2 rfl; exact R_bool g (!ltI n m) (hrun _ (by simp only [binOp, ltI_eq]; simp [Op.intCmp]; rw [← decide_not]; simp))
  case gtr => obtain rfl := hk2 rfl; exact R_bool g (ltI n m) (hrun _ (by simp [binOp, Op.intCmp, ltI_eq]))
  case geq => obtain rfl := hk2 rfl; exact R_bool g (!ltI m n) (hrun _ (by simp only [binOp, ltI_eq]; simp [Op.intCmp]; rw [← decide_not]; simp))
end
theorem data_ext {x y : ByteArray} (h : x.data.toList = y.data.toList) : x = y := by
  cases x; cases y; simp only at h; congr 1; exact Array.toList_inj.1 h
theorem toList_data (s : ByteArray) : s.toList = s.data.toList := ByteArray.toList_eq s
theorem beq_decide (x y : List UInt8) : (x == y) = decide (x = y) := by rw [Bool.eq_iff_iff, beq_iff_eq, decide_eq_true_eq]
section
variable {P : Program} {o : Oper}
theorem run_str (op : BinOp) (t t' : TypeId) (x y : Operand) (h : o.op = .binOp op t x y t') {a : Act} {w : World} {s u : ByteArray} (hx : a.eval x = .string s) (hy : a.eval y = .string u) {v : Value} (hv : (Op.stringOp op s u).run P w = .ok v w) :
    (execOp a.eval o).run P w = .ok (.value v) w := by
  have hg := eqGuard_ok P op t x y (.string s) (.string u) (by simp) (by simp) w
  have hb : (binOp op t (.string s) (.string u)).run P w = .ok v w := by cases op <;> simpa [binOp] using hv
  simp [execOp, h, hx, hy, hg, hb, Result.andThen]
theorem mok_bin (op : BinOp) (t t' : TypeId) (x y : Operand) (h : o.op = .binOp op t x y t') (pt sl : Bool) (hpt : pt = true → isPtr P t = true) (hsl : sl = true → isSl P t = true) :
    MOK P o (kindBin op pt sl (unBx (intOp op)) (slow o) (fun tm => aval x tm) (fun tm => aval y tm)) := by
  intro B W0 ι tm H a w hs g
  have hx := opd hs g.gl x
  have hy := opd hs g.gl y
  have hslow := mok_slow P o B W0 ι tm H a w hs g
  have hB : ∀ (z : Bool), (∀ q, (op = .eql ∧ q = z) ∨ (op = .neq ∧ q = !z) → (execOp a.eval o).run P w = .ok (.value (.bool q)) w) → ROK P B W0 H ι w ((execOp a.eval o).run P w) (eqB op z H) := by
    intro z hz
    cases op <;> first | exact trivial | exact R_bool g _ (hz _ (.inl ⟨rfl, rfl⟩)) | exact R_bool g _ (hz _ (.inr ⟨rfl, rfl⟩))
  have hE : ∀ q : Bool, ∀ va vb : Value, a.eval x = va → a.eval y = vb → va ≠ .nilIface → (∀ c, va ≠ .agg c) → (Op.equal t va vb).run P w = .ok q w → (va matches .pointer _ | .slice _ _ _) = true → (vb matches .pointer _ | .slice _ _ _) = true →
      ∀ q', (op = .eql ∧ q' = q) ∨ (op = .neq ∧ q' = !q) → (execOp a.eval o).run P w = .ok (.value (.bool q')) w := by
    intro q va vb ha hb hn hagg he h1 h2 q' hq
    have hg := eqGuard_ok P op t x y va vb hn hagg w
    have hbin : (binOp op t va vb).run P w = .ok (.bool q') w := by
      rcases hq with ⟨rfl, rfl⟩ | ⟨rfl, rfl⟩ <;> cases va <;> simp at h1 <;> cases vb <;> simp at h2 <;> simp [binOp, he, Result.andThen]
    simp [execOp, h, ha, hb, hg, hbin, Result.andThen]
  have hP : pt = true → ∃ e j, P.underlying t = some (.pointer e) ∧ P.info? e = some j ∧ j.size ≠ 0 := by
    intro e
    have h1 := hpt e
    unfold isPtr at h1
    cases hu : P.underlying t with
    | none => rw [hu] at h1; simp at h1
    | some d =>
      rw [hu] at h1
      cases d <;> simp at h1
      rename_i e'
      cases hi : P.info? e' with
      | none => rw [hi] at h1; simp at h1
      | some j => rw [hi] at h1; exact ⟨e', j, rfl, hi, by
        simp only [Bool.not_eq_true'] at h1
        intro e0; rw [e0] at h1; simp at h1⟩
  have hS : sl = true → ∃ e, P.underlying t = some (.slice e) := by
    intro e
    have h1 := hsl e
    unfold isSl at h1
    cases hu : P.underlying t with
    | none => rw [hu] at h1; simp at h1
    | some d =>
      rw [hu] at h1
      cases d <;> simp at h1
      exact ⟨_, rfl⟩
  unfold kindBin
  dsimp only
  cases ex : aval x tm with
  | i k m =>
    rw [ex] at hx
    have hx := hx.i
    cases ey : aval y tm with
    | i k' n =>
      rw [ey] at hy
      have hy := hy.i
      show ROK P B W0 H ι w _ (ite' (isShift op || eqK k k') (unBx (intOp op) k m n P H) .no)
      cases hk : (isShift op || eqK k k') with
      | false => exact trivial
      | true => exact mok_int op t t' x y h g hx hy ((Bool.or_eq_true _ _ ▸ hk).imp id eqK_eq)
    | _ => exact trivial
  | b q => exact hslow
  | m q => exact trivial
  | p b q =>
    rw [ex] at hx
    cases ey : aval y tm with
    | p b' q' =>
      rw [ey] at hy
      show ROK P B W0 H ι w _ (eqPP op pt b q b' q' H)
      unfold eqPP
      cases hc : (pt && Nat.beq b b' && !isDead (H.get b)) with
      | false => exact trivial
      | true =>
        simp only [Bool.and_eq_true, Nat.beq_eq] at hc
        obtain ⟨⟨h1, rfl⟩, h3⟩ := hc
        obtain ⟨e, j, he, hj, hz⟩ := hP h1
        have hal : H.get b ≠ .dead := by intro hd; rw [hd] at h3; simp [isDead] at h3
        obtain ⟨r, S, z, hr⟩ := g.hr.alive b hal
        rcases hx.p with ⟨r1, _, _, e1, hx1⟩ | ⟨e1, _⟩
        · rcases hy.p with ⟨r2, _, _, e2, hy1⟩ | ⟨e2, _⟩
          · rw [hr] at e1 e2
            injection e1 with e1 _ _; injection e2 with e2 _ _
            subst e1; subst e2
            refine hB _ fun q2 hq => hE (Nat.beq q q') _ _ hx1 hy1 (by simp) (by simp) ?_ rfl rfl q2 hq
            have hd : ∀ d : Nat, (Op.equalIn (d + 1) t (.pointer (some ⟨r, q, none⟩)) (.pointer (some ⟨r, q', none⟩))).run P w = .ok (Nat.beq q q') w := fun d => by
              have e3 : ((⟨r, q, none⟩ : Addr) == ⟨r, q', none⟩) = Nat.beq q q' := by
                rw [Bool.eq_iff_iff, beq_iff_eq, Nat.beq_eq]; simp
              simp [Op.equalIn, run_underlying he, sizeOf, typeInfo, hj, hz, sameAddr, e3]
            exact hd 9999
          · rw [hr] at e2; cases e2
        · rw [hr] at e1; cases e1
    | o v =>
      rw [ey] at hy
      show ROK P B W0 H ι w _ (eqPN op pt v H)
      cases v with
      | pointer ad =>
        cases ad with
        | some _ => exact trivial
        | none =>
          cases pt with
          | false => exact trivial
          | true =>
            have hy1 := hy.lit_inv rfl
            obtain ⟨e, j, he, hj, hz⟩ := hP rfl
            have hx1 : ∃ ad, a.eval x = .pointer (some ad) := by
              rcases hx.p with ⟨r1, _, _, e1, hx1⟩ | ⟨e1, ad, hx1⟩
              · exact ⟨_, hx1⟩
              · exact ⟨_, hx1⟩
            obtain ⟨ad, hx1⟩ := hx1
            refine hB _ fun q2 hq => hE false _ _ hx1 hy1 (by simp) (by simp) ?_ rfl rfl q2 hq
            have hd : ∀ d : Nat, (Op.equalIn (d + 1) t (.pointer (some ad)) (.pointer none)).run P w = .ok false w := fun d => by
              simp [Op.equalIn, run_underlying he]
            exact hd 9999
      | _ => exact trivial
    | _ => exact trivial
  | s b q l c =>
    rw [ex] at hx
    cases ey : aval y tm with
    | o v =>
      rw [ey] at hy
      show ROK P B W0 H ι w _ (eqSN op sl v H)
      cases v with
      | slice ad l' c' =>
        cases ad with
        | some _ => exact trivial
        | none =>
          cases sl with
          | false => exact trivial
          | true =>
            have hy1 := hy.lit_inv rfl
            obtain ⟨e, he⟩ := hS rfl
            have hx1 : ∃ ad c2, a.eval x = .slice (some ad) l c2 := by
              rcases hx.s with ⟨r1, _, _, c2, _, _, _, hx1⟩ | ⟨e1, ad, c2, _, hx1⟩
              · exact ⟨_, _, hx1⟩
              · exact ⟨_, _, hx1⟩
            obtain ⟨ad, c2, hx1⟩ := hx1
            refine hB _ fun q2 hq => hE false _ _ hx1 hy1 (by simp) (by simp) ?_ rfl rfl q2 hq
            have hd : ∀ d : Nat, (Op.equalIn (d + 1) t (.slice (some ad) l c2) (.slice none l' c')).run P w = .ok false w := fun d => by
              simp [Op.equalIn, run_underlying he]
            exact hd 9999
      | _ => exact trivial
    | _ => exact trivial
  | o v =>
    rw [ex] at hx
    cases ey : aval y tm with
    | i k n => exact hslow
    | b q => exact hslow
    | m q => exact trivial
    | p b q =>
      rw [ey] at hy
      show ROK P B W0 H ι w _ (eqPN op pt v H)
      cases v with
      | pointer ad =>
        cases ad with
        | some _ => exact trivial
        | none =>
          cases pt with
          | false => exact trivial
          | true =>
            have hx1 := hx.lit_inv rfl
            obtain ⟨e, j, he, hj, hz⟩ := hP rfl
            have hy1 : ∃ ad, a.eval y = .pointer (some ad) := by
              rcases hy.p with ⟨r1, _, _, e1, hx1⟩ | ⟨e1, ad, hx1⟩
              · exact ⟨_, hx1⟩
              · exact ⟨_, hx1⟩
            obtain ⟨ad, hy1⟩ := hy1
            refine hB _ fun q2 hq => hE false _ _ hx1 hy1 (by simp [AV.val]) (by simp [AV.val]) ?_ rfl rfl q2 hq
            have hd : ∀ d : Nat, (Op.equalIn (d + 1) t (.pointer none) (.pointer (some ad))).run P w = .ok false w := fun d => by
              simp [Op.equalIn, run_underlying he]
            exact hd 9999
      | _ => exact trivial
    | s b q l c =>
      rw [ey] at hy
      show ROK P B W0 H ι w _ (eqSN op sl v H)
      cases v with
      | slice ad l' c' =>
        cases ad with
        | some _ => exact trivial
        | none =>
          cases sl with
          | false => exact trivial
          | true =>
            have hx1 := hx.lit_inv rfl
            obtain ⟨e, he⟩ := hS rfl
            have hy1 : ∃ ad c2, a.eval y = .slice (some ad) l c2 := by
              rcases hy.s with ⟨r1, _, _, c2, _, _, _, hx1⟩ | ⟨e1, ad, c2, _, hx1⟩
              · exact ⟨_, _, hx1⟩
              · exact ⟨_, _, hx1⟩
            obtain ⟨ad, c2, hy1⟩ := hy1
            refine hB _ fun q2 hq => hE false _ _ hx1 hy1 (by simp [AV.val]) (by simp [AV.val]) ?_ rfl rfl q2 hq
            have hd : ∀ d : Nat, (Op.equalIn (d + 1) t (.slice none l' c') (.slice (some ad) l c2)).run P w = .ok false w := fun d => by
              simp [Op.equalIn, run_underlying he]
            exact hd 9999
      | _ => exact trivial
    | o u =>
      rw [ey] at hy
      show ROK P B W0 H ι w _ (onStr (β := M) v (slow o) (fun c => onStr u (slow o) fun d => strOp op c d (slow o)) P tm H)
      cases v with
      | string s =>
        cases u with
        | string s' =>
          have hx1 := hx.lit_inv rfl
          have hy1 := hy.lit_inv rfl
          show ROK P B W0 H ι w _ (strOp op s.data.toList s'.data.toList (slow o) P tm H)
          cases op
          case add =>
            show ROK P B W0 H ι w _ (ite' (Nat.ble (lenS s.data.toList + lenS s'.data.toList) 1000000) (appS s.data.toList s'.data.toList fun z => .val (mkS z) H) (slow o P tm H))
            cases hb : Nat.ble (lenS s.data.toList + lenS s'.data.toList) 1000000 with
            | false => exact hslow
            | true =>
              rw [ite'_true, appS_eq]
              have e1 : (⟨⟨s.data.toList ++ s'.data.toList⟩⟩ : ByteArray) = s ++ s' := data_ext (by simp)
              have hb' : s.size + s'.size ≤ 1000000 := by
                rw [lenS_eq, lenS_eq] at hb
                exact Nat.le_of_ble_eq_true hb
              refine .same g (v' := .string (s ++ s')) (run_str .add t t' x y h hx1 hy1 ?_) (.inr (by unfold mkS; rw [e1]; exact .of_lit rfl))
              have h6 : ¬ (((s.size + s'.size : Nat) : Int) > IntKind.i64.max) := by
                have : IntKind.i64.max = 9223372036854775807 := by decide
                omega
              unfold Op.stringOp
              dsimp only
              rw [if_neg h6]; rfl
          case eql => exact R_bool g _ (run_str .eql t t' x y h hx1 hy1 (by
              unfold Op.stringOp
              dsimp only
              rw [toList_data, toList_data, eqS_eq, beq_decide]; rfl))
          case neq => exact R_bool g _ (run_str .neq t t' x y h hx1 hy1 (by
              unfold Op.stringOp
              dsimp only
              rw [toList_data, toList_data, eqS_eq, beq_decide]; rfl))
          all_goals exact hslow
        | _ => exact hslow
      | _ => exact hslow
end
end Go.Ev
