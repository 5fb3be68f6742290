import Derived.Test.YtnoppeocbfapdaaGreatDoorEvAll
/-! Made by gent.py of EvO, EvQ, EvU: the operations that leave the world as it is, said so. -/
namespace Go.Ev.T
open Go Go.RowKit
set_option linter.unusedVariables false
set_option linter.unusedSimpArgs false
def ROK (P : Program) (B : Nat) (W0 : World) (H : HP) (ι : Inj) (w : World) (res : Result Next) : R → Prop
  | .val v H1 => H1 = H ∧ ∃ v', res = .ok (.value v') w ∧ RA ι v v'
  | .enter _ _ => False
  | .no => True
def MOK (P : Program) (o : Oper) (m : M) : Prop := ∀ (B : Nat) (W0 : World) (ι : Inj) (tm : Tr AV) (H : HP) (a : Act) (w : World), SR ι tm a → GS P B W0 ι H w → ROK P B W0 H ι w ((execOp a.eval o).run P w) (m P tm H)
theorem ROK.same {P : Program} {B : Nat} {W0 : World} {H : HP} {ι : Inj} {w : World} {res : Result Next} {v : AV} {v' : Value} (g : GS P B W0 ι H w) (hr : res = .ok (.value v') w) (hv : RA ι v v') : ROK P B W0 H ι w res (.val v H) := ⟨rfl, v', hr, hv⟩
theorem mok_no {P : Program} {o : Oper} : MOK P o fun _ _ _ => .no := fun _ _ _ _ _ _ _ _ _ => trivial
theorem mok_no' {P : Program} {o : Oper} : MOK P o (unBx (.mk fun _ _ _ => .no)) := fun _ _ _ _ _ _ _ _ _ => trivial
section
variable {P : Program} {o : Oper}
theorem mok_move (x : Operand) (h : o.op = .move x ∨ o.op = .assign x) : MOK P o fun _ tm H => .val (aval x tm) H := by
  intro B W0 ι tm H a w hs g
  exact .same g (by rcases h with h | h <;> simp [execOp, h]) (opd hs g.gl x)
theorem mok_pick (c x y : Operand) (h : o.op = .pick c x y) : MOK P o fun P tm H => aPick (fun tm => aval x tm) (fun tm => aval y tm) (aval c tm) P tm H := by
  intro B W0 ι tm H a w hs g
  have hc := opd hs g.gl c
  dsimp only
  cases e : aval c tm with
  | b q =>
    rw [e] at hc
    have hb := hc.b
    have hr : ∀ v, (if q = true then a.eval x else a.eval y) = v → (execOp a.eval o).run P w = .ok (.value v) w := by
      intro v hv; subst hv
      simp [execOp, h, hb, asBool]
    cases q with
    | true => exact .same g (hr _ rfl) (opd hs g.gl x)
    | false => exact .same g (hr _ rfl) (opd hs g.gl y)
  | _ => exact trivial
theorem mok_nil (x : Operand) (h : o.op = .nilCheck x) : MOK P o fun _ tm H => onP (aval x tm) .no fun b o => .val (.p b o) H := by
  intro B W0 ι tm H a w hs g
  have hx := opd hs g.gl x
  dsimp only
  rw [onP_eq]
  cases e : aval x tm with
  | p b q =>
    rw [e] at hx
    refine .same g (v' := a.eval x) ?_ hx
    rcases hx.p with ⟨r, S, z, _, hv⟩ | ⟨_, ad, hv⟩ <;> simp [execOp, h, hv]
  | _ => exact trivial
theorem mok_extract (x : Operand) (i : Nat) (h : o.op = .extract x i) : MOK P o fun _ tm H => aExtract i (aval x tm) H := by
  intro B W0 ι tm H a w hs g
  have hx := opd hs g.gl x
  simp only [aExtract, onO_eq]
  cases e : aval x tm with
  | o v =>
    rw [e] at hx
    cases v with
    | tuple vs =>
      simp only
      cases hi : vs.toList[i]? with
      | none => trivial
      | some y =>
        rcases hx with hx | hx
        · have hx := hx.1
          have : vs = #[] := by simpa [un, undef] using hx
          subst this; simp at hi
        · generalize hv : a.eval x = v' at hx
          cases hx with
          | three h => cases h with
            | two h => cases h with
              | one h => cases h with
                | lit h => simp [lit1, AV.val] at h
                | un h => simp at hi
          | tup ha =>
            rename_i a'
            obtain ⟨y', hy', hR⟩ := ha.2 i y hi
            simp only [ofV, rval, force_eq]
            refine .same g (v' := y') ?_ (RA.of (.three hR))
            have : a'[i]? = some y' := by simpa using hy'
            simp [execOp, h, hv, Instr.extract, this]
    | _ => exact trivial
  | _ => exact trivial
end
theorem prun_ok {α : Type} (P : Program) (m : Sem α) : ∀ {x : α}, prun P m = some x → ∀ w, m.run P w = .ok x w := by
  induction m with
  | pure a => intro x h w; simp [prun] at h; simp [Sem.run, h]
  | program k ih => intro x h w; simp only [Sem.run]; exact ih _ h w
  | mark m k ih => intro x h w; simp only [Sem.run]; exact ih h w
  | choose q k ih =>
    intro x h w
    simp only [prun] at h
    split at h
    · rename_i hf; simp only [Sem.run, hf, if_true]; exact ih _ h w
    · cases h
  | _ => intro x h w; simp [prun] at h
theorem mok_slow (P : Program) (o : Oper) : MOK P o (slow o) := by
  intro B W0 ι tm H a w hs g
  unfold slow
  cases hl : (o.op.operands.toList.all fun x => (match x with | .func _ => true | x => lit (aval x tm))) with
  | false => exact trivial
  | true =>
    rw [ite'_true]
    cases hp : prun P (execOp (fun x => (aval x tm).val) o) with
    | none => exact trivial
    | some n =>
      have hr := prun_ok P _ hp w
      cases n with
      | value v =>
        show ROK P B W0 H ι w _ (ite' (lit0 v) (ofV v H) .no)
        cases hv : lit0 v with
        | false => exact trivial
        | true =>
          have hsel : ∀ cs b, o.op ≠ .select cs b := by
            intro cs b e
            rw [execOp] at hr
            simp only [e] at hr
            simp only [Sem.run_bind] at hr
            revert hr
            cases (Array.mapM (fun s => do
              pure { chan := (fun x => (aval x tm).val) s.chan, send := s.send.map (fun x => (aval x tm).val), zero := ← zeroValue s.elem : CommCase }) cs : Sem (Array CommCase)).run P w <;> simp [Result.andThen]
          have hc : execOp a.eval o = execOp (fun x => (aval x tm).val) o := by
            refine execOp_congr o hsel fun x hx => ?_
            have := List.all_eq_true.1 hl x (by simpa using hx)
            cases x with
            | func f => rfl
            | tmp t => exact (opd hs g.gl (.tmp t)).lit_inv this
            | const c => exact (opd hs g.gl (.const c)).lit_inv this
            | global q => exact (opd hs g.gl (.global q)).lit_inv this
          rw [ite'_true, hc]
          simp only [ofV, rval, force_eq]
          exact .same g hr (RA.of (.of_lit hv))
      | _ => exact trivial
theorem wrapF_eq (k : IntKind) (n : Int) : wrapF k n = k.wrap n := by
  have hm : ∀ m : Nat, 0 < m → ((imod m n : Nat) : Int) = n % (m : Int) := by
    intro m h0
    cases n with
    | ofNat a => show ((a % m : Nat) : Int) = _; simp
    | negSucc a =>
      show ((m - 1 - a % m : Nat) : Int) = _
      have := Nat.mod_lt a h0
      rw [Int.negSucc_emod a (by omega)]
      omega
  have hU : ∀ m : Nat, 0 < m → wrapU m n = n % (m : Int) := fun m h0 => hm m h0
  have hS : ∀ h m : Nat, 0 < m → wrapS h m n = if (h : Int) ≤ n % (m : Int) then n % (m : Int) - m else n % (m : Int) := by
    intro h m h0
    unfold wrapS
    rw [ite'_eq]
    have e := hm m h0
    have hlt : imod m n < m := by
      cases n with
      | ofNat a => exact Nat.mod_lt a h0
      | negSucc a => show m - 1 - a % m < m; omega
    by_cases c : Nat.ble h (imod m n) = true
    · rw [if_pos c]
      have c' : h ≤ imod m n := by rw [Nat.ble_eq] at c; exact c
      rw [if_pos (by omega), ← e]
      show Int.negSucc (m - imod m n - 1) = _
      omega
    · rw [if_neg c]
      have c' : ¬ h ≤ imod m n := fun x => c (by rw [Nat.ble_eq]; exact x)
      rw [if_neg (by omega), ← e]
      rfl
  cases k
  case i64 => exact (hS _ _ (by omega)).trans (by simp [IntKind.wrap, IntKind.bits, IntKind.signed])
  case i32 => exact (hS _ _ (by omega)).trans (by simp [IntKind.wrap, IntKind.bits, IntKind.signed])
  case i16 => exact (hS _ _ (by omega)).trans (by simp [IntKind.wrap, IntKind.bits, IntKind.signed])
  case i8 => exact (hS _ _ (by omega)).trans (by simp [IntKind.wrap, IntKind.bits, IntKind.signed])
  case u64 => exact (hU _ (by omega)).trans (by simp [IntKind.wrap, IntKind.bits, IntKind.signed])
  case u32 => exact (hU _ (by omega)).trans (by simp [IntKind.wrap, IntKind.bits, IntKind.signed])
  case u16 => exact (hU _ (by omega)).trans (by simp [IntKind.wrap, IntKind.bits, IntKind.signed])
  case u8 => exact (hU _ (by omega)).trans (by simp [IntKind.wrap, IntKind.bits, IntKind.signed])
theorem ltI_eq (x y : Int) : ltI x y = decide (x < y) := by
  cases x with
  | ofNat a => cases y with
    | ofNat b =>
      show Nat.blt a b = _
      rw [Bool.eq_iff_iff, Nat.blt_eq, decide_eq_true_eq]; simp
    | negSucc b => show false = _; simp; omega
  | negSucc a => cases y with
    | ofNat b => show true = _; simp; omega
    | negSucc b =>
      show Nat.blt b a = _
      rw [Bool.eq_iff_iff, Nat.blt_eq, decide_eq_true_eq]; omega
theorem eqI_eq (x y : Int) : eqI x y = (x == y) := by
  cases x with
  | ofNat a => cases y with
    | ofNat b =>
      show Nat.beq a b = _
      rw [Bool.eq_iff_iff, Nat.beq_eq]; simp; omega
    | negSucc b => rfl
  | negSucc a => cases y with
    | ofNat b => rfl
    | negSucc b =>
      show Nat.beq a b = _
      rw [Bool.eq_iff_iff, Nat.beq_eq]; simp
theorem eqK_eq {k k' : IntKind} (h : eqK k k' = true) : k = k' := by cases k <;> cases k' <;> first | rfl | (simp [eqK] at h)
theorem eqGuard_ok (P : Program) (op : BinOp) (t : TypeId) (x y : Operand) (a b : Value) (ha : a ≠ .nilIface) (hg : ∀ c, a ≠ .agg c) (w : World) : (eqGuard op t x y a b).run P w = .ok () w := by
  unfold eqGuard
  cases op <;> first | rfl | (cases a <;> first | rfl | exact absurd rfl ha | exact absurd rfl (hg _))
section
variable {P : Program} {o : Oper}
theorem R_int {B : Nat} {W0 : World} {H : HP} {ι : Inj} {w : World} {res : Result Next} (g : GS P B W0 ι H w) (k : IntKind) (n : Int) (hr : res = .ok (.value (.int k (k.wrap n))) w) : ROK P B W0 H ι w res (aInt k n H) := by
  simp only [aInt, fInt_eq, wrapF_eq]
  exact .same g hr (.mk_i _ _ _)
theorem R_bool {B : Nat} {W0 : World} {H : HP} {ι : Inj} {w : World} {res : Result Next} (g : GS P B W0 ι H w) (x : Bool) (hr : res = .ok (.value (.bool x)) w) : ROK P B W0 H ι w res (aBool x H) := by
  cases x <;> exact .same g hr (.mk_b _ _)
theorem R_prun {B : Nat} {W0 : World} {H : HP} {ι : Inj} {w : World} {res : Result Next} (g : GS P B W0 ι H w) (s : Sem Value) (hr : ∀ v, s.run P w = .ok v w → res = .ok (.value v) w) : ROK P B W0 H ι w res (aPrun P H s) := by
  unfold aPrun
  cases hp : prun P s with
  | none => exact trivial
  | some v =>
    show ROK P B W0 H ι w res (ite' (lit0 v) (ofV v H) .no)
    cases hv : lit0 v with
    | false => exact trivial
    | true =>
      simp only [ofV, rval, force_eq, ite'_true]
      exact .same g (hr v (prun_ok P s hp w)) (RA.of (.of_lit hv))
theorem mok_int (op : BinOp) (t t' : TypeId) (x y : Operand) (h : o.op = .binOp op t x y t') {B : Nat} {W0 : World} {ι : Inj} {H : HP} {a : Act} {w : World} (g : GS P B W0 ι H w) {k k' : IntKind} {m n : Int}
    (hx : a.eval x = .int k m) (hy : a.eval y = .int k' n) (hk : isShift op = true ∨ k = k') : ROK P B W0 H ι w ((execOp a.eval o).run P w) (unBx (intOp op) k m n P H) := by
  have hg := eqGuard_ok P op t x y (.int k m) (.int k' n) (by simp) (by simp) w
  have hrun : ∀ v, (binOp op t (.int k m) (.int k' n)).run P w = .ok v w → (execOp a.eval o).run P w = .ok (.value v) w := by
    intro v hv
    simp [execOp, h, hx, hy, hg, hv, Result.andThen]
  have hk2 : isShift op = false → k = k' := fun e => hk.resolve_left (by rw [e]; simp)
  cases op
  case add => obtain rfl := hk2 rfl; exact R_int g k (m + n) (hrun _ (by simp [binOp, Op.intArith]))
  case sub => obtain rfl := hk2 rfl; exact R_int g k (m - n) (hrun _ (by simp [binOp, Op.intArith]))
  case mul => obtain rfl := hk2 rfl; exact R_int g k (m * n) (hrun _ (by simp [binOp, Op.intArith]))
  case quo => obtain rfl := hk2 rfl; exact R_prun g _ fun v hv => hrun v (by simpa [binOp] using hv)
  case rem => obtain rfl := hk2 rfl; exact R_prun g _ fun v hv => hrun v (by simpa [binOp] using hv)
  case and => obtain rfl := hk2 rfl; exact R_prun g _ fun v hv => hrun v (by simpa [binOp] using hv)
  case or => obtain rfl := hk2 rfl; exact R_prun g _ fun v hv => hrun v (by simpa [binOp] using hv)
  case xor => obtain rfl := hk2 rfl; exact R_prun g _ fun v hv => hrun v (by simpa [binOp] using hv)
  case andNot => obtain rfl := hk2 rfl; exact R_prun g _ fun v hv => hrun v (by simpa [binOp] using hv)
  case shl =>
    cases n with
    | ofNat n => exact R_int g k (m * 2 ^ min n k.bits) (hrun _ (by simp [binOp, Op.shift, show ¬ ((n : Int) < 0) by omega]))
    | negSucc n => exact trivial
  case shr =>
    cases n with
    | ofNat n =>
      show ROK P B W0 H ι w _ (fInt (m.fdiv (2 ^ min n k.bits)) fun n => .val (.i k n) H)
      rw [fInt_eq]
      exact .same g (hrun _ (by simp [binOp, Op.shift, show ¬ ((n : Int) < 0) by omega])) (.mk_i _ _ _)
    | negSucc n => exact trivial
  case eql => obtain rfl := hk2 rfl; exact R_bool g (eqI m n) (hrun _ (by simp [binOp, Op.intCmp, eqI_eq]))
  case neq => obtain rfl := hk2 rfl; exact R_bool g (!eqI m n) (hrun _ (by simp [binOp, Op.intCmp, eqI_eq, bne]))
  case lss => obtain rfl := hk2 rfl; exact R_bool g (ltI m n) (hrun _ (by simp [binOp, Op.intCmp, ltI_eq]))
  case leq => obtain rfl := hk2 rfl; exact R_bool g (!ltI n m) (hrun _ (by simp only [binOp, ltI_eq]; simp [Op.intCmp]; rw [← decide_not]; simp))
  case gtr => obtain rfl := hk2 rfl; exact R_bool g (ltI n m) (hrun _ (by simp [binOp, Op.intCmp, ltI_eq]))
  case geq => obtain rfl := hk2 rfl; exact R_bool g (!ltI m n) (hrun _ (by simp only [binOp, ltI_eq]; simp [Op.intCmp]; rw [← decide_not]; simp))
end
theorem data_ext {x y : ByteArray} (h : x.data.toList = y.data.toList) : x = y := by
  cases x; cases y; simp only at h; congr 1; exact Array.toList_inj.1 h
theorem toList_data (s : ByteArray) : s.toList = s.data.toList := ByteArray.toList_eq s
theorem beq_decide (x y : List UInt8) : (x == y) = decide (x = y) := by rw [Bool.eq_iff_iff, beq_iff_eq, decide_eq_true_eq]
section
variable {P : Program} {o : Oper}
theorem run_str (op : BinOp) (t t' : TypeId) (x y : Operand) (h : o.op = .binOp op t x y t') {a : Act} {w : World} {s u : ByteArray} (hx : a.eval x = .string s) (hy : a.eval y = .string u) {v : Value} (hv : (Op.stringOp op s u).run P w = .ok v w) :
    (execOp a.eval o).run P w = .ok (.value v) w := by
  have hg := eqGuard_ok P op t x y (.string s) (.string u) (by simp) (by simp) w
  have hb : (binOp op t (.string s) (.string u)).run P w = .ok v w := by cases op <;> simpa [binOp] using hv
  simp [execOp, h, hx, hy, hg, hb, Result.andThen]
theorem mok_bin (op : BinOp) (t t' : TypeId) (x y : Operand) (h : o.op = .binOp op t x y t') (pt sl : Bool) (hpt : pt = true → isPtr P t = true) (hsl : sl = true → isSl P t = true) :
    MOK P o (kindBin op pt sl (unBx (intOp op)) (slow o) (fun tm => aval x tm) (fun tm => aval y tm)) := by
  intro B W0 ι tm H a w hs g
  have hx := opd hs g.gl x
  have hy := opd hs g.gl y
  have hslow := mok_slow P o B W0 ι tm H a w hs g
  have hB : ∀ (z : Bool), (∀ q, (op = .eql ∧ q = z) ∨ (op = .neq ∧ q = !z) → (execOp a.eval o).run P w = .ok (.value (.bool q)) w) → ROK P B W0 H ι w ((execOp a.eval o).run P w) (eqB op z H) := by
    intro z hz
    cases op <;> first | exact trivial | exact R_bool g _ (hz _ (.inl ⟨rfl, rfl⟩)) | exact R_bool g _ (hz _ (.inr ⟨rfl, rfl⟩))
  have hE : ∀ q : Bool, ∀ va vb : Value, a.eval x = va → a.eval y = vb → va ≠ .nilIface → (∀ c, va ≠ .agg c) → (Op.equal t va vb).run P w = .ok q w → (va matches .pointer _ | .slice _ _ _) = true → (vb matches .pointer _ | .slice _ _ _) = true →
      ∀ q', (op = .eql ∧ q' = q) ∨ (op = .neq ∧ q' = !q) → (execOp a.eval o).run P w = .ok (.value (.bool q')) w := by
    intro q va vb ha hb hn hagg he h1 h2 q' hq
    have hg := eqGuard_ok P op t x y va vb hn hagg w
    have hbin : (binOp op t va vb).run P w = .ok (.bool q') w := by
      rcases hq with ⟨rfl, rfl⟩ | ⟨rfl, rfl⟩ <;> cases va <;> simp at h1 <;> cases vb <;> simp at h2 <;> simp [binOp, he, Result.andThen]
    simp [execOp, h, ha, hb, hg, hbin, Result.andThen]
  have hP : pt = true → ∃ e j, P.underlying t = some (.pointer e) ∧ P.info? e = some j ∧ j.size ≠ 0 := by
    intro e
    have h1 := hpt e
    unfold isPtr at h1
    cases hu : P.underlying t with
    | none => rw [hu] at h1; simp at h1
    | some d =>
      rw [hu] at h1
      cases d <;> simp at h1
      rename_i e'
      cases hi : P.info? e' with
      | none => rw [hi] at h1; simp at h1
      | some j => rw [hi] at h1; exact ⟨e', j, rfl, hi, by
        simp only [Bool.not_eq_true'] at h1
        intro e0; rw [e0] at h1; simp at h1⟩
  have hS : sl = true → ∃ e, P.underlying t = some (.slice e) := by
    intro e
    have h1 := hsl e
    unfold isSl at h1
    cases hu : P.underlying t with
    | none => rw [hu] at h1; simp at h1
    | some d =>
      rw [hu] at h1
      cases d <;> simp at h1
      exact ⟨_, rfl⟩
  unfold kindBin
  dsimp only
  cases ex : aval x tm with
  | i k m =>
    rw [ex] at hx
    have hx := hx.i
    cases ey : aval y tm with
    | i k' n =>
      rw [ey] at hy
      have hy := hy.i
      show ROK P B W0 H ι w _ (ite' (isShift op || eqK k k') (unBx (intOp op) k m n P H) .no)
      cases hk : (isShift op || eqK k k') with
      | false => exact trivial
      | true => exact mok_int op t t' x y h g hx hy ((Bool.or_eq_true _ _ ▸ hk).imp id eqK_eq)
    | _ => exact trivial
  | b q => exact hslow
  | m q => exact trivial
  | p b q =>
    rw [ex] at hx
    cases ey : aval y tm with
    | p b' q' =>
      rw [ey] at hy
      show ROK P B W0 H ι w _ (eqPP op pt b q b' q' H)
      unfold eqPP
      cases hc : (pt && Nat.beq b b' && !isDead (H.get b)) with
      | false => exact trivial
      | true =>
        simp only [Bool.and_eq_true, Nat.beq_eq] at hc
        obtain ⟨⟨h1, rfl⟩, h3⟩ := hc
        obtain ⟨e, j, he, hj, hz⟩ := hP h1
        have hal : H.get b ≠ .dead := by intro hd; rw [hd] at h3; simp [isDead] at h3
        obtain ⟨r, S, z, hr⟩ := g.hr.alive b hal
        rcases hx.p with ⟨r1, _, _, e1, hx1⟩ | ⟨e1, _⟩
        · rcases hy.p with ⟨r2, _, _, e2, hy1⟩ | ⟨e2, _⟩
          · rw [hr] at e1 e2
            injection e1 with e1 _ _; injection e2 with e2 _ _
            subst e1; subst e2
            refine hB _ fun q2 hq => hE (Nat.beq q q') _ _ hx1 hy1 (by simp) (by simp) ?_ rfl rfl q2 hq
            have hd : ∀ d : Nat, (Op.equalIn (d + 1) t (.pointer (some ⟨r, q, none⟩)) (.pointer (some ⟨r, q', none⟩))).run P w = .ok (Nat.beq q q') w := fun d => by
              have e3 : ((⟨r, q, none⟩ : Addr) == ⟨r, q', none⟩) = Nat.beq q q' := by
                rw [Bool.eq_iff_iff, beq_iff_eq, Nat.beq_eq]; simp
              simp [Op.equalIn, run_underlying he, sizeOf, typeInfo, hj, hz, sameAddr, e3]
            exact hd 9999
          · rw [hr] at e2; cases e2
        · rw [hr] at e1; cases e1
    | o v =>
      rw [ey] at hy
      show ROK P B W0 H ι w _ (eqPN op pt v H)
      cases v with
      | pointer ad =>
        cases ad with
        | some _ => exact trivial
        | none =>
          cases pt with
          | false => exact trivial
          | true =>
            have hy1 := hy.lit_inv rfl
            obtain ⟨e, j, he, hj, hz⟩ := hP rfl
            have hx1 : ∃ ad, a.eval x = .pointer (some ad) := by
              rcases hx.p with ⟨r1, _, _, e1, hx1⟩ | ⟨e1, ad, hx1⟩
              · exact ⟨_, hx1⟩
              · exact ⟨_, hx1⟩
            obtain ⟨ad, hx1⟩ := hx1
            refine hB _ fun q2 hq => hE false _ _ hx1 hy1 (by simp) (by simp) ?_ rfl rfl q2 hq
            have hd : ∀ d : Nat, (Op.equalIn (d + 1) t (.pointer (some ad)) (.pointer none)).run P w = .ok false w := fun d => by
              simp [Op.equalIn, run_underlying he]
            exact hd 9999
      | _ => exact trivial
    | _ => exact trivial
  | s b q l c =>
    rw [ex] at hx
    cases ey : aval y tm with
    | o v =>
      rw [ey] at hy
      show ROK P B W0 H ι w _ (eqSN op sl v H)
      cases v with
      | slice ad l' c' =>
        cases ad with
        | some _ => exact trivial
        | none =>
          cases sl with
          | false => exact trivial
          | true =>
            have hy1 := hy.lit_inv rfl
            obtain ⟨e, he⟩ := hS rfl
            have hx1 : ∃ ad c2, a.eval x = .slice (some ad) l c2 := by
              rcases hx.s with ⟨r1, _, _, c2, _, _, _, hx1⟩ | ⟨e1, ad, c2, _, hx1⟩
              · exact ⟨_, _, hx1⟩
              · exact ⟨_, _, hx1⟩
            obtain ⟨ad, c2, hx1⟩ := hx1
            refine hB _ fun q2 hq => hE false _ _ hx1 hy1 (by simp) (by simp) ?_ rfl rfl q2 hq
            have hd : ∀ d : Nat, (Op.equalIn (d + 1) t (.slice (some ad) l c2) (.slice none l' c')).run P w = .ok false w := fun d => by
              simp [Op.equalIn, run_underlying he]
            exact hd 9999
      | _ => exact trivial
    | _ => exact trivial
  | o v =>
    rw [ex] at hx
    cases ey : aval y tm with
    | i k n => exact hslow
    | b q => exact hslow
    | m q => exact trivial
    | p b q =>
      rw [ey] at hy
      show ROK P B W0 H ι w _ (eqPN op pt v H)
      cases v with
      | pointer ad =>
        cases ad with
        | some _ => exact trivial
        | none =>
          cases pt with
          | false => exact trivial
          | true =>
            have hx1 := hx.lit_inv rfl
            obtain ⟨e, j, he, hj, hz⟩ := hP rfl
            have hy1 : ∃ ad, a.eval y = .pointer (some ad) := by
              rcases hy.p with ⟨r1, _, _, e1, hx1⟩ | ⟨e1, ad, hx1⟩
              · exact ⟨_, hx1⟩
              · exact ⟨_, hx1⟩
            obtain ⟨ad, hy1⟩ := hy1
            refine hB _ fun q2 hq => hE false _ _ hx1 hy1 (by simp [AV.val]) (by simp [AV.val]) ?_ rfl rfl q2 hq
            have hd : ∀ d : Nat, (Op.equalIn (d + 1) t (.pointer none) (.pointer (some ad))).run P w = .ok false w := fun d => by
              simp [Op.equalIn, run_underlying he]
            exact hd 9999
      | _ => exact trivial
    | s b q l c =>
      rw [ey] at hy
      show ROK P B W0 H ι w _ (eqSN op sl v H)
      cases v with
      | slice ad l' c' =>
        cases ad with
        | some _ => exact trivial
        | none =>
          cases sl with
          | false => exact trivial
          | true =>
            have hx1 := hx.lit_inv rfl
            obtain ⟨e, he⟩ := hS rfl
            have hy1 : ∃ ad c2, a.eval y = .slice (some ad) l c2 := by
              rcases hy.s with ⟨r1, _, _, c2, _, _, _, hx1⟩ | ⟨e1, ad, c2, _, hx1⟩
              · exact ⟨_, _, hx1⟩
              · exact ⟨_, _, hx1⟩
            obtain ⟨ad, c2, hy1⟩ := hy1
            refine hB _ fun q2 hq => hE false _ _ hx1 hy1 (by simp [AV.val]) (by simp [AV.val]) ?_ rfl rfl q2 hq
            have hd : ∀ d : Nat, (Op.equalIn (d + 1) t (.slice none l' c') (.slice (some ad) l c2)).run P w = .ok false w := fun d => by
              simp [Op.equalIn, run_underlying he]
            exact hd 9999
      | _ => exact trivial
    | o u =>
      rw [ey] at hy
      show ROK P B W0 H ι w _ (onStr (β := M) v (slow o) (fun c => onStr u (slow o) fun d => strOp op c d (slow o)) P tm H)
      cases v with
      | string s =>
        cases u with
        | string s' =>
          have hx1 := hx.lit_inv rfl
          have hy1 := hy.lit_inv rfl
          show ROK P B W0 H ι w _ (strOp op s.data.toList s'.data.toList (slow o) P tm H)
          cases op
          case add =>
            show ROK P B W0 H ι w _ (ite' (Nat.ble (lenS s.data.toList + lenS s'.data.toList) 1000000) (appS s.data.toList s'.data.toList fun z => .val (mkS z) H) (slow o P tm H))
            cases hb : Nat.ble (lenS s.data.toList + lenS s'.data.toList) 1000000 with
            | false => exact hslow
            | true =>
              rw [ite'_true, appS_eq]
              have e1 : (⟨⟨s.data.toList ++ s'.data.toList⟩⟩ : ByteArray) = s ++ s' := data_ext (by simp)
              have hb' : s.size + s'.size ≤ 1000000 := by
                rw [lenS_eq, lenS_eq] at hb
                exact Nat.le_of_ble_eq_true hb
              refine .same g (v' := .string (s ++ s')) (run_str .add t t' x y h hx1 hy1 ?_) (.inr (by unfold mkS; rw [e1]; exact .of_lit rfl))
              have h6 : ¬ (((s.size + s'.size : Nat) : Int) > IntKind.i64.max) := by
                have : IntKind.i64.max = 9223372036854775807 := by decide
                omega
              unfold Op.stringOp
              dsimp only
              rw [if_neg h6]; rfl
          case eql => exact R_bool g _ (run_str .eql t t' x y h hx1 hy1 (by
              unfold Op.stringOp
              dsimp only
              rw [toList_data, toList_data, eqS_eq, beq_decide]; rfl))
          case neq => exact R_bool g _ (run_str .neq t t' x y h hx1 hy1 (by
              unfold Op.stringOp
              dsimp only
              rw [toList_data, toList_data, eqS_eq, beq_decide]; rfl))
          all_goals exact hslow
        | _ => exact hslow
      | _ => exact hslow
end
theorem isNat_ok {P : Program} {B : Nat} {W0 : World} {H : HP} {ι : Inj} {w : World} {res : Result Next} {av : AV} {v : Value} {k : Nat → R} (hv : RA ι av v) (h : ∀ (kd : IntKind) (n : Nat), v = .int kd n → ROK P B W0 H ι w res (k n)) :
    ROK P B W0 H ι w res (isNat av .no k) := by
  rw [isNat_eq]
  cases av with
  | i kd n => cases n with
    | ofNat n => exact h kd n hv.i
    | negSucc n => exact trivial
  | _ => exact trivial
theorem optG_ok {P : Program} {B : Nat} {W0 : World} {H : HP} {ι : Inj} {w : World} {res : Result Next} {x : Option Operand} {tm : Tr AV} {a : Act} {d : Nat} {k : Nat → R} (hs : SR ι tm a) (g : GS P B W0 ι H w)
    (h : ∀ n : Nat, ((x = none ∧ n = d) ∨ ∃ y kd, x = some y ∧ a.eval y = .int kd n) → ROK P B W0 H ι w res (k n)) : ROK P B W0 H ι w res (optG x tm d k) := by
  cases x with
  | none => exact h d (.inl ⟨rfl, rfl⟩)
  | some y => exact isNat_ok (opd hs g.gl y) fun kd n e => h n (.inr ⟨y, kd, rfl, e⟩)
theorem run_bound {P : Program} {w : World} (kd : IntKind) (n y : Nat) (code : BoundsCode) (h : n ≤ y) : (Instr.sliceBound (.int kd n) y code).run P w = .ok n w := by
  have e : (0 : Int) ≤ (n : Int) ∧ (n : Int) ≤ (y : Int) := by omega
  simp [Instr.sliceBound, asIntOf, Result.andThen, e]
theorem run_bounds {P : Program} {w : World} (sl : Bool) (len cap : Nat) (a : Act) (lo hi : Option Operand) (l h : Nat) (hl : (lo = none ∧ l = 0) ∨ ∃ y kd, lo = some y ∧ a.eval y = .int kd l) (hh : (hi = none ∧ h = len) ∨ ∃ y kd, hi = some y ∧ a.eval y = .int kd h)
    (h1 : l ≤ h) (h2 : h ≤ cap) : (Instr.sliceBounds sl len cap (lo.map a.eval) (hi.map a.eval) none).run P w = .ok (l, h, cap) w := by
  unfold Instr.sliceBounds
  rcases hl with ⟨rfl, rfl⟩ | ⟨y, kd, rfl, hy⟩ <;> rcases hh with ⟨rfl, rfl⟩ | ⟨y', kd', rfl, hy'⟩ <;> simp [*, Result.andThen, run_bound]
section
variable {P : Program} {o : Oper}
theorem mok_field (s : TypeId) (x : Operand) (f : Nat) (h : o.op = .fieldAddr s x f) : MOK P o (unBx (aField P (fun tm => aval x tm) (fieldB P s f))) := by
  intro B W0 ι tm H a w hs g
  have hx := opd hs g.gl x
  unfold aField fieldB
  cases hu : P.underlying s with
  | none => exact trivial
  | some d =>
    cases d with
    | struct fs =>
      dsimp only
      cases hf : fs[f]? with
      | none => exact trivial
      | some fd =>
        dsimp only
        unfold szB
        cases hi : P.info? fd.type with
        | none => exact trivial
        | some j =>
          dsimp only
          cases hz : Nat.beq j.size 0 with
          | true => exact trivial
          | false =>
            show ROK P B W0 H ι w _ (onP (aval x tm) .no fun b o => fNat (Nat.add o fd.offset) fun o => .val (.p b o) H)
            rw [onP_eq]
            cases e : aval x tm with
            | p b q =>
              rw [e] at hx
              obtain ⟨ad, hv, hadd⟩ := hx.pAdd
              have hz' : j.size ≠ 0 := by intro e0; rw [e0] at hz; simp at hz
              dsimp only
              rw [fNat_eq]
              refine .same g (v' := .pointer (some (ad.add fd.offset))) ?_ (hadd fd.offset)
              simp [execOp, h, hv, Instr.fieldAt, run_underlying hu, hf, Instr.sureAddr, fieldPlace, sizeOf, typeInfo, hi, hz', Result.andThen]
            | _ => exact trivial
    | _ => exact trivial
theorem mok_index (t : TypeId) (x i : Operand) (h : o.op = .indexAddr t x i) : MOK P o (unBx (aIndexB P (fun tm => aval x tm) (fun tm => aval i tm) (P.underlying t))) := by
  intro B W0 ι tm H a w hs g
  have hx := opd hs g.gl x
  unfold aIndexB
  cases hu : P.underlying t with
  | none => exact trivial
  | some d =>
    cases d with
    | slice e =>
      dsimp only
      unfold szB
      cases hi : P.info? e with
      | none => exact trivial
      | some j =>
        show ROK P B W0 H ι w _ (aIndexAddr j.size (aval x tm) (aval i tm) H)
        unfold aIndexAddr
        cases ex : aval x tm with
        | s b q l c =>
          rw [ex] at hx
          obtain ⟨ad, c', hv, hc, hadd⟩ := hx.sAdd
          rw [onV_s]
          refine isNat_ok (opd hs g.gl i) fun kd n hn_ => ?_
          cases hlt : Nat.blt n l with
          | false => exact trivial
          | true =>
            rw [ite'_true, fNat_eq]
            have hlt' : n < l := by rw [Nat.blt_eq] at hlt; exact hlt
            have e1 : (0 : Int) ≤ (n : Int) ∧ (n : Int) < (l : Int) := by omega
            refine .same g (v' := .pointer (some (ad.add (n * j.size)))) ?_ (hadd _)
            simp [execOp, h, hv, hn_, Instr.indexAt, asIntOf, run_underlying hu, sizeOf, typeInfo, hi, Result.andThen, hlt']
        | _ => exact trivial
    | array n e =>
      dsimp only
      unfold szB
      cases hi : P.info? e with
      | none => exact trivial
      | some j =>
        show ROK P B W0 H ι w _ (aIndexArr n j.size (aval x tm) (aval i tm) H)
        unfold aIndexArr
        rw [onP_eq]
        cases ex : aval x tm with
        | p b q =>
          rw [ex] at hx
          obtain ⟨ad, hv, hadd⟩ := hx.pAdd
          refine isNat_ok (opd hs g.gl i) fun kd m hn_ => ?_
          cases hlt : Nat.blt m n with
          | false => exact trivial
          | true =>
            rw [ite'_true, fNat_eq]
            have hlt' : m < n := by rw [Nat.blt_eq] at hlt; exact hlt
            have e1 : (0 : Int) ≤ (m : Int) ∧ (m : Int) < (n : Int) := by omega
            refine .same g (v' := .pointer (some (ad.add (m * j.size)))) ?_ (hadd _)
            simp [execOp, h, hv, hn_, Instr.indexAt, Instr.sureAddr, asIntOf, run_underlying hu, sizeOf, typeInfo, hi, Result.andThen, hlt']
        | _ => exact trivial
    | _ => exact trivial
theorem mok_indexStr (t : TypeId) (x i : Operand) (h : o.op = .index t x i) (hu : P.underlying t = some .string) : MOK P o (aIndexStr (fun tm => aval x tm) (fun tm => aval i tm)) := by
  intro B W0 ι tm H a w hs g
  have hx := opd hs g.gl x
  unfold aIndexStr
  dsimp only
  rw [onO_eq]
  cases ex : aval x tm with
  | o v =>
    rw [ex] at hx
    cases v with
    | string s =>
      have hv := hx.lit_inv rfl
      dsimp only [onStr]
      refine isNat_ok (opd hs g.gl i) fun kd n hn_ => ?_
      rw [nthS_eq]
      cases hb : s.data.toList[n]? with
      | none => exact trivial
      | some y =>
        dsimp only
        rw [fNat_eq]
        refine .same g (v' := .int .u8 y.toNat) ?_ (.mk_i _ _ _)
        have hlt : n < s.size := by
          have := (List.getElem?_eq_some_iff.1 hb).1
          rw [Array.length_toList] at this
          exact this
        have hb2 : s[n]? = some y := by
          rw [getElem?_pos s n hlt]
          have := (List.getElem?_eq_some_iff.1 hb).2
          rw [← this]; rfl
        simp [execOp, h, hv, AV.val, hn_, Instr.index, asIntOf, run_underlying hu, hb2, Result.andThen]
    | _ => exact trivial
  | _ => exact trivial
theorem aSlice2_ok {B : Nat} {W0 : World} {H : HP} {ι : Inj} {w : World} {res : Result Next} (g : GS P B W0 ι H w) (z b q c lo hi : Nat)
    (h : lo ≤ hi → hi ≤ c → ∀ av : AV, (lo = 0 → av = .s b q (hi - lo) (c - lo)) → (0 < lo → lo < c → av = .s b (q + lo * z) (hi - lo) (c - lo)) → (0 < lo → lo < c) → ROK P B W0 H ι w res (.val av H)) :
    ROK P B W0 H ι w res (aSlice2 z b q c lo hi H) := by
  unfold aSlice2
  cases hb : (Nat.ble lo hi && Nat.ble hi c) with
  | false => exact trivial
  | true =>
    rw [Bool.and_eq_true] at hb
    have h1 := Nat.le_of_ble_eq_true hb.1
    have h2 := Nat.le_of_ble_eq_true hb.2
    rw [ite'_true, fNat_eq, fNat_eq]
    cases lo with
    | zero => exact h h1 h2 _ (fun _ => rfl) (fun e => absurd e (by omega)) (fun e => absurd e (by omega))
    | succ lo =>
      show ROK P B W0 H ι w res (ite' (Nat.beq (c - (lo + 1)) 0) .no (fNat (Nat.add q (Nat.mul (Nat.succ lo) z)) fun o => .val (.s b o (hi - (lo + 1)) (c - (lo + 1))) H))
      cases hc : Nat.beq (c - (lo + 1)) 0 with
      | true => exact trivial
      | false =>
        have hlt : lo + 1 < c := by
          apply Nat.lt_of_not_le
          intro hle
          rw [show c - (lo + 1) = 0 by omega] at hc
          simp at hc
        rw [ite'_false, fNat_eq]
        exact h h1 h2 _ (fun e => absurd e (by omega)) (fun _ _ => rfl) (fun _ => hlt)
theorem mok_slice (t : TypeId) (x : Operand) (lo hi : Option Operand) (h : o.op = .slice t x lo hi none) : MOK P o (unBx (aSliceB P lo hi (fun tm => aval x tm) (P.underlying t))) := by
  intro B W0 ι tm H a w hs g
  have hx := opd hs g.gl x
  unfold aSliceB
  cases hu : P.underlying t with
  | none => exact trivial
  | some d =>
    cases d with
    | slice e =>
      dsimp only
      unfold szB
      cases hi_ : P.info? e with
      | none => exact trivial
      | some j =>
        show ROK P B W0 H ι w _ (aSlice j.size lo hi (fun tm => aval x tm) P tm H)
        unfold aSlice
        dsimp only
        cases ex : aval x tm with
        | s b q l c =>
          rw [ex] at hx
          rw [onV_s]
          rw [onCells_eq]
          cases hb : H.get b with
          | cells cs e' own =>
            dsimp only
            cases hz0 : Nat.beq (zOf P e') j.size with
            | false => exact trivial
            | true =>
              rw [ite'_true]
              refine optG_ok hs g fun nl hl => optG_ok hs g fun nh hh => aSlice2_ok g j.size b q c nl nh fun h1 h2 av e0 e1 e2 => ?_
              rcases hx.s with ⟨r, S, z, c', hl', hc, hS, hv⟩ | ⟨hd', _⟩
              · have hz : z = j.size := by
                  have h3 := g.hr.blk b r S z hl'
                  rw [hb] at h3
                  obtain ⟨_, _, _, _, h4, _⟩ := h3
                  rw [Nat.beq_eq] at hz0
                  exact h4.symm.trans hz0
                have hrun := run_bounds (P := P) (w := w) true l c' a lo hi nl nh hl hh h1 (by omega)
                have hne : nl = 0 ∨ c' ≠ nl := by
                  rcases Nat.eq_zero_or_pos nl with e | e
                  · exact .inl e
                  · have := e2 e; exact .inr (by omega)
                refine .same g (v' := .slice (some ⟨r, q + nl * j.size, none⟩) (nh - nl) (c' - nl)) ?_ ?_
                · have e5 : (if c' = nl then (some ⟨r, q, none⟩ : Option Addr) else some ((⟨r, q, none⟩ : Addr).add (nl * j.size))) = some ⟨r, q + nl * j.size, none⟩ := by
                    rw [addr_add]
                    rcases hne with e | e
                    · subst e; simp
                    · rw [if_neg e]
                  simp [execOp, h, hv, Instr.sliceAt, Instr.slice, run_underlying hu, hrun, sizeOf, typeInfo, hi_, Result.andThen, e5]
                · rcases Nat.eq_zero_or_pos nl with e | e
                  · rw [e0 e]; subst e
                    simp only [Nat.zero_mul, Nat.add_zero, Nat.sub_zero]
                    exact RA.one (.sl hl' hc hS)
                  · rw [e1 e (e2 e), ← hz]
                    refine RA.one (.sl hl' (by omega) ?_)
                    have : nl * z + (c' - nl) * z = c' * z := by rw [← Nat.add_mul]; congr 1; have := e2 e; omega
                    omega
              · exact absurd hd' (by obtain ⟨r, S, z, h5⟩ := g.hr.alive b (by rw [hb]; simp); rw [h5]; simp)
          | _ => exact trivial
        | o v =>
          rw [ex] at hx
          rw [onV_o]
          cases v with
          | slice ad n c =>
            cases ad with
            | some _ => exact trivial
            | none =>
              dsimp only
              refine optG_ok hs g fun nl hl => optG_ok hs g fun nh hh => ?_
              cases hz : (Nat.beq nl 0 && Nat.beq nh 0) with
              | false => exact trivial
              | true =>
                rw [Bool.and_eq_true, Nat.beq_eq, Nat.beq_eq] at hz
                obtain ⟨rfl, rfl⟩ := hz
                have hv := hx.lit_inv rfl
                have hrun := run_bounds (P := P) (w := w) true n c a lo hi 0 0 hl hh (Nat.le_refl _) (Nat.zero_le _)
                refine .same g (v' := .slice none 0 c) ?_ (.inr (.of_lit rfl))
                simp [execOp, h, hv, AV.val, Instr.sliceAt, Instr.slice, run_underlying hu, hrun, sizeOf, typeInfo, hi_, Result.andThen]
          | _ => exact trivial
        | _ => exact trivial
    | array n e =>
      dsimp only
      unfold szB
      cases hi_ : P.info? e with
      | none => exact trivial
      | some j =>
        show ROK P B W0 H ι w _ (aSliceArr n j.size lo hi (fun tm => aval x tm) P tm H)
        unfold aSliceArr
        dsimp only
        rw [onP_eq]
        cases ex : aval x tm with
        | p b q =>
          rw [ex] at hx
          dsimp only
          rw [onCells_eq]
          cases hb : H.get b with
          | cells cs e' own =>
            dsimp only
            cases hz0 : (Nat.beq (zOf P e') j.size && Nat.ble (Nat.add q (Nat.mul n j.size)) (lenS cs)) with
            | false => exact trivial
            | true =>
              rw [Bool.and_eq_true, Nat.beq_eq, lenS_eq] at hz0
              have hle : q + n * j.size ≤ cs.length := Nat.le_of_ble_eq_true hz0.2
              rw [ite'_true]
              refine optG_ok hs g fun nl hl => optG_ok hs g fun nh hh => aSlice2_ok g j.size b q n nl nh fun h1 h2 av e0 e1 e2 => ?_
              obtain ⟨r, S, z, hal⟩ := g.hr.alive b (by rw [hb]; simp)
              rcases hx.p with ⟨r1, S1, z1, hl', hv⟩ | ⟨hd', _⟩
              · rw [hal] at hl'
                injection hl' with e3 e4 e5
                subst e3; subst e4; subst e5
                have h3 := g.hr.blk b r S z hal
                rw [hb] at h3
                obtain ⟨cs', _, _, hS', h4, hc4, _⟩ := h3
                have hz : z = j.size := h4.symm.trans hz0.1
                have hS : q + n * z ≤ S := by rw [hz, ← hS']; exact Nat.le_trans hle hc4.1
                have hrun := run_bounds (P := P) (w := w) false n n a lo hi nl nh hl hh h1 (by omega)
                have hne : nl = 0 ∨ n ≠ nl := by
                  rcases Nat.eq_zero_or_pos nl with e | e
                  · exact .inl e
                  · have := e2 e; exact .inr (by omega)
                refine .same g (v' := .slice (some ⟨r, q + nl * j.size, none⟩) (nh - nl) (n - nl)) ?_ ?_
                · have e5 : (if n = nl then (⟨r, q, none⟩ : Addr) else (⟨r, q, none⟩ : Addr).add (nl * j.size)) = ⟨r, q + nl * j.size, none⟩ := by
                    rw [addr_add]
                    rcases hne with e | e
                    · subst e; simp
                    · rw [if_neg e]
                  simp [execOp, h, hv, Instr.sliceAt, Instr.sureAddr, run_underlying hu, hrun, sizeOf, typeInfo, hi_, Result.andThen, e5]
                · rcases Nat.eq_zero_or_pos nl with e | e
                  · rw [e0 e]; subst e
                    simp only [Nat.zero_mul, Nat.add_zero, Nat.sub_zero]
                    exact RA.one (.sl hal (Nat.le_refl _) hS)
                  · rw [e1 e (e2 e), ← hz]
                    refine RA.one (.sl hal (Nat.le_refl _) ?_)
                    have : nl * z + (n - nl) * z = n * z := by rw [← Nat.add_mul]; congr 1; have := e2 e; omega
                    omega
              · rw [hal] at hd'; cases hd'
          | _ => exact trivial
        | _ => exact trivial
    | string =>
      show ROK P B W0 H ι w _ (aSliceStr lo hi (fun tm => aval x tm) P tm H)
      unfold aSliceStr
      dsimp only
      rw [onO_eq]
      cases ex : aval x tm with
      | o v =>
        rw [ex] at hx
        cases v with
        | string s =>
          have hv := hx.lit_inv rfl
          dsimp only [onStr]
          refine optG_ok hs g fun nl hl => optG_ok hs g fun nh hh => ?_
          cases hb : (Nat.ble nl nh && Nat.ble nh (lenS s.data.toList)) with
          | false => exact trivial
          | true =>
            rw [Bool.and_eq_true, lenS_eq] at hb
            have h1 := Nat.le_of_ble_eq_true hb.1
            have h2 : nh ≤ s.size := Nat.le_of_ble_eq_true hb.2
            rw [ite'_true, takeS_eq, dropS_eq]
            have e1 : (⟨⟨(s.data.toList.drop nl).take (Nat.sub nh nl)⟩⟩ : ByteArray) = s.extract nl nh := data_ext (by simp [show Nat.sub nh nl = nh - nl from rfl])
            have hh' : (hi = none ∧ nh = s.size) ∨ ∃ y kd, hi = some y ∧ a.eval y = .int kd nh := by
              rcases hh with ⟨e, rfl⟩ | hh
              · exact .inl ⟨e, by rw [lenS_eq]; rfl⟩
              · exact .inr hh
            have hrun := run_bounds (P := P) (w := w) false s.size s.size a lo hi nl nh hl hh' h1 h2
            refine .same g (v' := .string (s.extract nl nh)) ?_ (.inr (by unfold mkS; rw [e1]; exact .of_lit rfl))
            simp [execOp, h, hv, AV.val, Instr.sliceAt, Instr.slice, run_underlying hu, hrun, Result.andThen]
        | _ => exact trivial
      | _ => exact trivial
    | _ => exact trivial
end
section
variable {P : Program} {o : Oper}
theorem GS.cells {B : Nat} {W0 : World} {H : HP} {ι : Inj} {w : World} (g : GS P B W0 ι H w) {b : Nat} {c : List AV} {e : TypeId} {own : Bool} (hb : H.get b = .cells c e own) :
    ∃ r S z cs fr, ι b = .live r S z ∧ w.heap[r]? = some (.cells cs e fr) ∧ cs.size = S ∧ zOf P e = z ∧ cellsR ι c cs ∧ (own = true → fr = (0, 0) ∧ B ≤ r) := by
  obtain ⟨r, S, z, h⟩ := g.hr.alive b (by rw [hb]; simp)
  have := g.hr.blk b r S z h
  rw [hb] at this
  obtain ⟨cs, fr, h1, h2, h3, h4, h5⟩ := this
  exact ⟨r, S, z, cs, fr, h, h1, h2, h3, h4, h5⟩
theorem cellsR_sub {ι : Inj} {c : List AV} {cs : Array Value} (h : cellsR ι c cs) (q n : Nat) (hle : q + n ≤ c.length) :
    ∃ vs : List Value, vs.length = n ∧ F2 (fun (a : AV) v => RV2 ι a.val v) ((c.drop q).take n) vs ∧ ∀ j v, vs[j]? = some v → cs[q + j]? = some v := by
  have h1 := h.1
  refine ⟨(cs.toList.drop q).take n, by simp; omega, ⟨by simp; omega, fun i v hv => ?_⟩, fun j v hj => ?_⟩
  · rw [List.getElem?_take] at hv
    split at hv
    · rename_i hi
      rw [List.getElem?_drop] at hv
      obtain ⟨v', a, b⟩ := h.2 _ _ hv
      refine ⟨v', ?_, b⟩
      rw [List.getElem?_take, if_pos hi, List.getElem?_drop]; simpa using a
    · cases hv
  · rw [List.getElem?_take] at hj
    split at hj
    · rw [List.getElem?_drop] at hj; simpa using hj
    · cases hj
theorem cell_row {w : World} {r q : Nat} {cs : Array Value} {e : TypeId} {fr : Nat × Nat} (h : w.heap[r]? = some (.cells cs e fr)) : w.cell? ⟨r, q, none⟩ = cs[q]? := by
  simp [World.cell?, h]
/-- n cells from a place on -/
theorem cellsK_ok {Q : R → Prop} (hno : Q .no) {B : Nat} {W0 : World} {H : HP} {ι : Inj} {w : World} (g : GS P B W0 ι H w) {b q n : Nat} {k : List AV → R}
    (h : ∀ r S z c e own vs, H.get b = .cells c e own → ι b = .live r S z → q + n ≤ S → q + n ≤ c.length → vs.length = n → F2 (fun (a : AV) v => RV2 ι a.val v) ((c.drop q).take n) vs → w.rangeAt r q vs → Q (k ((c.drop q).take n))) : Q (cellsK H b q n .no k) := by
  unfold cellsK
  rw [onCells_eq]
  cases hb : H.get b with
  | cells c e own =>
    dsimp only
    rw [lenS_eq, dropR_eq, takeK_eq]
    cases hle : Nat.ble (Nat.add q n) c.length with
    | false => exact hno
    | true =>
      rw [ite'_true]
      have hle' : q + n ≤ c.length := Nat.le_of_ble_eq_true hle
      obtain ⟨r, S, z, cs, fr, h1, h2, h3, h4, h5, h6⟩ := g.cells hb
      obtain ⟨vs, v1, v2, v3⟩ := cellsR_sub h5 q n hle'
      exact h r S z c e own vs hb h1 (by have := h5.1; omega) hle' v1 v2 fun j v hj => by rw [cell_row h2]; exact v3 j v hj
  | _ => exact hno
theorem bytesA_ok {Q : R → Prop} (hno : Q .no) {ι : Inj} {l : List AV} {vs : List Value} (h : F2 (fun (a : AV) v => RV2 ι a.val v) l vs) : ∀ {k : List UInt8 → R},
    (∀ z : List UInt8, vs = z.map (fun x => Value.int .u8 x.toNat) → Q (k z)) → Q (bytesA l .no k) := by
  induction l generalizing vs with
  | nil => intro k hk; rw [h.nil_inv] at hk; exact hk [] rfl
  | cons x l ih =>
    intro k hk
    obtain ⟨y, r, rfl, h1, h2⟩ := h.inv
    cases x with
    | i kd n =>
      show Q (ite' (eqK kd .u8) (Int.rec (motive := fun _ => R) (fun m => ite' (Nat.blt m 256) (bytesA l .no fun z => k (UInt8.ofNat m :: z)) .no) (fun _ => .no) n) .no)
      cases hk8 : eqK kd .u8 with
      | false => exact hno
      | true =>
        obtain rfl := eqK_eq hk8
        rw [ite'_true]
        cases n with
        | negSucc m => exact hno
        | ofNat m =>
          show Q (ite' (Nat.blt m 256) (bytesA l .no fun z => k (UInt8.ofNat m :: z)) .no)
          cases hm : Nat.blt m 256 with
          | false => exact hno
          | true =>
            have hm' : m < 256 := by rw [← Nat.blt_eq]; exact hm
            refine ih h2 fun z e => hk (UInt8.ofNat m :: z) ?_
            rw [e, h1.lit_inv rfl]
            have : (UInt8.ofNat m).toNat = m := by simp; omega
            simp only [List.map_cons, this]; rfl
    | _ => exact hno
theorem run_one {t : TypeId} (h : isOneB P t = true) (w : World) : (isAgg t).run P w = .ok false w := by
  unfold isOneB at h
  cases hu : P.underlying t with
  | none => rw [hu] at h; simp at h
  | some d =>
    rw [hu] at h
    unfold isAgg
    rw [Sem.run_bind, run_underlying hu]
    cases d <;> simp_all
theorem RA.agg {ι : Inj} {cs : Array Value} {v : Value} (h : RA ι (.o (.agg cs)) v) : ∃ cs', v = .agg cs' ∧ F2 (RV2 ι) cs.toList cs'.toList := by
  rcases h with h | h
  · cases h.1
  · cases h with
    | three h => cases h with
      | two h => cases h with
        | one h => cases h with
          | lit h => simp [AV.val, lit1] at h
      | agg ha => exact ⟨_, rfl, ha⟩
theorem mok_load (t : TypeId) (x : Operand) (h : o.op = .load t x) : MOK P o fun _ tm H => unBx (loadB P t) H (aval x tm) .no fun v => .val v H := by
  intro B W0 ι tm H a w hs g
  have hx := opd hs g.gl x
  dsimp only
  unfold loadB
  cases hi : P.info? t with
  | none => exact trivial
  | some j =>
    dsimp only
    cases hag : isAggB P t with
    | true =>
      show ROK P B W0 H ι w _ (loadN j.size H (aval x tm) .no fun v => .val v H)
      unfold loadN
      rw [onP_eq]
      cases ex : aval x tm with
      | p b q =>
        rw [ex] at hx
        refine cellsK_ok (Q := ROK P B W0 H ι w _) trivial g fun r S z c e own vs hb hl hle hle' hvl hv hrg => ?_
        rcases hx.p with ⟨r1, S1, z1, hl', hv'⟩ | ⟨hd', _⟩
        · rw [hl] at hl'; injection hl' with e3 e4 e5; subst e3
          refine .same g (v' := .agg vs.toArray) ?_ (.inr (.three (.agg (by simpa using F2.map hv))))
          unfold isAggB at hag
          cases hu : P.underlying t with
          | none => rw [hu] at hag; simp at hag
          | some d =>
            have hd : d.isRow = true := by rw [hu] at hag; cases d <;> simp_all
            have := run_loadAt_mid (P := P) w r q t vs d hrg hu hd (by rw [hi]; simp [hvl])
            simp [execOp, h, hv', this, Result.andThen]
        · rw [hl] at hd'; cases hd'
      | _ => exact trivial
    | false =>
      show ROK P B W0 H ι w _ (unBx (ite' (isOneB P t) (.mk load1) (.mk fun _ _ nx _ => nx)) H (aval x tm) .no fun v => .val v H)
      cases h1b : isOneB P t with
      | false => exact trivial
      | true =>
      show ROK P B W0 H ι w _ (load1 H (aval x tm) .no fun v => .val v H)
      unfold load1
      rw [onP_eq]
      cases ex : aval x tm with
      | p b q =>
        rw [ex] at hx
        dsimp only
        rw [onCells_eq]
        cases hb : H.get b with
        | cells c e own =>
          dsimp only
          rw [nthK_eq]
          cases hc : c[q]? with
          | none => exact trivial
          | some y =>
            obtain ⟨r, S, z, cs, fr, h1, h2, h3, h4, h5, h6⟩ := g.cells hb
            rcases hx.p with ⟨r1, S1, z1, hl', hv'⟩ | ⟨hd', _⟩
            · rw [h1] at hl'; injection hl' with e3 e4 e5; subst e3
              obtain ⟨v', v1, v2⟩ := h5.2 q y hc
              refine .same g (v' := v') ?_ (.inr (.three (.two v2)))
              have hcell : w.cell? ⟨r, q, none⟩ = some v' := by rw [cell_row h2]; exact v1
              simp [execOp, h, hv', Instr.loadAt, Instr.sureAddr, loadVar, run_one h1b, hcell, Result.andThen]
            · rw [h1] at hd'; cases hd'
        | _ => exact trivial
      | _ => exact trivial
/-- a value's field -/
theorem mok_fieldV (s : TypeId) (x : Operand) (f : Nat) (h : o.op = .field s x f) : MOK P o (unBx (aFieldV P (fun tm => aval x tm) (fieldB P s f))) := by
  intro B W0 ι tm H a w hs g
  have hx := opd hs g.gl x
  unfold aFieldV fieldB
  cases hu : P.underlying s with
  | none => exact trivial
  | some d =>
    cases d with
    | struct fs =>
      dsimp only
      cases hf : fs[f]? with
      | none => exact trivial
      | some fd =>
        dsimp only
        cases h1b : isOneB P fd.type with
        | false => exact trivial
        | true =>
          show ROK P B W0 H ι w _ (onO (aval x tm) .no fun v => match v with
            | .agg cs => match cs.toList[fd.offset]? with | some v => ofV v H | none => .no
            | _ => .no)
          rw [onO_eq]
          cases ex : aval x tm with
          | o v =>
            rw [ex] at hx
            cases v with
            | agg cs =>
              dsimp only
              cases hc : cs.toList[fd.offset]? with
              | none => exact trivial
              | some y =>
                dsimp only
                simp only [ofV, rval, force_eq]
                obtain ⟨cs', hv, hR⟩ : ∃ cs', a.eval x = .agg cs' ∧ F2 (RV2 ι) cs.toList cs'.toList := hx.agg
                obtain ⟨v', v1, v2⟩ := hR.2 _ _ hc
                refine .same g (v' := v') ?_ (RA.of (.three (.two v2)))
                have v1' : cs'[fd.offset]? = some v' := by simpa using v1
                simp [execOp, h, hv, Instr.field, run_underlying hu, hf, asAgg, part, run_one h1b, v1', Result.andThen]
            | _ => exact trivial
          | _ => exact trivial
    | _ => exact trivial
theorem isSl_ok {t : TypeId} (h : isSl P t = true) : ∃ e, P.underlying t = some (.slice e) := by
  unfold isSl at h
  cases hu : P.underlying t with
  | none => rw [hu] at h; simp at h
  | some d => rw [hu] at h; cases d <;> simp_all
theorem isTx_ok {t : TypeId} (h : isTx P t = true) : P.underlying t = some .string := by
  unfold isTx at h
  cases hu : P.underlying t with
  | none => rw [hu] at h; simp at h
  | some d => rw [hu] at h; cases d <;> simp_all
theorem elemB_ok {t e : TypeId} (h : elemB P t = some e) : P.underlying t = some (.slice e) := by
  unfold elemB at h
  cases hu : P.underlying t with
  | none => rw [hu] at h; simp at h
  | some d => rw [hu] at h; cases d <;> simp_all
/-- a builtin's call -/
theorem run_builtin {a : Act} {w : World} {c : Call} {b : Builtin} (h : o.op = .call c) (hc : c.callee = .builtin b) {l : List Operand} (ha : c.args.toList = l) {f : Array TypeId → TypeId → Array Value → Sem Value}
    (hb : ∀ ts t k vs, builtin b ts t k vs = (do pure (.value (← f ts t vs)))) {v : Value} {w' : World} (hr : (f c.argTypes o.type (l.map a.eval).toArray).run P w = .ok v w') : (execOp a.eval o).run P w = .ok (.value v) w' := by
  have hargs : c.args.map a.eval = (l.map a.eval).toArray := by
    rw [← Array.toList_inj]; simp [ha]
  simp [execOp, h, resolve, hc, hargs, invoke, hb, hr, Result.andThen]
theorem mok_lenS (c : Call) (x : Operand) (h : o.op = .call c) (hc : c.callee = .builtin .len) (ha : c.args.toList = [x]) (t : TypeId) (ts : List TypeId) (ht : c.argTypes.toList = t :: ts) (hsl : isSl P t = true) : MOK P o (aLenS (fun tm => aval x tm)) := by
  intro B W0 ι tm H a w hs g
  have hx := opd hs g.gl x
  obtain ⟨e, hu⟩ := isSl_ok hsl
  have ht0 : c.argTypes[0]? = some t := by rw [← Array.getElem?_toList, ht]; rfl
  have hrun : ∀ ad l k, a.eval x = .slice ad l k → (execOp a.eval o).run P w = .ok (.value (.int .i64 l)) w := fun ad l k hv =>
    run_builtin (f := Builtin.len_) h hc ha (fun _ _ _ _ => rfl) (by simp [Builtin.len_, ht0, hv, run_underlying hu, goInt, Result.andThen])
  unfold aLenS
  dsimp only
  cases ex : aval x tm with
  | s b q l k =>
    rw [ex] at hx
    obtain ⟨ad, c', hv, _⟩ := hx.sAdd
    exact .same g (hrun _ _ _ hv) (.mk_i _ _ _)
  | o v =>
    rw [ex] at hx
    cases v with
    | slice ad n k => cases ad with
      | none => exact .same g (hrun _ _ _ (hx.lit_inv rfl)) (.mk_i _ _ _)
      | some _ => exact trivial
    | _ => exact trivial
  | _ => exact trivial
theorem mok_lenT (c : Call) (x : Operand) (h : o.op = .call c) (hc : c.callee = .builtin .len) (ha : c.args.toList = [x]) (t : TypeId) (ts : List TypeId) (ht : c.argTypes.toList = t :: ts) (htx : isTx P t = true) : MOK P o (aLenT (fun tm => aval x tm)) := by
  intro B W0 ι tm H a w hs g
  have hx := opd hs g.gl x
  have hu := isTx_ok htx
  have ht0 : c.argTypes[0]? = some t := by rw [← Array.getElem?_toList, ht]; rfl
  unfold aLenT
  dsimp only
  rw [onO_eq]
  cases ex : aval x tm with
  | o v =>
    rw [ex] at hx
    cases v with
    | string s =>
      have hv := hx.lit_inv rfl
      dsimp only [onStr]
      rw [fNat_eq, lenS_eq]
      refine .same g (v' := .int .i64 s.size) (run_builtin (f := Builtin.len_) h hc ha (fun _ _ _ _ => rfl) ?_) (.mk_i _ _ _)
      simp [Builtin.len_, ht0, hv, AV.val, run_underlying hu, goInt, Result.andThen]
    | _ => exact trivial
  | _ => exact trivial
theorem mok_cap (c : Call) (x : Operand) (h : o.op = .call c) (hc : c.callee = .builtin .cap) (ha : c.args.toList = [x]) (t : TypeId) (ts : List TypeId) (ht : c.argTypes.toList = t :: ts) (hsl : isSl P t = true) : MOK P o (aCap (fun tm => aval x tm)) := by
  intro B W0 ι tm H a w hs g
  have hx := opd hs g.gl x
  obtain ⟨e, hu⟩ := isSl_ok hsl
  have ht0 : c.argTypes[0]? = some t := by rw [← Array.getElem?_toList, ht]; rfl
  unfold aCap
  dsimp only
  rw [onO_eq]
  cases ex : aval x tm with
  | o v =>
    rw [ex] at hx
    cases v with
    | slice ad n k => cases ad with
      | none =>
        have hv := hx.lit_inv rfl
        refine .same g (v' := .int .i64 k) (run_builtin (f := Builtin.cap_) h hc ha (fun _ _ _ _ => rfl) ?_) (.mk_i _ _ _)
        simp [Builtin.cap_, ht0, hv, AV.val, run_underlying hu, goInt, Result.andThen]
      | some _ => exact trivial
    | _ => exact trivial
  | _ => exact trivial
theorem mok_sliceData (c : Call) (x : Operand) (h : o.op = .call c) (hc : c.callee = .builtin .unsafeSliceData) (ha : c.args.toList = [x]) : MOK P o (aSliceData (fun tm => aval x tm)) := by
  intro B W0 ι tm H a w hs g
  have hx := opd hs g.gl x
  unfold aSliceData
  dsimp only
  cases ex : aval x tm with
  | s b q l k =>
    rw [ex] at hx
    rw [onV_s]
    obtain ⟨ad, c', hv, hle, hp⟩ := hx.sAdd
    cases hk : Nat.beq k 0 with
    | true => exact trivial
    | false =>
      have hk0 : k ≠ 0 := by intro e; rw [e] at hk; simp at hk
      refine .same g (v' := .pointer (some ad)) (run_builtin (f := Builtin.unsafeSliceData_) h hc ha (fun _ _ _ _ => rfl) ?_) ?_
      · rw [List.map_cons, List.map_nil, hv]
        exact Lib.run_unsafeSliceData_row w _ _ _ _ _ (by omega)
      · have := hp 0
        simpa [Addr.add] using this
  | _ => exact trivial
theorem mok_copy (c : Call) (x y : Operand) (h : o.op = .call c) (hc : c.callee = .builtin .copy) (ha : c.args.toList = [x, y]) (t : TypeId) (ts : List TypeId) (ht : c.argTypes.toList = t :: ts) (e : TypeId) (he : elemB P t = some e) (hi : (P.info? e).isSome = true) :
    MOK P o (aCopy (fun tm => aval x tm) (fun tm => aval y tm)) := by
  intro B W0 ι tm H a w hs g
  have hx := opd hs g.gl x
  have hy := opd hs g.gl y
  have hu := elemB_ok he
  obtain ⟨j, hj⟩ := Option.isSome_iff_exists.1 hi
  have ht0 : c.argTypes[0]? = some t := by rw [← Array.getElem?_toList, ht]; rfl
  unfold aCopy
  dsimp only
  cases ex : aval x tm with
  | s b q l k =>
    rw [ex] at hx
    rw [onV_s]
    obtain ⟨ad, c', hv, hle, hp⟩ := hx.sAdd
    cases hl : Nat.beq l 0 with
    | false => exact trivial
    | true =>
      rw [Nat.beq_eq] at hl
      subst hl
      rw [ite'_true, onO_eq]
      cases ey : aval y tm with
      | o v =>
        rw [ey] at hy
        dsimp only
        split
        · have hv2 := hy.lit_inv rfl
          refine .same g (v' := .int .i64 0) (run_builtin (f := Builtin.copy_) h hc ha (fun _ _ _ _ => rfl) ?_) (.mk_i _ _ _)
          simp [Builtin.copy_, ht0, hv, hv2, AV.val, run_underlying hu, goInt, Result.andThen, Builtin.lenOf, Builtin.firstCells, sizeOf, typeInfo, hj, storeCells]
        · exact trivial
      | _ => exact trivial
  | _ => exact trivial
theorem foldl_push (l : List UInt8) : ∀ acc : ByteArray, l.foldl (fun r x => r.push x) acc = ⟨acc.data ++ l.toArray⟩ := by
  induction l with
  | nil => intro acc; simp
  | cons x l ih => intro acc; rw [List.foldl_cons, ih]; apply ByteArray.ext; simp [ByteArray.push]
theorem bytes_fold (z : List UInt8) : (z.map fun x => (x.toNat : Int)).foldl (fun r n => r.push (UInt8.ofNat n.toNat)) ByteArray.empty = ⟨⟨z⟩⟩ := by
  have := foldl_push z ByteArray.empty
  rw [List.foldl_map]
  simpa using this
theorem mok_toStr (cs d : TypeId) (x : Operand) (h : o.op = .convert cs d x) (e : TypeId) (hu : P.underlying cs = some (.slice e)) (hu' : P.underlying d = some .string) (he : P.underlying e = some (.int .u8)) : MOK P o (aToStr (fun tm => aval x tm)) := by
  intro B W0 ι tm H a w hs g
  have hx := opd hs g.gl x
  unfold aToStr
  dsimp only
  cases ex : aval x tm with
  | s b q l k =>
    rw [ex] at hx
    rw [onV_s]
    refine cellsK_ok (Q := ROK P B W0 H ι w _) trivial g fun r S z c e' own vs hb hl hle hle' hvl hvs hrg => ?_
    refine bytesA_ok (Q := ROK P B W0 H ι w _) trivial hvs fun bs hns => ?_
    rcases hx.s with ⟨r1, S1, z1, c', hl', hc, hS, hv⟩ | ⟨hd', _⟩
    · rw [hl] at hl'; injection hl' with e3 e4 e5; subst e3
      refine .same g (v' := .string ⟨⟨bs⟩⟩) ?_ (.inr (.of_lit rfl))
      have hld : (loadCells ⟨r, q, none⟩ l).run P w = .ok ((bs.map fun x => (x.toNat : Int)).map (Value.int .u8)).toArray w := by
        have := run_loadCells_list (P := P) w ⟨r, q, none⟩ vs (fun j v hj => by rw [Addr.add_mid]; exact hrg j v hj)
        rw [hvl] at this
        rw [this, hns, List.map_map]; rfl
      have := run_bytesToString (P := P) w ⟨r, q, none⟩ l c' _ hld
      rw [bytes_fold] at this
      simp [execOp, h, hv, convert, run_underlying hu, run_underlying hu', run_underlying he, this, Result.andThen]
    · rw [hl] at hd'; cases hd'
  | _ => exact trivial
theorem mok_int2 (cs d : TypeId) (x : Operand) (h : o.op = .convert cs d x) (k1 k : IntKind) (hu : P.underlying cs = some (.int k1)) (hu' : P.underlying d = some (.int k)) :
    MOK P o fun P tm H => onV (aval x tm) (fun _ n => aInt k n H) (fun _ => .no) (fun _ _ => .no) (fun _ _ _ _ => .no) (fun _ => .no) (fun _ => .no) := by
  intro B W0 ι tm H a w hs g
  have hx := opd hs g.gl x
  dsimp only
  cases ex : aval x tm with
  | i k0 n =>
    rw [ex] at hx
    refine R_int g k n ?_
    simp [execOp, h, hx.i, convert, run_underlying hu, run_underlying hu', Conv.intToInt, Result.andThen]
  | _ => exact trivial
/-- to unsafe.Pointer and back -/
theorem mok_safe (c0 d : TypeId) (x : Operand) (h : o.op = .convert c0 d x) (t : TypeId) (hu : (P.underlying c0 = some (.pointer t) ∧ P.underlying d = some .unsafePointer) ∨ (P.underlying c0 = some .unsafePointer ∧ P.underlying d = some (.pointer t))) :
    MOK P o (aSafe P t (fun tm => aval x tm)) := by
  intro B W0 ι tm H a w hs g
  have hx := opd hs g.gl x
  unfold aSafe
  dsimp only
  rw [onP_eq]
  cases ex : aval x tm with
  | p b q =>
    rw [ex] at hx
    dsimp only
    rw [onCells_eq]
    cases hb : H.get b with
    | cells c e own =>
      dsimp only
      cases hc : (Nat.beq q 0 && Nat.beq e t && !Nat.beq (sizeB P t) 0 && Nat.ble (sizeB P t) (lenS c)) with
      | false => exact trivial
      | true =>
        rw [ite'_true]
        simp only [Bool.and_eq_true, Nat.beq_eq, lenS_eq, Bool.not_eq_true'] at hc
        obtain ⟨⟨⟨rfl, rfl⟩, h3⟩, h4⟩ := hc
        have h4' : sizeB P e ≤ c.length := Nat.le_of_ble_eq_true h4
        have h3' : sizeB P e ≠ 0 := by intro e0; rw [e0] at h3; simp at h3
        obtain ⟨r, S, z, cs, fr, h1, h2, h5, h6, h7, h8⟩ := g.cells hb
        rcases hx.p with ⟨r1, S1, z1, hl', hv⟩ | ⟨hd', _⟩
        · rw [h1] at hl'; injection hl' with e3 e4 e5; subst e3
          refine .same g (v' := .pointer (some ⟨r, 0, none⟩)) ?_ (RA.one (.ptr h1))
          have hsh : w.shape? r = some (e, cs.size) := by simp [World.shape?, h2]
          have hsz : sizeB P e ≤ cs.size := Nat.le_trans h4' h7.1
          unfold sizeB at h3' hsz
          cases hi : P.info? e with
          | none => rw [hi] at h3'; simp at h3'
          | some j =>
            rw [hi] at h3' hsz
            simp at h3' hsz
            have hrun : (convert c0 d (.pointer (some ⟨r, 0, none⟩))).run P w = .ok (.pointer (some ⟨r, 0, none⟩)) w := by
              rcases hu with ⟨hu, hu'⟩ | ⟨hu, hu'⟩
              · exact Lib.run_to_unsafe w _ hu hu' hi h3' hsh (by show 0 < cs.size; omega)
              · refine Lib.run_from_unsafe w _ hu hu' hi hsh ?_
                have hce : P.cellsOf e = j.size := by simp [Program.cellsOf, hi]
                rw [hce]
                have hd : P.depth = (2 * (P.types.size + Made.depth) + 1) + 1 := rfl
                rw [hd]
                simp only [liesAt, Bool.or_eq_true]
                left
                rw [hd]
                have : 1 ≤ cs.size / j.size := (Nat.one_le_div_iff (by omega)).2 hsz
                simp [rowAt, hce, h3', sameLayout, this]
            simp [execOp, h, hv, hrun, Result.andThen]
        · rw [h1] at hd'; cases hd'
    | _ => exact trivial
  | _ => exact trivial
end
section
variable {P : Program} {o : Oper}
theorem mok_convert (c d : TypeId) (x : Operand) (h : o.op = .convert c d x) : MOK P o (unBx (aConvert P (slow o) c d (fun tm => aval x tm))) := by
  unfold aConvert
  split
  · rename_i k1 k hu hu'; exact mok_int2 c d x h k1 k hu hu'
  · rename_i e hu hu'
    cases hb : isU8 P e with
    | false => rw [ite'_false]; exact mok_no'
    | true =>
      rw [ite'_true]
      have he : P.underlying e = some (.int .u8) := by
        revert hb; unfold isU8; split
        · rename_i he; intro _; exact he
        · intro hb; cases hb
      exact mok_toStr c d x h e hu hu' he
  · rename_i t hu hu'; exact mok_safe c d x h t (.inl ⟨hu, hu'⟩)
  · rename_i t hu hu'; exact mok_safe c d x h t (.inr ⟨hu, hu'⟩)
  · exact mok_slow P o
theorem mok_all (o : Oper) (hst : stillK o.op = true) : MOK P o (unBx (aopO P (slow o) o.op)) := by
  cases h : o.op with
  | move x => exact mok_move x (.inl h)
  | assign x => exact mok_move x (.inr h)
  | pick c x y => exact mok_pick c x y h
  | load t x => exact mok_load t x h
  | nilCheck x => exact mok_nil x h
  | binOp op t x y t' =>
    show MOK P o (unBx (ite' (isPtr P t) (.mk (kindBin op true false (unBx (intOp op)) (slow o) (fun tm => aval x tm) fun tm => aval y tm))
      (ite' (isSl P t) (.mk (kindBin op false true (unBx (intOp op)) (slow o) (fun tm => aval x tm) fun tm => aval y tm)) (.mk (kindBin op false false (unBx (intOp op)) (slow o) (fun tm => aval x tm) fun tm => aval y tm)))))
    cases h1 : isPtr P t with
    | true => exact mok_bin op t t' x y h true false (fun _ => h1) (fun e => by cases e)
    | false => cases h2 : isSl P t with
      | true => exact mok_bin op t t' x y h false true (fun e => by cases e) (fun _ => h2)
      | false => exact mok_bin op t t' x y h false false (fun e => by cases e) (fun e => by cases e)
  | convert c d x => exact mok_convert c d x h
  | fieldAddr s x f => exact mok_field s x f h
  | indexAddr t x i => exact mok_index t x i h
  | index t x i =>
    show MOK P o (unBx (match P.underlying t with | some .string => (.mk (aIndexStr (fun tm => aval x tm) (fun tm => aval i tm)) : Bx M) | _ => .mk (slow o)))
    split
    · rename_i hu; exact mok_indexStr t x i h hu
    · exact mok_slow P o
  | extract x i => exact mok_extract x i h
  | unOp _ _ _ => exact mok_slow P o
  | call c =>
    rw [h] at hst
    show MOK P o (unBx (aCall P (slow o) c))
    unfold aCall
    cases hc : c.callee with
    | invoke t n => exact mok_no'
    | value x => obtain ⟨ce, ar, ts⟩ := c; subst hc; simp [stillK] at hst
    | builtin b =>
      show MOK P o (unBx (aBuiltin P (slow o) b c.args.toList c.argTypes.toList))
      obtain ⟨ce, ar, ts⟩ := c
      dsimp only at hc
      subst hc
      unfold aBuiltin
      split
      · rename_i x ha
        split
        · rename_i t ts' ht
          cases h1 : isSl P t with
          | true => exact mok_lenS _ x h rfl ha t ts' ht h1
          | false =>
            cases h2 : isTx P t with
            | true => exact mok_lenT _ x h rfl ha t ts' ht h2
            | false => exact mok_slow P o
        · exact mok_slow P o
      · rename_i x ha
        split
        · rename_i t ts' ht
          cases h1 : isSl P t with
          | true => exact mok_cap _ x h rfl ha t ts' ht h1
          | false => exact mok_slow P o
        · exact mok_slow P o
      · simp [stillK] at hst
      · simp [stillK] at hst
      · simp [stillK] at hst
      · simp [stillK] at hst
      · exact mok_slow P o
  | _ => rw [h] at hst; simp [stillK] at hst
end
end Go.Ev.T
