import Derived.Test.YtnoppeocbfapdaaGreatDoorEvO
/-! The evaluator's operations answer as the model's do (2): addresses, slices, lengths. -/
namespace Go.Ev
open Go Go.RowKit
set_option linter.unusedVariables false
set_option linter.unusedSimpArgs false
theorem addr_add (r o n : Nat) : (⟨r, o, none⟩ : Addr).add n = ⟨r, o + n, none⟩ := by
  unfold Addr.add; split
  · rename_i h; subst h; rfl
  · rfl
theorem RA.pAdd {ι : Inj} {b o : Nat} {v : Value} (h : RA ι (.p b o) v) : ∃ ad, v = .pointer (some ad) ∧ ∀ n, RA ι (.p b (o + n)) (.pointer (some (ad.add n))) := by
  rcases h.p with ⟨r, S, z, hl, rfl⟩ | ⟨hd, ad, rfl⟩
  · exact ⟨_, rfl, fun n => by rw [addr_add]; exact RA.one (.ptr hl)⟩
  · exact ⟨ad, rfl, fun n => RA.one (.dptr hd)⟩
theorem RA.sAdd {ι : Inj} {b o l c : Nat} {v : Value} (h : RA ι (.s b o l c) v) : ∃ ad c', v = .slice (some ad) l c' ∧ c ≤ c' ∧ (∀ n, RA ι (.p b (o + n)) (.pointer (some (ad.add n)))) := by
  rcases h.s with ⟨r, S, z, c', hl, hc, hS, rfl⟩ | ⟨hd, ad, c', hc, rfl⟩
  · exact ⟨_, c', rfl, hc, fun n => by rw [addr_add]; exact RA.one (.ptr hl)⟩
  · exact ⟨ad, c', rfl, hc, fun n => RA.one (.dptr hd)⟩
theorem isNat_ok {P : Program} {B : Nat} {W0 : World} {H : HP} {ι : Inj} {w : World} {res : Result Next} {av : AV} {v : Value} {k : Nat → R} (hv : RA ι av v) (h : ∀ (kd : IntKind) (n : Nat), v = .int kd n → ROK P B W0 H ι w res (k n)) :
    ROK P B W0 H ι w res (isNat av .no k) := by
  rw [isNat_eq]
  cases av with
  | i kd n => cases n with
    | ofNat n => exact h kd n hv.i
    | negSucc n => exact trivial
  | _ => exact trivial
theorem optG_ok {P : Program} {B : Nat} {W0 : World} {H : HP} {ι : Inj} {w : World} {res : Result Next} {x : Option Operand} {tm : Tr AV} {a : Act} {d : Nat} {k : Nat → R} (hs : SR ι tm a) (g : GS P B W0 ι H w)
    (h : ∀ n : Nat, ((x = none ∧ n = d) ∨ ∃ y kd, x = some y ∧ a.eval y = .int kd n) → ROK P B W0 H ι w res (k n)) : ROK P B W0 H ι w res (optG x tm d k) := by
  cases x with
  | none => exact h d (.inl ⟨rfl, rfl⟩)
  | some y => exact isNat_ok (opd hs g.gl y) fun kd n e => h n (.inr ⟨y, kd, rfl, e⟩)
theorem run_bound {P : Program} {w : World} (kd : IntKind) (n y : Nat) (code : BoundsCode) (h : n ≤ y) : (Instr.sliceBound (.int kd n) y code).run P w = .ok n w := by
  have e : (0 : Int) ≤ (n : Int) ∧ (n : Int) ≤ (y : Int) := by omega
  simp [Instr.sliceBound, asIntOf, Result.andThen, e]
theorem run_bounds {P : Program} {w : World} (sl : Bool) (len cap : Nat) (a : Act) (lo hi : Option Operand) (l h : Nat) (hl : (lo = none ∧ l = 0) ∨ ∃ y kd, lo = some y ∧ a.eval y = .int kd l) (hh : (hi = none ∧ h = len) ∨ ∃ y kd, hi = some y ∧ a.eval y = .int kd h)
    (h1 : l ≤ h) (h2 : h ≤ cap) : (Instr.sliceBounds sl len cap (lo.map a.eval) (hi.map a.eval) none).run P w = .ok (l, h, cap) w := by
  unfold Instr.sliceBounds
  rcases hl with ⟨rfl, rfl⟩ | ⟨y, kd, rfl, hy⟩ <;> rcases hh with ⟨rfl, rfl⟩ | ⟨y', kd', rfl, hy'⟩ <;> simp [*, Result.andThen, run_bound]
section
variable {P : Program} {o : Oper}
theorem mok_field (s : TypeId) (x : Operand) (f : Nat) (h : o.op = .fieldAddr s x f) : MOK P o (unBx (aField P (fun tm => aval x tm) (fieldB P s f))) := by
  intro B W0 ι tm H a w hs g
  have hx := opd hs g.gl x
  unfold aField fieldB
  cases hu : P.underlying s with
  | none => exact trivial
  | some d =>
    cases d with
    | struct fs =>
      dsimp only
      cases hf : fs[f]? with
      | none => exact trivial
      | some fd =>
        dsimp only
        unfold szB
        cases hi : P.info? fd.type with
        | none => exact trivial
        | some j =>
          dsimp only
          cases hz : Nat.beq j.size 0 with
          | true => exact trivial
          | false =>
            show ROK P B W0 H ι w _ (onP (aval x tm) .no fun b o => fNat (Nat.add o fd.offset) fun o => .val (.p b o) H)
            rw [onP_eq]
            cases e : aval x tm with
            | p b q =>
              rw [e] at hx
              obtain ⟨ad, hv, hadd⟩ := hx.pAdd
              have hz' : j.size ≠ 0 := by intro e0; rw [e0] at hz; simp at hz
              dsimp only
              rw [fNat_eq]
              refine .same g (v' := .pointer (some (ad.add fd.offset))) ?_ (hadd fd.offset)
              simp [execOp, h, hv, Instr.fieldAt, run_underlying hu, hf, Instr.sureAddr, fieldPlace, sizeOf, typeInfo, hi, hz', Result.andThen]
            | _ => exact trivial
    | _ => exact trivial
theorem mok_index (t : TypeId) (x i : Operand) (h : o.op = .indexAddr t x i) : MOK P o (unBx (aIndexB P (fun tm => aval x tm) (fun tm => aval i tm) (P.underlying t))) := by
  intro B W0 ι tm H a w hs g
  have hx := opd hs g.gl x
  unfold aIndexB
  cases hu : P.underlying t with
  | none => exact trivial
  | some d =>
    cases d with
    | slice e =>
      dsimp only
      unfold szB
      cases hi : P.info? e with
      | none => exact trivial
      | some j =>
        show ROK P B W0 H ι w _ (aIndexAddr j.size (aval x tm) (aval i tm) H)
        unfold aIndexAddr
        cases ex : aval x tm with
        | s b q l c =>
          rw [ex] at hx
          obtain ⟨ad, c', hv, hc, hadd⟩ := hx.sAdd
          rw [onV_s]
          refine isNat_ok (opd hs g.gl i) fun kd n hn_ => ?_
          cases hlt : Nat.blt n l with
          | false => exact trivial
          | true =>
            rw [ite'_true, fNat_eq]
            have hlt' : n < l := by rw [Nat.blt_eq] at hlt; exact hlt
            have e1 : (0 : Int) ≤ (n : Int) ∧ (n : Int) < (l : Int) := by omega
            refine .same g (v' := .pointer (some (ad.add (n * j.size)))) ?_ (hadd _)
            simp [execOp, h, hv, hn_, Instr.indexAt, asIntOf, run_underlying hu, sizeOf, typeInfo, hi, Result.andThen, hlt']
        | _ => exact trivial
    | array n e =>
      dsimp only
      unfold szB
      cases hi : P.info? e with
      | none => exact trivial
      | some j =>
        show ROK P B W0 H ι w _ (aIndexArr n j.size (aval x tm) (aval i tm) H)
        unfold aIndexArr
        rw [onP_eq]
        cases ex : aval x tm with
        | p b q =>
          rw [ex] at hx
          obtain ⟨ad, hv, hadd⟩ := hx.pAdd
          refine isNat_ok (opd hs g.gl i) fun kd m hn_ => ?_
          cases hlt : Nat.blt m n with
          | false => exact trivial
          | true =>
            rw [ite'_true, fNat_eq]
            have hlt' : m < n := by rw [Nat.blt_eq] at hlt; exact hlt
            have e1 : (0 : Int) ≤ (m : Int) ∧ (m : Int) < (n : Int) := by omega
            refine .same g (v' := .pointer (some (ad.add (m * j.size)))) ?_ (hadd _)
            simp [execOp, h, hv, hn_, Instr.indexAt, Instr.sureAddr, asIntOf, run_underlying hu, sizeOf, typeInfo, hi, Result.andThen, hlt']
        | _ => exact trivial
    | _ => exact trivial
theorem mok_indexStr (t : TypeId) (x i : Operand) (h : o.op = .index t x i) (hu : P.underlying t = some .string) : MOK P o (aIndexStr (fun tm => aval x tm) (fun tm => aval i tm)) := by
  intro B W0 ι tm H a w hs g
  have hx := opd hs g.gl x
  unfold aIndexStr
  dsimp only
  rw [onO_eq]
  cases ex : aval x tm with
  | o v =>
    rw [ex] at hx
    cases v with
    | string s =>
      have hv := hx.lit_inv rfl
      dsimp only [onStr]
      refine isNat_ok (opd hs g.gl i) fun kd n hn_ => ?_
      rw [nthS_eq]
      cases hb : s.data.toList[n]? with
      | none => exact trivial
      | some y =>
        dsimp only
        rw [fNat_eq]
        refine .same g (v' := .int .u8 y.toNat) ?_ (.mk_i _ _ _)
        have hlt : n < s.size := by
          have := (List.getElem?_eq_some_iff.1 hb).1
          rw [Array.length_toList] at this
          exact this
        have hb2 : s[n]? = some y := by
          rw [getElem?_pos s n hlt]
          have := (List.getElem?_eq_some_iff.1 hb).2
          rw [← this]; rfl
        simp [execOp, h, hv, AV.val, hn_, Instr.index, asIntOf, run_underlying hu, hb2, Result.andThen]
    | _ => exact trivial
  | _ => exact trivial
theorem aSlice2_ok {B : Nat} {W0 : World} {H : HP} {ι : Inj} {w : World} {res : Result Next} (g : GS P B W0 ι H w) (z b q c lo hi : Nat)
    (h : lo ≤ hi → hi ≤ c → ∀ av : AV, (lo = 0 → av = .s b q (hi - lo) (c - lo)) → (0 < lo → lo < c → av = .s b (q + lo * z) (hi - lo) (c - lo)) → (0 < lo → lo < c) → ROK P B W0 H ι w res (.val av H)) :
    ROK P B W0 H ι w res (aSlice2 z b q c lo hi H) := by
  unfold aSlice2
  cases hb : (Nat.ble lo hi && Nat.ble hi c) with
  | false => exact trivial
  | true =>
    rw [Bool.and_eq_true] at hb
    have h1 := Nat.le_of_ble_eq_true hb.1
    have h2 := Nat.le_of_ble_eq_true hb.2
    rw [ite'_true, fNat_eq, fNat_eq]
    cases lo with
    | zero => exact h h1 h2 _ (fun _ => rfl) (fun e => absurd e (by omega)) (fun e => absurd e (by omega))
    | succ lo =>
      show ROK P B W0 H ι w res (ite' (Nat.beq (c - (lo + 1)) 0) .no (fNat (Nat.add q (Nat.mul (Nat.succ lo) z)) fun o => .val (.s b o (hi - (lo + 1)) (c - (lo + 1))) H))
      cases hc : Nat.beq (c - (lo + 1)) 0 with
      | true => exact trivial
      | false =>
        have hlt : lo + 1 < c := by
          apply Nat.lt_of_not_le
          intro hle
          rw [show c - (lo + 1) = 0 by omega] at hc
          simp at hc
        rw [ite'_false, fNat_eq]
        exact h h1 h2 _ (fun e => absurd e (by omega)) (fun _ _ => rfl) (fun _ => hlt)
theorem mok_slice (t : TypeId) (x : Operand) (lo hi : Option Operand) (h : o.op = .slice t x lo hi none) : MOK P o (unBx (aSliceB P lo hi (fun tm => aval x tm) (P.underlying t))) := by
  intro B W0 ι tm H a w hs g
  have hx := opd hs g.gl x
  unfold aSliceB
  cases hu : P.underlying t with
  | none => exact trivial
  | some d =>
    cases d with
    | slice e =>
      dsimp only
      unfold szB
      cases hi_ : P.info? e with
      | none => exact trivial
      | some j =>
        show ROK P B W0 H ι w _ (aSlice j.size lo hi (fun tm => aval x tm) P tm H)
        unfold aSlice
        dsimp only
        cases ex : aval x tm with
        | s b q l c =>
          rw [ex] at hx
          rw [onV_s]
          rw [onCells_eq]
          cases hb : H.get b with
          | cells cs e' own =>
            dsimp only
            cases hz0 : Nat.beq (zOf P e') j.size with
            | false => exact trivial
            | true =>
              rw [ite'_true]
              refine optG_ok hs g fun nl hl => optG_ok hs g fun nh hh => aSlice2_ok g j.size b q c nl nh fun h1 h2 av e0 e1 e2 => ?_
              rcases hx.s with ⟨r, S, z, c', hl', hc, hS, hv⟩ | ⟨hd', _⟩
              · have hz : z = j.size := by
                  have h3 := g.hr.blk b r S z hl'
                  rw [hb] at h3
                  obtain ⟨_, _, _, _, h4, _⟩ := h3
                  rw [Nat.beq_eq] at hz0
                  exact h4.symm.trans hz0
                have hrun := run_bounds (P := P) (w := w) true l c' a lo hi nl nh hl hh h1 (by omega)
                have hne : nl = 0 ∨ c' ≠ nl := by
                  rcases Nat.eq_zero_or_pos nl with e | e
                  · exact .inl e
                  · have := e2 e; exact .inr (by omega)
                refine .same g (v' := .slice (some ⟨r, q + nl * j.size, none⟩) (nh - nl) (c' - nl)) ?_ ?_
                · have e5 : (if c' = nl then (some ⟨r, q, none⟩ : Option Addr) else some ((⟨r, q, none⟩ : Addr).add (nl * j.size))) = some ⟨r, q + nl * j.size, none⟩ := by
                    rw [addr_add]
                    rcases hne with e | e
                    · subst e; simp
                    · rw [if_neg e]
                  simp [execOp, h, hv, Instr.sliceAt, Instr.slice, run_underlying hu, hrun, sizeOf, typeInfo, hi_, Result.andThen, e5]
                · rcases Nat.eq_zero_or_pos nl with e | e
                  · rw [e0 e]; subst e
                    simp only [Nat.zero_mul, Nat.add_zero, Nat.sub_zero]
                    exact RA.one (.sl hl' hc hS)
                  · rw [e1 e (e2 e), ← hz]
                    refine RA.one (.sl hl' (by omega) ?_)
                    have : nl * z + (c' - nl) * z = c' * z := by rw [← Nat.add_mul]; congr 1; have := e2 e; omega
                    omega
              · exact absurd hd' (by obtain ⟨r, S, z, h5⟩ := g.hr.alive b (by rw [hb]; simp); rw [h5]; simp)
          | _ => exact trivial
        | o v =>
          rw [ex] at hx
          rw [onV_o]
          cases v with
          | slice ad n c =>
            cases ad with
            | some _ => exact trivial
            | none =>
              dsimp only
              refine optG_ok hs g fun nl hl => optG_ok hs g fun nh hh => ?_
              cases hz : (Nat.beq nl 0 && Nat.beq nh 0) with
              | false => exact trivial
              | true =>
                rw [Bool.and_eq_true, Nat.beq_eq, Nat.beq_eq] at hz
                obtain ⟨rfl, rfl⟩ := hz
                have hv := hx.lit_inv rfl
                have hrun := run_bounds (P := P) (w := w) true n c a lo hi 0 0 hl hh (Nat.le_refl _) (Nat.zero_le _)
                refine .same g (v' := .slice none 0 c) ?_ (.inr (.of_lit rfl))
                simp [execOp, h, hv, AV.val, Instr.sliceAt, Instr.slice, run_underlying hu, hrun, sizeOf, typeInfo, hi_, Result.andThen]
          | _ => exact trivial
        | _ => exact trivial
    | array n e =>
      dsimp only
      unfold szB
      cases hi_ : P.info? e with
      | none => exact trivial
      | some j =>
        show ROK P B W0 H ι w _ (aSliceArr n j.size lo hi (fun tm => aval x tm) P tm H)
        unfold aSliceArr
        dsimp only
        rw [onP_eq]
        cases ex : aval x tm with
        | p b q =>
          rw [ex] at hx
          dsimp only
          rw [onCells_eq]
          cases hb : H.get b with
          | cells cs e' own =>
            dsimp only
            cases hz0 : (Nat.beq (zOf P e') j.size && Nat.ble (Nat.add q (Nat.mul n j.size)) (lenS cs)) with
            | false => exact trivial
            | true =>
              rw [Bool.and_eq_true, Nat.beq_eq, lenS_eq] at hz0
              have hle : q + n * j.size ≤ cs.length := Nat.le_of_ble_eq_true hz0.2
              rw [ite'_true]
              refine optG_ok hs g fun nl hl => optG_ok hs g fun nh hh => aSlice2_ok g j.size b q n nl nh fun h1 h2 av e0 e1 e2 => ?_
              obtain ⟨r, S, z, hal⟩ := g.hr.alive b (by rw [hb]; simp)
              rcases hx.p with ⟨r1, S1, z1, hl', hv⟩ | ⟨hd', _⟩
              · rw [hal] at hl'
                injection hl' with e3 e4 e5
                subst e3; subst e4; subst e5
                have h3 := g.hr.blk b r S z hal
                rw [hb] at h3
                obtain ⟨cs', _, _, hS', h4, hc4, _⟩ := h3
                have hz : z = j.size := h4.symm.trans hz0.1
                have hS : q + n * z ≤ S := by rw [hz, ← hS']; exact Nat.le_trans hle hc4.1
                have hrun := run_bounds (P := P) (w := w) false n n a lo hi nl nh hl hh h1 (by omega)
                have hne : nl = 0 ∨ n ≠ nl := by
                  rcases Nat.eq_zero_or_pos nl with e | e
                  · exact .inl e
                  · have := e2 e; exact .inr (by omega)
                refine .same g (v' := .slice (some ⟨r, q + nl * j.size, none⟩) (nh - nl) (n - nl)) ?_ ?_
                · have e5 : (if n = nl then (⟨r, q, none⟩ : Addr) else (⟨r, q, none⟩ : Addr).add (nl * j.size)) = ⟨r, q + nl * j.size, none⟩ := by
                    rw [addr_add]
                    rcases hne with e | e
                    · subst e; simp
                    · rw [if_neg e]
                  simp [execOp, h, hv, Instr.sliceAt, Instr.sureAddr, run_underlying hu, hrun, sizeOf, typeInfo, hi_, Result.andThen, e5]
                · rcases Nat.eq_zero_or_pos nl with e | e
                  · rw [e0 e]; subst e
                    simp only [Nat.zero_mul, Nat.add_zero, Nat.sub_zero]
                    exact RA.one (.sl hal (Nat.le_refl _) hS)
                  · rw [e1 e (e2 e), ← hz]
                    refine RA.one (.sl hal (Nat.le_refl _) ?_)
                    have : nl * z + (n - nl) * z = n * z := by rw [← Nat.add_mul]; congr 1; have := e2 e; omega
                    omega
              · rw [hal] at hd'; cases hd'
          | _ => exact trivial
        | _ => exact trivial
    | string =>
      show ROK P B W0 H ι w _ (aSliceStr lo hi (fun tm => aval x tm) P tm H)
      unfold aSliceStr
      dsimp only
      rw [onO_eq]
      cases ex : aval x tm with
      | o v =>
        rw [ex] at hx
        cases v with
        | string s =>
          have hv := hx.lit_inv rfl
          dsimp only [onStr]
          refine optG_ok hs g fun nl hl => optG_ok hs g fun nh hh => ?_
          cases hb : (Nat.ble nl nh && Nat.ble nh (lenS s.data.toList)) with
          | false => exact trivial
          | true =>
            rw [Bool.and_eq_true, lenS_eq] at hb
            have h1 := Nat.le_of_ble_eq_true hb.1
            have h2 : nh ≤ s.size := Nat.le_of_ble_eq_true hb.2
            rw [ite'_true, takeS_eq, dropS_eq]
            have e1 : (⟨⟨(s.data.toList.drop nl).take (Nat.sub nh nl)⟩⟩ : ByteArray) = s.extract nl nh := data_ext (by simp [show Nat.sub nh nl = nh - nl from rfl])
            have hh' : (hi = none ∧ nh = s.size) ∨ ∃ y kd, hi = some y ∧ a.eval y = .int kd nh := by
              rcases hh with ⟨e, rfl⟩ | hh
              · exact .inl ⟨e, by rw [lenS_eq]; rfl⟩
              · exact .inr hh
            have hrun := run_bounds (P := P) (w := w) false s.size s.size a lo hi nl nh hl hh' h1 h2
            refine .same g (v' := .string (s.extract nl nh)) ?_ (.inr (by unfold mkS; rw [e1]; exact .of_lit rfl))
            simp [execOp, h, hv, AV.val, Instr.sliceAt, Instr.slice, run_underlying hu, hrun, Result.andThen]
        | _ => exact trivial
      | _ => exact trivial
    | _ => exact trivial
end
end Go.Ev
