import Derived.Test.YtnoppeocbfapdaaGreatDoorEvZ
import Derived.Room.Entries
/-! The evaluator's operations answer as the model's do (8): append; bytes as a text; bytes that nobody has set. -/
namespace Go.Ev
open Go Go.RowKit
set_option linter.unusedVariables false
set_option linter.unusedSimpArgs false
section
variable {P : Program} {o : Oper}
/-- what is appended -/
theorem srcK_ok {Q : R → Prop} (hno : Q .no) {B : Nat} {W0 : World} {H : HP} {ι : Inj} {w : World} (g : GS P B W0 ι H w) (size : Nat) (tx : TypeId) (hk : (∃ e', P.underlying tx = some (.slice e')) ∨ P.underlying tx = some .string) {av : AV} {v : Value} (hv : RA ι av v)
    {k : Nat → List AV → R} (h : ∀ m l news, Src P size tx v m news w → C2 ι l news → Q (k m l)) : Q (srcK H size av .no k) := by
  unfold srcK
  cases av with
  | s b q l c =>
    rw [onV_s]
    refine cellsK_ok (Q := Q) hno g fun r S z c0 e own vs hb hl hle hle' hvl hvs hrg => ?_
    rcases hv.s with ⟨r1, S1, z1, c', hl', hc, hS, rfl⟩ | ⟨hd', _⟩
    · rw [hl] at hl'; injection hl' with e3 e4 e5; subst e3
      have hn : ∀ j u, vs[j]? = some u → w.cell? ((⟨r, q, none⟩ : Addr).add j) = some u := fun j u hj => by rw [Addr.add_mid]; exact hrg j u hj
      exact h l _ vs ⟨hk, fun _ => rfl, run_firstCells_some w size l _ l c' vs hvl hn, run_firstCells_some w.drew size l _ l c' vs hvl (by simpa using hn), hvl, F2.one hvs⟩ hvs
    · rw [hl] at hd'; cases hd'
  | o u =>
    show Q (vsrc size u .no k)
    cases u with
    | slice ad n c => cases ad with
      | some _ => exact hno
      | none =>
        show Q (ite' (Nat.beq n 0) (k 0 []) .no)
        cases hn : Nat.beq n 0 with
        | false => exact hno
        | true =>
          rw [Nat.beq_eq] at hn; subst hn
          have hv' := hv.lit_inv rfl
          subst hv'
          exact h 0 [] [] ⟨hk, fun _ => rfl, run_firstCells_none w size 0 0 c, run_firstCells_none w.drew size 0 0 c, by simp, fun _ h => by cases h⟩ (F2.nil _)
    | string s =>
      show Q (ite' (Nat.beq size 1) (forceL (s.data.toList.map fun b => Value.int .u8 b.toNat) fun l => k (lenS l) l) .no)
      cases hz : Nat.beq size 1 with
      | false => exact hno
      | true =>
        rw [Nat.beq_eq] at hz; subst hz
        have hv' := hv.lit_inv rfl
        subst hv'
        rw [ite'_true, forceL_eq, lenS_eq]
        have hs1 : ∀ t, P.underlying t = some .string → Src P 1 t (.string s) s.size (byteCells s) w := fun t ht => Src.ofString w ht s
        have e : ((s.data.toList.map fun b => Value.int .u8 b.toNat).map AV.of).length = s.size := by simp
        rw [e]
        refine h s.size _ (byteCells s) ⟨hk, fun _ => rfl, firstCells_string s w, firstCells_string s w.drew, by rw [byteCells_length, Nat.mul_one], fun u hu => by
          obtain ⟨_, _, rfl⟩ := List.mem_map.1 hu; rfl⟩ ?_
        unfold byteCells
        exact F2.map (F2.refl_of (R := fun v v' => RV2 ι (AV.of v).val v') _ lit1 (by rw [List.all_eq_true]; intro x hx; obtain ⟨_, _, rfl⟩ := List.mem_map.1 hx; rfl) fun v hv => by rw [of_val]; exact .one (.lit hv))
    | _ => exact hno
  | _ => exact hno
structure ElemOk (P : Program) (e : TypeId) (j : TypeInfo) (z : Value) : Prop where
  hi : P.info? e = some j
  hz : j.zero = some z
  b0 : 0 < j.bytes
  b1 : j.bytes ≤ 128
  zc : z.cells.size = j.size
  s0 : j.size ≠ 0
  zo : zOf P e = j.size
theorem fits {need old bytes : Nat} (h : old < need) (hn : need ≤ 1000000) (hb : bytes ≤ 128) : Builtin.nextslicecap need old * bytes ≤ 281474976710656 := by
  have h1 := nextslicecap_le h
  have : Builtin.nextslicecap need old * bytes ≤ 2000000 * 128 := Nat.mul_le_mul (by omega) hb
  omega
theorem grown_size (z : Value) (olds news : List Value) (k sz : Nat) (hz : z.cells.size = sz) (n m : Nat) (h1 : olds.length = n * sz) (h2 : news.length = m * sz) (cap : Nat) (hc : n + m ≤ cap) (hk : k = cap - (n + m)) :
    ((olds ++ news).toArray ++ Builtin.zeroCells z.cells k).size = cap * sz := by
  simp [Builtin.zeroCells, h1, h2, hz, hk]
  have : cap = (n + m) + (cap - (n + m)) := by omega
  rw [← Nat.add_mul, ← Nat.add_mul, ← this]
/-- append: the slice grows, or does not -/
theorem mok_append (c : Call) (x y : Operand) (h : o.op = .call c) (hc : c.callee = .builtin .append) (ha : c.args.toList = [x, y]) (t u : TypeId) (ht : c.argTypes.toList = [t, u]) (e : TypeId) (he : elemB P t = some e)
    (hk : (∃ e', P.underlying u = some (.slice e')) ∨ P.underlying u = some .string) (j : TypeInfo) (z : Value) (ho : ElemOk P e j z) : MOK P o fun _ tm H => app1 e j.size (aval y tm) H (aval x tm) := by
  intro B W0 ι tm H a w hs g
  have hx := opd hs g.gl x
  have hy := opd hs g.gl y
  have hu := elemB_ok he
  have hts : c.argTypes = #[t, u] := by rw [← Array.toList_inj, ht]
  have hrun : ∀ v w', (Builtin.append_ #[t, u] o.type #[a.eval x, a.eval y]).run P w = .ok v w' → (execOp a.eval o).run P w = .ok (.value v) w' := fun v w' hr =>
    run_builtin (f := Builtin.append_) h hc ha (fun _ _ _ _ => rfl) (by rw [hts]; exact hr)
  have hs0 := ho.s0
  dsimp only
  unfold app1
  cases ex : aval x tm with
  | s b q n cap =>
    rw [ex] at hx
    rw [onV_s]
    refine srcK_ok (Q := ROK P B W0 H ι w _) trivial g j.size u hk hy fun m l news hsrc hl => ?_
    have hnl := hsrc.newsLen
    unfold app2
    cases hroom : Nat.ble (Nat.add n m) cap with
    | true =>
      have hroom' : n + m ≤ cap := Nat.le_of_ble_eq_true hroom
      rw [ite'_true, onCells_eq]
      cases hb : H.get b with
      | cells cs0 e' own =>
        dsimp only
        cases hee : Nat.beq e e' with
        | false => exact trivial
        | true =>
          rw [ite'_true]
          refine write_ok (Q := ROK P B W0 H ι w _) trivial g hl fun r S zz cs c0 e0 H1 w1 hb' h1 h2 h3 h4 h5 h6 h7 h8 h9 g1 => ?_
          rw [fNat_eq]
          rcases hx.s with ⟨r1, S1, z1, c', hl', hcc, hS, hv⟩ | ⟨hd', _⟩
          · rw [h1] at hl'; injection hl' with e3 e4 e5; subst e3; subst e4; subst e5
            refine ⟨h8, .slice (some ⟨r, q, none⟩) (n + m) c', w1, ι, .inl (hrun _ _ ?_), Ext.refl H ι, RA.one (.sl h1 hcc hS), g1⟩
            rw [hv, h7]
            refine run_append_room_src w t u o.type e j hu ho.hi r q n c' (a.eval y) m news hsrc (by omega) (fun i hi => ?_) (fun i hi => ?_)
            · rw [cell_row h3]; simp; have h2' : q + n * j.size + news.length ≤ S := h2; omega
            · simp [World.frozen?, h3]
          · rw [h1] at hd'; cases hd'
      | _ => exact trivial
    | false =>
      rw [ite'_false]
      cases hq : (Nat.beq q 0 && Nat.ble (Nat.add n m) 1000000) with
      | false => exact trivial
      | true =>
        rw [Bool.and_eq_true, Nat.beq_eq] at hq
        obtain ⟨rfl, hq2⟩ := hq
        have hmil : n + m ≤ 1000000 := Nat.le_of_ble_eq_true hq2
        rw [ite'_true, onCells_eq]
        cases hb : H.get b with
        | cells cs0 e' own =>
          dsimp only
          rw [lenS_eq]
          cases hee : (own && Nat.beq e e' && Nat.ble (Nat.mul n j.size) cs0.length) with
          | false => exact trivial
          | true =>
            rw [Bool.and_eq_true, Bool.and_eq_true, Nat.beq_eq] at hee
            obtain ⟨⟨rfl, rfl⟩, hle⟩ := hee
            have hle' : n * j.size ≤ cs0.length := Nat.le_of_ble_eq_true hle
            rw [ite'_true, takeK_eq, appK_eq]
            obtain ⟨r, S, zz, cs, fr, h1, h2, h3, h4, h5, h6⟩ := g.cells hb
            obtain ⟨rfl, hB⟩ := h6 rfl
            rcases hx.s with ⟨r1, S1, z1, c', hl', hcc, hS, hv⟩ | ⟨hd', _⟩
            · rw [h1] at hl'; injection hl' with e3 e4 e5; subst e3; subst e4; subst e5
              have hzz : zz = j.size := h4.symm.trans ho.zo
              obtain ⟨olds, v1, v2, v3⟩ := cellsR_sub h5 0 (n * j.size) (by omega)
              rw [List.drop_zero] at v2
              refine dead_ok (Q := ROK P B W0 H ι w _) trivial g h1 fun H1 hs1 hx1 g1 => ?_
              show ROK P B W0 H ι w _ (newSlice H1 (n + m) (n + m) (cs0.take (n * j.size) ++ l) e)
              have hcells : ∀ ι', Ext0 ι ι' → C2 ι' (cs0.take (n * j.size) ++ l) (olds ++ news) := fun ι' ex => (v2.append hl).imp fun _ _ h => h.mono ex
              by_cases hcap : n + m ≤ c'
              · -- in place
                have hbound : n * j.size + news.length ≤ cs.size := by
                  have : (n + m) * j.size ≤ c' * j.size := Nat.mul_le_mul_right _ hcap
                  rw [Nat.add_mul] at this
                  rw [hzz] at hS
                  omega
                have hw := setCells_eq (q := n * j.size) (vs := news) h2 hbound (F2.one hl)
                have happ := run_append_room_src w t u o.type e j hu ho.hi r 0 n c' (a.eval y) m news hsrc hcap (fun i hi => by rw [cell_row h2]; simp; omega) (fun i hi => by simp [World.frozen?, h2])
                rw [Nat.zero_add] at happ
                unfold newSlice
                refine new_ok (Q := ROK P B W0 H ι w _) trivial g1 (.cells (cs0.take (n * j.size) ++ l) e true) (by simp) r S zz (w.setCells r (n * j.size) news) (fun b' S' z' hb' => ?_) (fun k _ hk => by rw [hw]; exact setRow_other _ _ _ _ hk)
                  (by rw [hw]; exact below_setRow g.below hB _) (by rw [hw]; simp) (fun ι' ex => ?_) fun H2 ι' q1 q2 q3 q4 q5 g2 => ?_
                · by_cases eb : b' = b
                  · subst eb; rw [upd_self] at hb'; cases hb'
                  · rw [upd_ne _ _ eb] at hb'; exact eb (g.hr.inj _ _ _ _ _ _ _ hb' h1)
                · refine ⟨_, (0, 0), by rw [hw]; exact setRow_heap _ _ _ _ _ _ h2, by simp; omega, h4, ?_, fun _ => ⟨rfl, hB⟩⟩
                  have hC := hcells ι' (hx1.toExt0.trans ex)
                  have hol : cs.toList.take (n * j.size) = olds := by
                    apply List.ext_getElem?
                    intro i
                    by_cases hi : i < n * j.size
                    · have hio : i < olds.length := by omega
                      have := v3 i olds[i] (by simp [hio])
                      rw [List.getElem?_take, if_pos hi, List.getElem?_eq_getElem hio]
                      simpa using this
                    · rw [List.getElem?_eq_none (by simp; omega), List.getElem?_eq_none (by omega)]
                  rw [hol]
                  refine ⟨by rw [hC.1]; simp <;> omega, fun i y' hy' => ?_⟩
                  obtain ⟨v', r1, r2⟩ := hC.2 i y' hy'
                  refine ⟨v', ?_, r2⟩
                  rw [List.getElem?_toArray, List.getElem?_append_left (by rw [← hC.1]; exact (List.getElem?_eq_some_iff.1 hy').1)]
                  exact r1
                · rw [fNat_eq, fNat_eq]
                  refine ⟨hs1.trans q1, .slice (some ⟨r, 0, none⟩) (n + m) c', _, ι', .inl (hrun _ _ ?_), hx1.trans hs1 q2, RA.one (.sl q3 hcap hS), g2⟩
                  rw [hv]; exact happ
              · have hlt : c' < n + m := by omega
                have hold : (Builtin.firstCells j.size n (.slice (some ⟨r, 0, none⟩) n c')).run P w.drew = .ok olds.toArray w.drew :=
                  run_firstCells_some w.drew j.size n _ n c' olds v1 (fun i v' hi => by
                    rw [Addr.add_mid]
                    have := v3 i v' hi
                    have h2' : w.drew.heap[r]? = some (.cells cs e (0, 0)) := h2
                    rw [cell_row h2']; exact this)
                have happ := run_append_grow_src w t u o.type e j z hu ho.hi ho.hz (some ⟨r, 0, none⟩) n c' olds hold (a.eval y) m news hsrc hlt (by omega) (fits hlt hmil ho.b1)
                have hge := grownCap_ge w (n + m) c' e
                have hsize := grown_size z olds news _ j.size ho.zc n m v1 hnl (grownCap w (n + m) c' e) hge rfl
                have g1d : GS P B W0 (upd ι b .dead) H1 w := g1
                have key := newSlice_ok (res := (execOp a.eval o).run P w) g1 (n + m) (n + m) (grownCap w (n + m) c' e) (cs0.take (n * j.size) ++ l) e _ (w.drew.alloc (.cells ((olds ++ news).toArray ++ Builtin.zeroCells z.cells (grownCap w (n + m) c' e - (n + m))) e)) rfl
                  (g.below.drew.alloc g.size _) ?_ hge (by rw [hsize, ho.zo]; exact Nat.le_refl _) (hrun _ _ (by rw [hv]; exact happ))
                · revert key
                  generalize newSlice H1 (n + m) (n + m) (cs0.take (n * j.size) ++ l) e = rr
                  intro key
                  cases rr with
                  | val v H2 =>
                    obtain ⟨k1, v', w', ι', k2, k3, k4, k5⟩ := key
                    exact ⟨hs1.trans k1, v', w', ι', k2, hx1.trans hs1 k3, k4, k5⟩
                  | no => trivial
                  | enter f args =>
                    obtain ⟨args', k1, k2⟩ := key
                    rw [hrun _ _ (by rw [hv]; exact happ)] at k1
                    cases k1
                · have hC := hcells (upd ι b .dead) hx1.toExt0
                  refine ⟨by rw [hC.1]; simp, fun i y' hy' => ?_⟩
                  obtain ⟨v', r1, r2⟩ := hC.2 i y' hy'
                  refine ⟨v', ?_, r2⟩
                  have hi' : i < (olds ++ news).length := by rw [← hC.1]; exact (List.getElem?_eq_some_iff.1 hy').1
                  rw [Array.getElem?_append_left (by simpa using hi')]
                  simpa using r1
            · rw [h1] at hd'; cases hd'
        | _ => exact trivial
  | o v =>
    rw [ex] at hx
    rw [onV_o]
    cases v with
    | slice ad n c0 => cases ad with
      | some _ => exact trivial
      | none =>
        show ROK P B W0 H ι w _ (ite' (Nat.beq n 0 && Nat.beq c0 0) (srcK H j.size (aval y tm) .no fun m news => Nat.rec (motive := fun _ => R) (.val (.o (.slice none 0 0)) H) (fun m' _ => ite' (Nat.ble m 1000000) (newSlice H (Nat.succ m') (Nat.succ m') news e) .no) m) .no)
        cases hz : (Nat.beq n 0 && Nat.beq c0 0) with
        | false => exact trivial
        | true =>
          rw [Bool.and_eq_true, Nat.beq_eq, Nat.beq_eq] at hz
          obtain ⟨rfl, rfl⟩ := hz
          have hv := hx.lit_inv rfl
          rw [ite'_true]
          refine srcK_ok (Q := ROK P B W0 H ι w _) trivial g j.size u hk hy fun m l news hsrc hl => ?_
          have hnl := hsrc.newsLen
          cases m with
          | zero =>
            refine .same g (v' := .slice none 0 0) (hrun _ _ ?_) (.inr (.of_lit rfl))
            rw [hv]
            rcases hsrc.kind with ⟨e', hk'⟩ | hk' <;> simp [AV.val, Builtin.append_, run_underlying hu, run_underlying hk', sizeOf, typeInfo, ho.hi, hsrc.len, hsrc.cells, Result.andThen]
          | succ m =>
            show ROK P B W0 H ι w _ (ite' (Nat.ble (m + 1) 1000000) (newSlice H (m + 1) (m + 1) l e) .no)
            cases hm : Nat.ble (m + 1) 1000000 with
            | false => exact trivial
            | true =>
              have hm' : m + 1 ≤ 1000000 := Nat.le_of_ble_eq_true hm
              rw [ite'_true]
              have happ := run_append_grow_src w t u o.type e j z hu ho.hi ho.hz none 0 0 [] (run_firstCells_none w.drew j.size 0 0 0) (a.eval y) (m + 1) news hsrc (by omega) (by omega) (fits (by omega) (by omega) ho.b1)
              have hge := grownCap_ge w (0 + (m + 1)) 0 e
              have hsize := grown_size z [] news _ j.size ho.zc 0 (m + 1) (by simp) hnl (grownCap w (0 + (m + 1)) 0 e) hge rfl
              refine newSlice_ok g (m + 1) (m + 1) (grownCap w (0 + (m + 1)) 0 e) l e _ (w.drew.alloc (.cells (([] ++ news).toArray ++ Builtin.zeroCells z.cells (grownCap w (0 + (m + 1)) 0 e - (0 + (m + 1)))) e)) rfl
                (g.below.drew.alloc g.size _) ?_ (by omega) (by rw [hsize, ho.zo]; exact Nat.le_refl _) (hrun _ _ ?_)
              · refine ⟨by rw [hl.1]; simp, fun i y' hy' => ?_⟩
                obtain ⟨v', r1, r2⟩ := hl.2 i y' hy'
                refine ⟨v', ?_, r2⟩
                have hi' : i < news.length := by rw [← hl.1]; exact (List.getElem?_eq_some_iff.1 hy').1
                rw [Array.getElem?_append_left (by simpa using hi')]
                simpa using r1
              · rw [hv]
                have := happ
                simp only [Nat.zero_add] at this ⊢
                exact this
    | _ => exact trivial
  | _ => exact trivial
end
end Go.Ev
