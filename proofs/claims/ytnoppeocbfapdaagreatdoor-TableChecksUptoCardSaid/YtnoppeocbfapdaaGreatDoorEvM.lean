import Derived.Test.YtnoppeocbfapdaaGreatDoorEvL
import Derived.Lib.LaidTab
import GoSem.Claims
import Derived.Lib.ItoaNum
import Derived.Below
/-! told's contract: the heap at the start holds the laid table of powers. -/
namespace Go.Ev
open Go Go.Proofs Go.RowKit
set_option linter.unusedVariables false
set_option maxRecDepth 100000
theorem row2 : (((begin Tryz.prog (fun _ _ => 0) default).world.heap[2]?).bind Obj.row?).map (fun p => (p.1.size, p.2)) = some (20, 200) := by kernel_rfl
theorem gs5 : Tryz.prog.globals.size = 5 := by kernel_rfl
theorem z200 : zOf Tryz.prog 200 = 1 := by kernel_rfl
theorem g2 : Tryz.prog.globalNamed "internal/strconv.uint64pow10" = some 2 := by kernel_rfl
theorem pow10_eq : Lib.pow10Tab = (List.range 20).map fun i => (10 : Int) ^ i := by unfold Lib.pow10Tab; exact List.map_congr_left fun i _ => by simp
/-- The table, where it lies. -/
def PowTab (w : World) : Prop := ∃ fr, w.heap[2]? = some (.cells (Lib.pow10Tab.map fun z => Value.int .u64 z).toArray 200 fr)
theorem PowTab.of_row {W : World} (h : Lib.TabIs Tryz.prog W "internal/strconv.uint64pow10" .u64 Lib.pow10Tab) (hs : W.ShapedOpen Tryz.prog) : PowTab W := by
  cases h1 : ((begin Tryz.prog (fun _ _ => 0) default).world.heap[2]?).bind Obj.row? with
  | none => have := row2; rw [h1] at this; cases this
  | some p =>
    have e := row2
    rw [h1] at e
    obtain ⟨zero, t⟩ := p
    simp only [Option.map_some, Option.some.injEq, Prod.mk.injEq] at e
    obtain ⟨e1, e2⟩ := e
    subst e2
    obtain ⟨cs, h2, h3, _⟩ := hs.1 2 zero _ (by rw [gs5]; decide) h1
    unfold Lib.TabIs World.var? at h
    rw [g2, Option.bind_some, h2] at h
    have hc := Option.some.inj h
    exact ⟨(0, 0), by rw [h2, hc]⟩
theorem PowTab.below {w w' : World} (h : PowTab w) (hb : Below w.heap.size w w') : PowTab w' := by
  obtain ⟨fr, h⟩ := h
  exact ⟨fr, by rw [hb.block 2 (Array.getElem?_eq_some_iff.1 h).1]; exact h⟩
/-- the blocks at the start -/
def ι0 : Inj := fun b => if b = 2 then .live 2 20 1 else if b < 8 then .dead else .un
theorem H0_get (j : Nat) : H0.get j = if j = 2 then .cells ((List.range 20).map fun i => .i .u64 (10 ^ i)) 200 false else .dead := by
  obtain ⟨t', h1, h2⟩ := Tr.setK_spec (β := Tr Blk) Blk.dead 24 .e 2 (.cells ((List.range 20).map fun i => .i .u64 (10 ^ i)) 200 false) (by decide)
  have e : H0 = .mk 8 8 1000000 t' := by unfold H0; rw [h1]; rfl
  rw [e, get_eq]
  show t'.get Blk.dead j = _
  rw [h2, Tr.get_e]
theorem H0_n : hn H0 = 8 := rfl
theorem start {w : World} (h : PowTab w) : GS Tryz.prog w.heap.size w ι0 H0 w := by
  obtain ⟨fr, h⟩ := h
  refine ⟨⟨fun b r S z hb => ?_, fun b hb => ?_, fun b h1 h2 => ?_, fun b b' r S z S' z' h1 h2 => ?_, by rw [H0_n]; decide⟩, fun g hg => ?_, Below.refl _ _, Nat.le_refl _⟩
  · unfold ι0 at hb
    split at hb
    · rename_i e
      subst e
      injection hb with e1 e2 e3
      subst e1 e2 e3
      rw [H0_get, if_pos rfl]
      refine ⟨_, fr, h, ?_, z200, ⟨?_, fun j a hj => ?_⟩, fun hh => by cases hh⟩
      · rw [pow10_eq]; simp
      · rw [pow10_eq]; simp
      · rw [List.getElem?_map] at hj
        obtain ⟨i, hi, rfl⟩ := Option.map_eq_some_iff.1 hj
        refine ⟨.int .u64 (10 ^ i), ?_, .one (.lit rfl)⟩
        rw [pow10_eq]
        rw [List.getElem?_toArray, List.getElem?_map, List.getElem?_map, hi]
        rfl
    · split at hb <;> cases hb
  · rw [H0_get] at hb
    by_cases e : b = 2
    · subst e; exact ⟨2, 20, 1, rfl⟩
    · rw [if_neg e] at hb; exact absurd rfl hb
  · rw [H0_n] at h1
    unfold ι0
    rw [if_neg (by omega), if_neg (by omega)]
  · unfold ι0 at h1 h2
    split at h1
    · split at h2
      · omega
      · split at h2 <;> cases h2
    · split at h1 <;> cases h1
  · unfold ι0
    by_cases e : g = 2
    · subst e; exact .inr ⟨20, 1, rfl⟩
    · rw [if_neg e, if_pos hg]; exact .inl rfl
/-- told() tells true, and leaves what was there. -/
theorem told_calls (hm_ : Tryz.prog.follows .mixedOrders = true) {w : World} (h : PowTab w) : Calls Tryz.prog 18 #[] w fun e w' => e = .returned (.bool true) ∧ Below w.heap.size w w' := by
  obtain ⟨H', he⟩ := isTrue_ok told_ev
  refine (ev_calls po hm_ he (start h) (F2.nil _)).mono ?_
  rintro e w' ⟨v', ι', rfl, _, _, hv, g⟩
  exact ⟨by rw [hv.b], g.below⟩
end Go.Ev
