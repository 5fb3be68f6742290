import Derived.Test.YtnoppeocbfapdaaGreatDoorRoom
/-! A kind: a row of numbers with a mark; where the mark is set, cells known in the room behind the row. -/
namespace Go.Proofs.YtnoppeocbfapdaaGreatDoor.Rm
open Go.RowKit Go.Proofs.YtnoppeocbfapdaaGreatDoorW.PrintWords
set_option linter.unusedVariables false
theorem Room.block {w : World} {v : Value} {n : Nat} {ex : List Value} (h : Room w v n ex) : ∃ g, v.ownBlock = some g ∧ ∀ w1 : World, w1.heap[g]? = w.heap[g]? → Room w1 v n ex := by
  obtain ⟨g, c, e, hc, hx⟩ := h
  refine ⟨g, by rw [e]; rfl, fun w1 hw => ⟨g, c, e, hc, fun j u hu => ?_⟩⟩
  rw [← hx j u hu]
  simp only [World.cell?, hw]
def slackIf {α : Type} (e : Nat) (d : Kd α) (ex : List Value) : Kd (Bool × List α) where
  sz := 1
  E := e :: d.E
  K := fun w p cs => ∃ A c, cs = [.slice A p.2.length c] ∧ p.2.length ≤ c ∧ d.C w A p.2.length p.2 ∧ (p.1 = true → Room w (.slice A p.2.length c) p.2.length ex)
  M := fun w base ok p cs => ∃ v, cs = [v] ∧ d.R e w base ok v p.2 ∧ (p.1 = true → Room w v p.2.length ex)
  K_len := by
    rintro w x cs ⟨A, c, rfl, _⟩
    rfl
  K_one := by
    rintro w x cs ⟨A, c, rfl, _⟩ u hu
    rw [List.mem_singleton.1 hu]
    rfl
  K_below := by
    rintro w w1 x cs hb ⟨A, c, rfl, hl, hr, hm⟩
    exact ⟨A, c, rfl, hl, Kd.C_below hr hb, fun h => (hm h).below hb⟩
  K_of_M := by
    rintro w base ok x cs ⟨v, rfl, h, hm⟩
    obtain ⟨A, c, rfl, hl, hr⟩ := Kd.R_reads h
    exact ⟨A, c, rfl, hl, hr, hm⟩
  M_mono := by
    rintro w base ok ok' x cs hok ⟨v, rfl, h, hm⟩
    exact ⟨v, rfl, Kd.R_mono h hok, hm⟩
  M_bound := by
    rintro w base ok x cs ⟨v, rfl, h, hm⟩
    exact ⟨v, rfl, Kd.R_bound h, hm⟩
  M_move := by
    rintro w w1 base ok x cs h1 ⟨v, rfl, h, hm⟩
    refine ⟨v, rfl, Kd.R_move h h1, fun hx => ?_⟩
    obtain ⟨g, hg, hmv⟩ := (hm hx).block
    exact hmv w1 (h1 g (h.1 g hg))
  M_lower := by
    rintro w base base' ok x cs hb ⟨v, rfl, h, hm⟩
    exact ⟨v, rfl, Kd.R_lower h hb, hm⟩
/-- Elements told in another way. -/
theorem S_map {α β : Type} {d : Kd α} {d' : Kd β} (g : α → β) (hsz : d'.sz = d.sz) (hM : ∀ (w : World) (base : Nat) (ok : Nat → Prop) (x : α) (cs : List Value), d.M w base ok x cs → d'.M w base ok (g x) cs) {e : Nat} {w : World} {base : Nat} {ok : Nat → Prop} {v : Value} {xs : List α} (h : Kd.S d e w base ok v xs) : Kd.S d' e w base ok v (xs.map g) := by
  obtain ⟨f, h0, inner, ho, hr1, hr2⟩ := h
  have hsz' : (Kd.tag f d').sz = (Kd.tag f d).sz := hsz
  rw [List.length_zipIdx] at ho hr1
  refine ⟨f, h0, inner, ?_, ?_, fun j p hj => ?_⟩
  · rw [List.length_zipIdx, List.length_map, hsz']; exact ho
  · rw [List.length_zipIdx, List.length_map, hsz']; exact hr1
  · rw [List.getElem?_zipIdx, Nat.zero_add, List.getElem?_map] at hj
    obtain ⟨q, hq, rfl⟩ := Option.map_eq_some_iff.1 hj
    obtain ⟨x, hx, rfl⟩ := Option.map_eq_some_iff.1 hq
    rw [hsz']
    exact hM _ _ _ _ _ (hr2 j (x, j) (Kd.zip_at hx))
end Go.Proofs.YtnoppeocbfapdaaGreatDoor.Rm
