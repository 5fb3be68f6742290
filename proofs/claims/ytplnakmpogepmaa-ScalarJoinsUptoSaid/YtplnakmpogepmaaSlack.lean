import Derived.Test.YtplnakmpogepmaaRoom
/-! A kind: a row with cells known in the room behind it. -/
namespace Go.Proofs.Ytplnakmpogepmaa.Rm
open Go.RowKit Go.Proofs.YtplnakmpogepmaaW.PrintWords
set_option linter.unusedVariables false
theorem Room.block {w : World} {v : Value} {n : Nat} {ex : List Value} (h : Room w v n ex) : ∃ g, v.ownBlock = some g ∧ ∀ w1 : World, w1.heap[g]? = w.heap[g]? → Room w1 v n ex := by
  obtain ⟨g, c, e, hc, hx⟩ := h
  refine ⟨g, by rw [e]; rfl, fun w1 hw => ⟨g, c, e, hc, fun j u hu => ?_⟩⟩
  rw [← hx j u hu]
  simp only [World.cell?, hw]
def slack {α : Type} (e : Nat) (d : Kd α) (ex : List Value) : Kd (List α) where
  sz := 1
  E := e :: d.E
  K := fun w xs cs => ∃ A c, cs = [.slice A xs.length c] ∧ xs.length ≤ c ∧ d.C w A xs.length xs ∧ Room w (.slice A xs.length c) xs.length ex
  M := fun w base ok xs cs => ∃ v, cs = [v] ∧ d.R e w base ok v xs ∧ Room w v xs.length ex
  K_len := by
    rintro w x cs ⟨A, c, rfl, _⟩
    rfl
  K_one := by
    rintro w x cs ⟨A, c, rfl, _⟩ u hu
    rw [List.mem_singleton.1 hu]
    rfl
  K_below := by
    rintro w w1 x cs hb ⟨A, c, rfl, hl, hr, hm⟩
    exact ⟨A, c, rfl, hl, Kd.C_below hr hb, hm.below hb⟩
  K_of_M := by
    rintro w base ok x cs ⟨v, rfl, h, hm⟩
    obtain ⟨A, c, rfl, hl, hr⟩ := Kd.R_reads h
    exact ⟨A, c, rfl, hl, hr, hm⟩
  M_mono := by
    rintro w base ok ok' x cs hok ⟨v, rfl, h, hm⟩
    exact ⟨v, rfl, Kd.R_mono h hok, hm⟩
  M_bound := by
    rintro w base ok x cs ⟨v, rfl, h, hm⟩
    exact ⟨v, rfl, Kd.R_bound h, hm⟩
  M_move := by
    rintro w w1 base ok x cs h1 ⟨v, rfl, h, hm⟩
    obtain ⟨g, hg, hmv⟩ := hm.block
    exact ⟨v, rfl, Kd.R_move h h1, hmv w1 (h1 g (h.1 g hg))⟩
  M_lower := by
    rintro w base base' ok x cs hb ⟨v, rfl, h, hm⟩
    exact ⟨v, rfl, Kd.R_lower h hb, hm⟩
theorem slack_C {α : Type} {e : Nat} {d : Kd α} {ex : List Value} {w : World} {A : Option Addr} {n : Nat} {xs : List (List α)} (h : (slack e d ex).C w A n xs) : (Kd.slice e d).C w A n xs :=
  ReadsRow.imp_ h (Below.refl _ _) (fun _ _ ⟨A, c, h1, h2, h3, _⟩ => ⟨A, c, h1, h2, h3⟩)
theorem slack_row {α : Type} {e base : Nat} {d : Kd α} {ex : List Value} {ok : Nat → Prop} {w : World} {v : Value} {xs : List α} (h : d.R e w base ok v xs) (hm : Room w v xs.length ex) : (slack e d ex).M w base ok xs [v] := ⟨v, rfl, h, hm⟩
theorem slack_at {e : Nat} {ex : List Value} {k : IntKind} {w : World} {A : Option Addr} {n : Nat} {xs : List (List Int)} (h : (slack e (Kd.int k) ex).C w A n xs) (i : Int) (h0 : 0 ≤ i) (h1 : i < n) :
    ∃ ad A0 c0, A = some ad ∧ w.cell? (ad.add i.toNat) = some (.slice A0 (xs.getD i.toNat []).length c0) ∧ (xs.getD i.toNat []).length ≤ c0 ∧ (Kd.int k).C w A0 (xs.getD i.toNat []).length (xs.getD i.toNat []) ∧ Room w (.slice A0 (xs.getD i.toNat []).length c0) (xs.getD i.toNat []).length ex := by
  obtain ⟨ad, c, e, _, hK, hc0⟩ := Kd.C_get h ([] : List Int) i h0 h1
  have hc : ∀ j u, c[j]? = some u → w.cell? (ad.add (i.toNat * 1 + j)) = some u := hc0
  obtain ⟨A0, c0, rfl, l0, g0, hm⟩ := hK
  exact ⟨ad, A0, c0, e, by have hq := hc 0 _ rfl; rwa [Nat.mul_one, Nat.add_zero] at hq, l0, g0, hm⟩
end Go.Proofs.Ytplnakmpogepmaa.Rm
