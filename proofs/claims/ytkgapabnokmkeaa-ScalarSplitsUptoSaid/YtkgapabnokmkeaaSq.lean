import Derived.Test.YtkgapabnokmkeaaWWords
import Derived.Test.YtkgapabnokmkeaaWMore
import Derived.Test.YtkgapabnokmkeaaWLast
/-! Steps that the printed walks take time and again, under short names. -/
namespace Go.Proofs.Ytkgapabnokmkeaa.A
open Go.RowKit Go.Proofs.YtkgapabnokmkeaaW.PrintWords Go.Proofs.YtkgapabnokmkeaaW.PrintLast Go.Proofs.YtkgapabnokmkeaaW.PrintMore
theorem sqB {n : Nat} {a b : World} (h : Below n a b := by repeat (first | (with_reducible first | exact HB.out | apply below_alloc | apply pw_below_drewN | apply below_drew1) | exact HB.out)) : Below n a b := h
theorem sqA {p : Prop} (h : p := by (try simp only [List.map_toArray, List.map_cons, List.map_nil]); first | done | rfl | (simp only [List.length_drop, List.length_take]; rfl)) : p := h
theorem sqR {p q : Prop} (h0 : p) (h : p → q := by intro h0; (with_reducible repeat (first | apply Kd.R_alloc | apply Kd.R_drewN | apply Kd.R_drew)); exact h0) : q := h h0
theorem sqV {p q : Prop} (h0 : p) (h : p → q := by intro h0; (with_reducible repeat (first | apply Kd.V_alloc | apply Kd.V_drewN | apply Kd.V_drew)); exact h0) : q := h h0
theorem sqD {p : Prop} [Decidable p] (h : decide p = true := by first | (with_reducible assumption) | assumption) : p := of_decide_eq_true h
theorem sqE {p : Prop} (h : p := by first | rfl | (simp; done) | (simp [*]; done)) : p := h
theorem sqE' {p : Prop} (h : p := by first | rfl | (simp [errW_none, errW_some] <;> rfl) | (simp [*, errW_none, errW_some] <;> rfl)) : p := h
theorem sqO {α β : Type} {o : Option α} {f : α → Option β} {r : β} (h : o.bind f = some r) : ∃ t, Aside0 (o = some t) ∧ f t = some r := by
  obtain ⟨t, h1, h2⟩ := Option.bind_eq_some_iff.mp h
  exact ⟨t, ⟨h1⟩, h2⟩
theorem sqW {w w' : World} (h : Drawn0 w w' := by repeat (first | exact Drawn0.refl _ | apply Drawn0.step)) : Drawn0 w w' := h
end Go.Proofs.Ytkgapabnokmkeaa.A
