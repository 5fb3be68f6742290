import Derived.Test.YtnoppeocbfapdaaGreatDoorTabL
import Derived.Test.YtnoppeocbfapdaaGreatDoorTx18
import Derived.Test.YtnoppeocbfapdaaGreatDoorTx14
namespace Go.Proofs.YtnoppeocbfapdaaGreatDoor.Plain
open Go.RowKit Go.Proofs.YtnoppeocbfapdaaGreatDoorW.PrintWords Go.Proofs.YtnoppeocbfapdaaGreatDoorW.PrintLast Go.Proofs.YtnoppeocbfapdaaGreatDoorW.PrintMore Go.Proofs.YtnoppeocbfapdaaGreatDoor.T
set_option linter.unusedVariables false
set_option linter.unusedSimpArgs false
theorem tmod_ok (i : Nat) (m : Nat) (hm : 0 < m) : Int.tmod (i : Int) (m : Int) = ((i % m : Nat) : Int) := by
 rw [Int.ofNat_tmod]
theorem finds_end (l : List S25) (cs : List Int) (a : Int) (M : Nat) (hM : ∀ x ∈ l, x.f4.length ≤ M) (hM2 : M < 1000000000000) (i k : Nat) (hk : M + 200 ≤ k) : endonymlaw6_TableFinds.j1 k l a cs (l.take 120) (i : Int) false = some true := by
 obtain ⟨k, rfl⟩ : ∃ m, k = m + 1 := ⟨k - 1, by omega⟩
 rw [endonymlaw6_TableFinds.j1, if_neg (show ¬ (false = true) by decide)]
 unfold endonymlaw6_told.f
 rw [Option.bind_some, if_pos rfl, fam_prog _ k (by omega), Option.bind_some, fam_ref, Option.bind_some, if_pos rfl, whole_ok l (l.take 120) 120 M k rfl (by omega) hM hM2 (by omega)]
 rfl
section
variable (l : List S25) (cs : List Int) (a : Int) (M : Nat) (hM : ∀ x ∈ l, x.f4.length ≤ M) (hM2 : M < 1000000000000) (hw : ∀ x ∈ l, Upto.WfRec x) (hc : ∀ c ∈ cs, (Lit.int .i32 c).wf = true) (hcl : cs.length ≤ 1048576)
include hM hM2 hw hc hcl
theorem finds_loop : ∀ (d i k : Nat), cs.length = i + d → 3 * d + M + 300 ≤ k → endonymlaw6_TableFinds.l0 k l a cs (l.take 120) (i : Int) = some true := by
 intro d
 induction d with
 | zero =>
  intro i k hl hk
  obtain ⟨k, rfl⟩ : ∃ m, k = m + 1 := ⟨k - 1, by omega⟩
  rw [endonymlaw6_TableFinds.l0, if_neg (by omega)]
  exact finds_end l cs a M hM hM2 i k (by omega)
 | succ d ih =>
  intro i k hl hk
  obtain ⟨k, rfl⟩ : ∃ m, k = m + 1 := ⟨k - 1, by omega⟩
  rw [endonymlaw6_TableFinds.l0, if_pos (by omega)]
  by_cases h60 : (i : Int) < 60
  ·rw [decide_eq_true h60]
   obtain ⟨k, rfl⟩ : ∃ m, k = m + 1 := ⟨k - 1, by omega⟩
   rw [endonymlaw6_TableFinds.j1, if_pos rfl]
   have key : ∀ f : Int, endonymlaw6_TableFinds.j2 k l a cs (l.take 120) (i : Int) f = some true := by
    intro f
    obtain ⟨k, rfl⟩ : ∃ m, k = m + 1 := ⟨k - 1, by omega⟩
    have hlen : (l.take 120).length ≤ 120 := by rw [List.length_take]; omega
    have hle : (l.take 120).length ≤ l.length := by rw [List.length_take]; omega
    have hil : i < cs.length := by omega
    have hci := wf_i32 (hc _ (List.getElem_mem hil))
    have e : wrap64 ((i : Int) + 1) = ((i + 1 : Nat) : Int) := by unfold wrap64; omega
    obtain ⟨v, g1, g2⟩ := find_eq (l.take 120) (fun x hx => hw x (List.mem_of_mem_take hx)) f cs[i] (by unfold wrap64; omega) (by omega) k (by omega)
    rw [endonymlaw6_TableFinds.j2, if_pos (by omega), if_pos (by omega), rd_nat cs i hil, g1, Option.bind_some, if_pos (by omega), if_pos (by omega), Int.toNat_natCast, List.length_take, take_min, g2, Option.bind_some, if_pos rfl, e]
    exact ih (i + 1) k (by omega) (by omega)
   split <;> exact key _
  ·rw [decide_eq_false h60]
   exact finds_end l cs a M hM hM2 i k (by omega)
theorem finds_ok (k : Nat) (hk : 3 * cs.length + M + 400 ≤ k) : endonymlaw6_TableFinds.f k l a cs = some true := by
 unfold endonymlaw6_TableFinds.f
 have := few_ok l 120 k (by omega) (fun x hx => Nat.lt_of_le_of_lt (hM x hx) hM2) (by omega)
 rw [show ((120 : Nat) : Int) = 120 from rfl] at this
 rw [this, Option.bind_some]
 exact finds_loop l cs a M hM hM2 hw hc hcl cs.length 0 k (by omega) (by omega)
end
theorem sum_le (l : List S25) (x : S25) (hx : x ∈ l) : x.f4.length ≤ (l.map fun x => x.f4.length + x.f5.size + x.f6.size + 1).sum := by
 induction l with
 | nil => simp at hx
 | cons y l ih =>
  rw [List.map_cons, List.sum_cons]
  rcases List.mem_cons.1 hx with rfl | h
  ·omega
  ·have := ih h; omega
theorem law_finds (l : List S25) (a : Int) (cs : List Int) (hw : ∀ x ∈ l, Upto.WfRec x) (hc : ∀ c ∈ cs, (Lit.int .i32 c).wf = true) (hb : (l.map fun x => x.f4.length + x.f5.size + x.f6.size + 1).sum + cs.length ≤ 1048576) : ∃ k, endonymlaw6_TableFinds.f k l a cs = some true := by
 obtain ⟨M, hM⟩ : ∃ M, M = 1048576 := ⟨_, rfl⟩
 exact ⟨_, finds_ok l cs a M (fun x hx => by have := sum_le l x hx; omega) (by omega) hw hc (by omega) _ (Nat.le_refl _)⟩
end Go.Proofs.YtnoppeocbfapdaaGreatDoor.Plain
