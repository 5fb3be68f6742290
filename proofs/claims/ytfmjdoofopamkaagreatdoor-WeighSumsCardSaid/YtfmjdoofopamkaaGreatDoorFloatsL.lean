import Derived.Test.YtfmjdoofopamkaaGreatDoorPlR
import Derived.Test.YtfmjdoofopamkaaGreatDoorWx12
namespace Go.Proofs.YtfmjdoofopamkaaGreatDoor.Plain
open Go.RowKit Go.Proofs.YtfmjdoofopamkaaGreatDoorW.PrintWords Go.Proofs.YtfmjdoofopamkaaGreatDoorW.PrintLast Go.Proofs.YtfmjdoofopamkaaGreatDoorW.PrintMore Go.Proofs.YtfmjdoofopamkaaGreatDoor.W
set_option linter.unusedVariables false
set_option linter.unusedSimpArgs false
theorem floats_loop (l : List Int) (n : Nat) (hn : n ≤ 1000) : ∀ (d i : Nat) (x : List Nat) (u : List Int), i + d = min l.length n → x = (l.take i).map Int.toNat → u = l.take i →
  Ev (fun k => endonymlaw2_floats.l0 k l (n : Int) x u (i : Int)) ((l.take n).map Int.toNat, l.take n)
 | 0, i, x, u, hi, hx, hu => by
  have e : l.take i = l.take n := by
   rcases Nat.le_total l.length n with h | h
   ·rw [List.take_of_length_le (by omega), List.take_of_length_le h]
   ·rw [show i = n by omega]
  rw [e] at hx hu
  rw [hx, hu]
  refine Ev.step (f := fun _ => some ((l.take n).map Int.toNat, l.take n)) (fun k => ?_) (Ev.now _)
  rw [endonymlaw2_floats.l0]
  by_cases h : (i : Int) < (l.length : Int)
  ·rw [if_pos h, if_neg (by omega)]
  ·rw [if_neg h]
 | d + 1, i, x, u, hi, hx, hu => by
  have hlt : i < l.length := by omega
  have hil : i < 1000 := by omega
  have ih := floats_loop l n hn d (i + 1) (x ++ [(rd l (i : Int)).toNat]) (u ++ [rd l (i : Int)]) (by omega)
   (by rw [take_rd l i hlt, List.map_append, hx]; rfl) (by rw [take_rd l i hlt, hu])
  have hxl : x.length ≤ 1000 := by rw [hx, List.length_map, List.length_take]; omega
  have hul : u.length ≤ 1000 := by rw [hu, List.length_take]; omega
  refine Ev.step (f := fun k => endonymlaw2_floats.l0 k l (n : Int) (x ++ [(rd l (i : Int)).toNat]) (u ++ [rd l (i : Int)]) ((i + 1 : Nat) : Int)) (fun k => ?_) ih
  rw [endonymlaw2_floats.l0, if_pos (by omega), if_pos (by omega), if_pos (by omega), succ_wrap i (by omega)]
  show (if x.length < 17592186044416 then _ else _) = _
  rw [if_pos (by omega), if_pos (by omega)]
theorem floats_ok (l : List Int) (n : Nat) (hn : n ≤ 1000) : Ev (fun k => endonymlaw2_floats.f k l (n : Int)) ((l.take n).map Int.toNat, l.take n) := by
 unfold endonymlaw2_floats.f
 exact floats_loop l n hn (min l.length n) 0 [] [] (by omega) rfl rfl
end Go.Proofs.YtfmjdoofopamkaaGreatDoor.Plain
