import Derived.Test.YtnoppeocbfapdaaGreatDoorProg
import Derived.Test.YtnoppeocbfapdaaGreatDoorSq
import Derived.Test.YtnoppeocbfapdaaGreatDoorTabEv
import Derived.Below
import Derived.Deep.Draws
import Derived.Deep.AppendLies
import Derived.Maps.AppendAt
import Derived.OwnWalk
import Derived.Laws.BytesArg
import Derived.Laws.MakeOwn
import Derived.Laws.OwnMore
import Derived.Deep.OwnRows
import Derived.Tactics
import Derived.Lib.ConvBytes
import Derived.Laws.Slices
import Derived.WalkKit
import Derived.KernelRfl
import Derived.RowKit3
import Derived.Deep.LoopGhost
import Derived.Deep.QuietTactic
import Derived.BigQuiet
import Derived.WideLaws
import Derived.Deep.DeepCutAuto
import Derived.Deep.CutBlock
import Derived.Deep.RegionHeld3
import Derived.Laws.Rows
import Derived.Lib.AppendStr
import Derived.ArgAppend
import Derived.Laws.IdiomCopy
import Derived.OrdersHeld
import Derived.Laws.BitsLemmas
import Derived.RowKit
import Derived.Test.YtnoppeocbfapdaaGreatDoorWAll
namespace Go.Proofs.YtnoppeocbfapdaaGreatDoor.T
open Go.RowKit Go.Proofs.YtnoppeocbfapdaaGreatDoorW.PrintWords Go.Proofs.YtnoppeocbfapdaaGreatDoorW.PrintLast Go.Proofs.YtnoppeocbfapdaaGreatDoorW.PrintMore
set_option maxHeartbeats 8000000
set_option maxRecDepth 100000
attribute [local go_sem] max2_int min2_int max_two min_two max_three min_three max_four min_four
set_option linter.unusedVariables false
set_option linter.unusedSimpArgs false

def errW : Option Int → Value
 | none => .nilIface
 | some c => .iface 0 (.int .i64 c)
theorem errW_none : errW none = .nilIface := rfl
theorem errW_some (c : Int) : errW (some c) = .iface 0 (.int .i64 c) := rfl
theorem info21 : (Tryz.prog.info? 21).map (fun i => (i.zero, i.size, i.bytes)) = some (some (.int .i32 0), 1, 4) := by kernel_rfl
theorem info25 : (Tryz.prog.info? 25).map (fun i => (i.zero, i.size, i.bytes)) = some (some (.agg #[(.int .i64 0), (.int .i64 0), (.int .i64 0), (.int .i64 0), (.slice none 0 0), (.string ⟨#[]⟩), (.string ⟨#[]⟩), (.float .f64 0)]), 8, 96) := by kernel_rfl
-- the values' own types
def rd_L2 (xs : List (List Int)) (i : Int) : (List Int) := xs.getD i.toNat ([] : List Int)
/-! #### struct type 25 -/
structure S25 where
 f0 : Int
 f1 : Int
 f2 : Int
 f3 : Int
 f4 : (List Int)
 f5 : ByteArray
 f6 : ByteArray
 f7 : Nat
def z25 : S25 := ⟨(0 : Int), (0 : Int), (0 : Int), (0 : Int), ([] : List Int), (⟨#[]⟩ : ByteArray), (⟨#[]⟩ : ByteArray), (0 : Nat)⟩
def k25 : Kd S25 := Kd.iso (Kd.pair (Kd.int .i64) (Kd.pair (Kd.int .i64) (Kd.pair (Kd.int .i64) (Kd.pair (Kd.int .i64) (Kd.pair (Kd.slice 21 (Kd.int .i32)) (Kd.pair Kd.string (Kd.pair Kd.string Kd.flt))))))) (fun x : S25 => (x.f0, x.f1, x.f2, x.f3, x.f4, x.f5, x.f6, x.f7))
theorem k25_open {w : World} {x : S25} {cs : List Value} (h : k25.K w x cs) : ∃ A4 c4, cs = [.int .i64 x.f0, .int .i64 x.f1, .int .i64 x.f2, .int .i64 x.f3, .slice A4 x.f4.length c4, .string x.f5, .string x.f6, .float .f64 x.f7] ∧ x.f4.length ≤ c4 ∧ (Kd.int .i32).C w A4 x.f4.length x.f4 := by
 obtain ⟨_, _, rfl, rfl, ⟨_, _, rfl, rfl, ⟨_, _, rfl, rfl, ⟨_, _, rfl, rfl, ⟨_, _, rfl, ⟨A4, c4, rfl, l4, g4⟩, ⟨_, _, rfl, rfl, ⟨_, _, rfl, rfl, rfl⟩⟩⟩⟩⟩⟩⟩ := h
 exact ⟨A4, c4, rfl, l4, g4⟩
theorem k25_openM {w : World} {base : Nat} {ok : Nat → Prop} {x : S25} {cs : List Value} (h : k25.M w base ok x cs) : ∃ v4, cs = [.int .i64 x.f0, .int .i64 x.f1, .int .i64 x.f2, .int .i64 x.f3, v4, .string x.f5, .string x.f6, .float .f64 x.f7] ∧ (Kd.int .i32).R 21 w base ok v4 x.f4 := by
 obtain ⟨_, _, rfl, rfl, ⟨_, _, rfl, rfl, ⟨_, _, rfl, rfl, ⟨_, _, rfl, rfl, ⟨_, _, rfl, ⟨v4, rfl, g4⟩, ⟨_, _, rfl, rfl, ⟨_, _, rfl, rfl, rfl⟩⟩⟩⟩⟩⟩⟩ := h
 exact ⟨v4, rfl, g4⟩
theorem k25_mk (w : World) (x : S25) {A4 : Option Addr} {c4 : Nat} (l4 : x.f4.length ≤ c4) (g4 : (Kd.int .i32).C w A4 x.f4.length x.f4) : k25.K w x [.int .i64 x.f0, .int .i64 x.f1, .int .i64 x.f2, .int .i64 x.f3, .slice A4 x.f4.length c4, .string x.f5, .string x.f6, .float .f64 x.f7] := ⟨[.int .i64 x.f0], [.int .i64 x.f1, .int .i64 x.f2, .int .i64 x.f3, .slice A4 x.f4.length c4, .string x.f5, .string x.f6, .float .f64 x.f7], rfl, rfl, ⟨[.int .i64 x.f1], [.int .i64 x.f2, .int .i64 x.f3, .slice A4 x.f4.length c4, .string x.f5, .string x.f6, .float .f64 x.f7], rfl, rfl, ⟨[.int .i64 x.f2], [.int .i64 x.f3, .slice A4 x.f4.length c4, .string x.f5, .string x.f6, .float .f64 x.f7], rfl, rfl, ⟨[.int .i64 x.f3], [.slice A4 x.f4.length c4, .string x.f5, .string x.f6, .float .f64 x.f7], rfl, rfl, ⟨[.slice A4 x.f4.length c4], [.string x.f5, .string x.f6, .float .f64 x.f7], rfl, ⟨A4, c4, rfl, l4, g4⟩, ⟨[.string x.f5], [.string x.f6, .float .f64 x.f7], rfl, rfl, ⟨[.string x.f6], [.float .f64 x.f7], rfl, rfl, rfl⟩⟩⟩⟩⟩⟩⟩
theorem k25_mkM (w : World) (base : Nat) (ok : Nat → Prop) (x : S25) {v4 : Value} (g4 : (Kd.int .i32).R 21 w base ok v4 x.f4) : k25.M w base ok x [.int .i64 x.f0, .int .i64 x.f1, .int .i64 x.f2, .int .i64 x.f3, v4, .string x.f5, .string x.f6, .float .f64 x.f7] := ⟨[.int .i64 x.f0], [.int .i64 x.f1, .int .i64 x.f2, .int .i64 x.f3, v4, .string x.f5, .string x.f6, .float .f64 x.f7], rfl, rfl, ⟨[.int .i64 x.f1], [.int .i64 x.f2, .int .i64 x.f3, v4, .string x.f5, .string x.f6, .float .f64 x.f7], rfl, rfl, ⟨[.int .i64 x.f2], [.int .i64 x.f3, v4, .string x.f5, .string x.f6, .float .f64 x.f7], rfl, rfl, ⟨[.int .i64 x.f3], [v4, .string x.f5, .string x.f6, .float .f64 x.f7], rfl, rfl, ⟨[v4], [.string x.f5, .string x.f6, .float .f64 x.f7], rfl, ⟨v4, rfl, g4⟩, ⟨[.string x.f5], [.string x.f6, .float .f64 x.f7], rfl, rfl, ⟨[.string x.f6], [.float .f64 x.f7], rfl, rfl, rfl⟩⟩⟩⟩⟩⟩⟩
def rd_T25 (xs : List S25) (i : Int) : S25 := xs.getD i.toNat z25
theorem at_T25 {w : World} {A : Option Addr} {n : Nat} {xs : List S25} (h : Kd.C k25 w A n xs) (i : Int) (h0 : 0 ≤ i) (h1 : i < n) : ∃ ad A4 c4, A = some ad ∧ w.cell? (ad.add (i.toNat * 8)) = some (.int .i64 (rd_T25 xs i).f0) ∧ w.cell? ⟨(ad.add (i.toNat * 8)).block, (ad.add (i.toNat * 8)).off + 1, none⟩ = some (.int .i64 (rd_T25 xs i).f1) ∧ w.cell? ⟨(ad.add (i.toNat * 8)).block, (ad.add (i.toNat * 8)).off + 2, none⟩ = some (.int .i64 (rd_T25 xs i).f2) ∧ w.cell? ⟨(ad.add (i.toNat * 8)).block, (ad.add (i.toNat * 8)).off + 3, none⟩ = some (.int .i64 (rd_T25 xs i).f3) ∧ w.cell? ⟨(ad.add (i.toNat * 8)).block, (ad.add (i.toNat * 8)).off + 4, none⟩ = some (.slice A4 (rd_T25 xs i).f4.length c4) ∧ w.cell? ⟨(ad.add (i.toNat * 8)).block, (ad.add (i.toNat * 8)).off + 5, none⟩ = some (.string (rd_T25 xs i).f5) ∧ w.cell? ⟨(ad.add (i.toNat * 8)).block, (ad.add (i.toNat * 8)).off + 6, none⟩ = some (.string (rd_T25 xs i).f6) ∧ w.cell? ⟨(ad.add (i.toNat * 8)).block, (ad.add (i.toNat * 8)).off + 7, none⟩ = some (.float .f64 (rd_T25 xs i).f7) ∧ (rd_T25 xs i).f4.length ≤ c4 ∧ (Kd.int .i32).C w A4 (rd_T25 xs i).f4.length (rd_T25 xs i).f4 := by
 obtain ⟨ad, c, e, _, hK, hc0⟩ := Kd.C_get h z25 i h0 h1
 have hc : ∀ j u, c[j]? = some u → w.cell? (ad.add (i.toNat * 8 + j)) = some u := hc0
 obtain ⟨A4, c4, rfl, l4, g4⟩ := k25_open hK
 exact ⟨ad, A4, c4, e, hc 0 _ rfl, by rw [← add_field _ _ 1 (by omega)]; exact hc 1 _ rfl, by rw [← add_field _ _ 2 (by omega)]; exact hc 2 _ rfl, by rw [← add_field _ _ 3 (by omega)]; exact hc 3 _ rfl, by rw [← add_field _ _ 4 (by omega)]; exact hc 4 _ rfl, by rw [← add_field _ _ 5 (by omega)]; exact hc 5 _ rfl, by rw [← add_field _ _ 6 (by omega)]; exact hc 6 _ rfl, by rw [← add_field _ _ 7 (by omega)]; exact hc 7 _ rfl, l4, g4⟩
/-! #### struct type 99 -/
structure S99 where
 f0 : ByteArray
 f1 : Int
theorem at_T25b {w W : World} {A : Option Addr} {n : Nat} {xs : List S25} (h : Kd.C k25 w A n xs) (hb : Below w.heap.size w W) (i : Int) (h0 : 0 ≤ i) (h1 : i < n) : ∃ ad A4 c4, A = some ad ∧ W.cell? (ad.add (i.toNat * 8)) = some (.int .i64 (rd_T25 xs i).f0) ∧ W.cell? ⟨(ad.add (i.toNat * 8)).block, (ad.add (i.toNat * 8)).off + 1, none⟩ = some (.int .i64 (rd_T25 xs i).f1) ∧ W.cell? ⟨(ad.add (i.toNat * 8)).block, (ad.add (i.toNat * 8)).off + 2, none⟩ = some (.int .i64 (rd_T25 xs i).f2) ∧ W.cell? ⟨(ad.add (i.toNat * 8)).block, (ad.add (i.toNat * 8)).off + 3, none⟩ = some (.int .i64 (rd_T25 xs i).f3) ∧ W.cell? ⟨(ad.add (i.toNat * 8)).block, (ad.add (i.toNat * 8)).off + 4, none⟩ = some (.slice A4 (rd_T25 xs i).f4.length c4) ∧ W.cell? ⟨(ad.add (i.toNat * 8)).block, (ad.add (i.toNat * 8)).off + 5, none⟩ = some (.string (rd_T25 xs i).f5) ∧ W.cell? ⟨(ad.add (i.toNat * 8)).block, (ad.add (i.toNat * 8)).off + 6, none⟩ = some (.string (rd_T25 xs i).f6) ∧ W.cell? ⟨(ad.add (i.toNat * 8)).block, (ad.add (i.toNat * 8)).off + 7, none⟩ = some (.float .f64 (rd_T25 xs i).f7) ∧ (rd_T25 xs i).f4.length ≤ c4 ∧ (Kd.int .i32).C w A4 (rd_T25 xs i).f4.length (rd_T25 xs i).f4 := by
 have mv : ∀ {p : Addr} {u : Value}, w.cell? p = some u → W.cell? p = some u := fun {p u} hu => (hb.cell (World.block_lt_of_cell? w _ hu)).trans hu
 obtain ⟨ad, A4, c4, e, h0_, h1_, h2_, h3_, h4_, h5_, h6_, h7_, hl, hi⟩ := at_T25 h i h0 h1
 exact ⟨ad, A4, c4, e, mv h0_, mv h1_, mv h2_, mv h3_, mv h4_, mv h5_, mv h6_, mv h7_, hl, hi⟩
def z99 : S99 := ⟨(⟨#[]⟩ : ByteArray), (0 : Int)⟩
def k99 : Kd S99 := Kd.iso (Kd.pair Kd.string (Kd.int .i64)) (fun x : S99 => (x.f0, x.f1))
def rd_T99 (xs : List S99) (i : Int) : S99 := xs.getD i.toNat z99
end Go.Proofs.YtnoppeocbfapdaaGreatDoor.T
