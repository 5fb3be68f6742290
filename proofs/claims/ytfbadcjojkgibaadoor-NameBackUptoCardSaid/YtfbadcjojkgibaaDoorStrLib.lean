import Derived.Test.YtfbadcjojkgibaaDoorShelf
import Derived.Test.YtfbadcjojkgibaaDoorWWords
import Derived.Test.YtfbadcjojkgibaaDoorWMore
import Derived.Shelf.Strings.Split
import Derived.Below
/-! strings.IndexByte, strings.Split at a separator of one byte, strings.Join, by their contracts off the shelf, at this program. -/
namespace Go.Proofs.YtfbadcjojkgibaaDoor.Rm
open Go.RowKit Go.Shelf Go.Lib Go.Proofs.YtfbadcjojkgibaaDoorW.PrintWords
set_option linter.unusedVariables false
theorem indexByte_calls (s : ByteArray) (c : Int) (w : World) :
    Calls Tryd.prog (Tryd.lays137_ren.f 137) #[.string s, .int .u8 c] w fun e w' => e = .returned (.int .i64 (Lib.indexByte s.data.toList c.toNat.toUInt8)) ∧ w' = w :=
  Any.strings_IndexByte Tryd.lays137 s c w
set_option maxHeartbeats 1000000 in
/-- strings.Split at a separator of one byte: no variable of the library's is read. -/
theorem split_one {P : Program} {ρ : Ren} (L : Lays.n146 P ρ) (hi9 : (P.info? (ρ.t 9)).map (fun i => (i.zero, i.size, i.bytes)) = some (some (.string ByteArray.empty), 1, 16)) (s : ByteArray) (b : UInt8) (w : World)
    (hs : s.size < 4294967281) :
    Calls P (ρ.f 146) #[.string s, .string ⟨#[b]⟩] w fun e w' =>
      e = .returned (.slice (some ⟨w.heap.size, 0, none⟩) (Lib.countB s ⟨#[b]⟩ + 1) (Lib.countB s ⟨#[b]⟩ + 1)) ∧ w' = w.alloc (.cells ((Lib.splitB ⟨#[b]⟩ 0 (Lib.countB s ⟨#[b]⟩) s).map Value.string).toArray (ρ.t 9)) := by
  have h1 : 1 ≤ (⟨#[b]⟩ : ByteArray).size := Nat.le_refl 1
  have hle := Lib.countB_le ⟨#[b]⟩ h1 s.size s (Nat.le_refl _)
  have hlen := Lib.splitB_all ⟨#[b]⟩ h1 0 _ s rfl
  have hI : ∀ (x : ByteArray) (c : Array Value), x.size ≤ s.size → Calls P (ρ.f 143) #[.string x, .string ⟨#[b]⟩] (w.alloc (.cells c (ρ.t 9))) fun e w' => e = .returned (.int .i64 (Lib.indexB x ⟨#[b]⟩)) ∧ w' = w.alloc (.cells c (ρ.t 9)) := fun x c _ => by
    refine (Any.strings_Index_one { L with } x b _).mono fun e w' hh => ⟨hh.1.trans ?_, hh.2⟩
    rw [← Lib.index_one]
  have hC : Calls P (ρ.f 138) #[.string s, .string ⟨#[b]⟩] w fun e w' => e = .returned (.int .i64 (Lib.countB s ⟨#[b]⟩)) ∧ w' = w := by
    refine (Any.strings_Count_one { L with } s b w).mono fun e w' hh => ⟨hh.1.trans ?_, hh.2⟩
    show Ending.returned (Value.int .i64 ((s.data.toList.count b : Nat) : Int)) = Ending.returned (Value.int .i64 ((Lib.count s.data.toList [b] : Nat) : Int))
    rw [Lib.count_one]
  have c := Any.strings_genSplit_core { L with } hi9 s ⟨#[b]⟩ 0 (-1) (Lib.countB s ⟨#[b]⟩ + 1) w hs h1 (Nat.zero_le _) hI hC (by decide) (by decide) (by rw [if_pos (by decide)]; omega)
  rw [Nat.add_sub_cancel, hlen] at c
  have e2 : Lib.cellsOf (Lib.splitB ⟨#[b]⟩ 0 (Lib.countB s ⟨#[b]⟩) s) (Lib.countB s ⟨#[b]⟩ + 1) = ((Lib.splitB ⟨#[b]⟩ 0 (Lib.countB s ⟨#[b]⟩) s).map Value.string).toArray := by rw [← hlen]; exact Lib.cellsOf_full _
  rw [e2] at c
  have t3 := L.t3; have t9 := L.t9; have t31 := L.t31
  have a3 := L.a3; have a9 := L.a9; have a31 := L.a31
  have z3 := L.z3; have v3 := L.v3; have z9 := L.z9; have v9 := L.v9; have z31 := L.z31; have v31 := L.v31
  have e221 : ∀ args w, (callFunc (ρ.f 221) args).run P w = .ok (.enter (ρ.f 221) args) w := enters_of L.f221 (by kernel_rfl) rfl
  go_enter L.f146, Body.n146_ntmps ρ
  go_wp2_with (go_at_fn (ρ.f 221); refine c.mono ?_; rintro e w' ⟨rfl, hw⟩; rw [hw])
  go_ret
  exact ⟨rfl, rfl⟩
theorem strs_R (w : World) (e : Nat) (xs : List ByteArray) (hm : xs.length ≤ 9223372036854775807) :
    Kd.R Kd.string e (w.alloc (.cells (xs.map Value.string).toArray e)) w.heap.size (fun _ => True) (.slice (some ⟨w.heap.size, 0, none⟩) xs.length xs.length) xs := by
  refine ⟨fun _ _ => trivial, xs.map Value.string, ?_, ?_⟩
  · have h2 := World.ownsRow_lit (base := w.heap.size) (e := e) (size := 1) w (xs.map Value.string).toArray xs.length (Nat.le_refl _) (by simpa [maxLen] using hm) (by simp)
    show (w.alloc (.cells (xs.map Value.string).toArray e)).ownsRow w.heap.size e 1 (.slice (some ⟨w.heap.size, 0, none⟩) xs.length xs.length) xs.length (xs.map Value.string)
    simpa using h2
  · exact Kd.reps_scalar (enc := Value.string) xs
theorem split_calls (s sep : ByteArray) (w : World) (hs : s.size < 4294967281) (h1 : sep.size = 1) :
    Calls Tryd.prog (Tryd.lays146_ren.f 146) #[.string s, .string sep] w fun e w' => ∃ v0_ : Value, e = .returned (v0_) ∧ Kd.R Kd.string (Tryd.lays146_ren.t 9) w' w.heap.size (fun _ => True) v0_ (Lib.splitB sep 0 (Lib.countB s sep) s) ∧ Below w.heap.size w w' := by
  obtain ⟨b, rfl⟩ := Lib.one_byte sep h1
  refine (split_one Tryd.lays146 (by kernel_rfl) s b w hs).mono ?_
  rintro e w' ⟨rfl, rfl⟩
  have hlen := Lib.splitB_all ⟨#[b]⟩ (Nat.le_refl 1) 0 _ s rfl
  refine ⟨_, rfl, ?_, below_alloc (Below.refl _ _) _⟩
  rw [← hlen]
  have hle := Lib.countB_le ⟨#[b]⟩ (Nat.le_refl 1) s.size s (Nat.le_refl _)
  exact strs_R w _ _ (by omega)
theorem join_calls (A0 : Option Addr) (c0 : Nat) (l0 : List ByteArray) (a1 : ByteArray) (w : World) (hr0 : Kd.C Kd.string w A0 l0.length l0) (hc0 : l0.length ≤ c0)
    (hN : l0.length ≤ 140737488355328) (hlen : (Lib.join (l0.map (·.data.toList)) a1.data.toList).length ≤ 140737488355328) :
    Calls Tryd.prog (Tryd.lays156_ren.f 156) #[.slice A0 l0.length c0, .string a1] w fun e w' => e = .returned (.string ⟨(Lib.join (l0.map (·.data.toList)) a1.data.toList).toArray⟩) ∧ Below w.heap.size w w' := by
  by_cases h0 : l0.length = 0
  · obtain rfl := List.length_eq_zero_iff.1 h0
    refine (Any.strings_Join_none Tryd.lays156 Tryd.Builder_Extra_156 A0 c0 a1 w).mono ?_
    rintro e w' ⟨rfl, rfl⟩
    exact ⟨rfl, Below.refl _ _⟩
  · obtain ⟨ad, rfl, hc⟩ := Kd.at_string hr0 0 (Int.le_refl _) (by omega)
    have hc' : w.cell? ad = some (.string (rdOf ByteArray.empty l0 0)) := hc
    have hsp : ad.spot = none := by
      cases hs : ad.spot with
      | none => rfl
      | some q =>
        unfold World.cell? at hc'
        split at hc'
        · rw [hs] at hc'
          exact absurd hc' (by simp)
        · exact absurd hc' (by simp)
    obtain ⟨bk, o, sp⟩ := ad
    obtain rfl : sp = none := hsp
    refine Any.strings_Join Tryd.lays156 Tryd.Builder_Extra_156 bk o c0 l0 a1 w (fun j x hx => ?_) (World.block_lt_of_cell? w _ hc') hN hc0 hlen
    have hj : j < l0.length := (List.getElem?_eq_some_iff.1 hx).1
    obtain ⟨ad2, e2, h2⟩ := Kd.at_string hr0 (j : Int) (by omega) (by omega)
    obtain rfl : (⟨bk, o, none⟩ : Addr) = ad2 := by injection e2
    rw [add_at] at h2
    rw [Int.toNat_natCast] at h2
    rw [h2]
    unfold rdOf
    rw [Int.toNat_natCast, List.getD_eq_getElem?_getD, hx]
    rfl
end Go.Proofs.YtfbadcjojkgibaaDoor.Rm
