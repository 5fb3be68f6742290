import Derived.Test.YtfbadcjojkgibaaDoorLexL
import Derived.Lib.SplitLaws
import Derived.Test.YtfbadcjojkgibaaDoorNx1
import Derived.Test.YtfbadcjojkgibaaDoorNx2
import Derived.Test.YtfbadcjojkgibaaDoorNx3
/-! Names: labels, their comparison, what is below, the parent: what the program's functions answer. -/
namespace Go.Proofs.YtfbadcjojkgibaaDoor.Plain
open Go.RowKit Go.Proofs.YtfbadcjojkgibaaDoorW.PrintWords Go.Proofs.YtfbadcjojkgibaaDoorW.PrintLast Go.Proofs.YtfbadcjojkgibaaDoorW.PrintMore Go.Proofs.YtfbadcjojkgibaaDoor.N
set_option linter.unusedVariables false
set_option linter.unusedSimpArgs false
/-- The pieces between the full stops. -/
def labs : List Int → List (List Int)
  | [] => [[]]
  | b :: l => if b = 46 then [] :: labs l else match labs l with | [] => [[b]] | x :: r => (b :: x) :: r
theorem labs_ne (l : List Int) : labs l ≠ [] := by
  cases l with
  | nil => simp [labs]
  | cons b l => unfold labs; split; · simp
                · split <;> simp
theorem labs_stop (l : List Int) : labs (46 :: l) = [] :: labs l := by simp [labs]
theorem labs_other {b : Int} (h : b ≠ 46) (l : List Int) : ∃ x r, labs l = x :: r ∧ labs (b :: l) = (b :: x) :: r := by
  cases e : labs l with
  | nil => exact absurd e (labs_ne l)
  | cons x r => exact ⟨x, r, rfl, by simp [labs, h, e]⟩
theorem labs_none : ∀ (l : List Int), (∀ b ∈ l, b ≠ 46) → labs l = [l]
  | [], _ => rfl
  | b :: l, h => by
    obtain ⟨x, r, e1, e2⟩ := labs_other (h b (by simp)) l
    rw [labs_none l (fun c hc => h c (by simp [hc]))] at e1
    injection e1 with e3 e4
    rw [e2, ← e3, ← e4]
theorem labs_at : ∀ (x l : List Int), (∀ b ∈ x, b ≠ 46) → labs (x ++ 46 :: l) = x :: labs l
  | [], l, _ => labs_stop l
  | b :: x, l, h => by
    obtain ⟨y, r, e1, e2⟩ := labs_other (h b (by simp)) (x ++ 46 :: l)
    rw [labs_at x l (fun c hc => h c (by simp [hc]))] at e1
    injection e1 with e3 e4
    rw [List.cons_append, e2, ← e3, ← e4]
theorem labs_len : ∀ l : List Int, (labs l).length ≤ l.length + 1
  | [] => by simp [labs]
  | b :: l => by
    have := labs_len l
    unfold labs
    split
    · simp; omega
    · split
      · simp
      · rename_i e; rw [e] at this; simp at this ⊢; omega
theorem labs_size : ∀ (l x : List Int), x ∈ labs l → x.length ≤ l.length
  | [], x, h => by simp [labs] at h; subst h; simp
  | b :: l, x, h => by
    have ih := labs_size l
    unfold labs at h
    split at h
    · rcases List.mem_cons.1 h with rfl | h
      · simp
      · have := ih x h; simp; omega
    · split at h
      · simp at h; subst h; simp
      · rename_i y r e
        rcases List.mem_cons.1 h with rfl | h
        · have := ih y (by rw [e]; simp); simp; omega
        · have := ih x (by rw [e]; simp [h]); simp; omega
/-- A name's labels. -/
def Ls (s : List Int) : List (List Int) := if s = [] then [] else labs s
theorem Ls_len (s : List Int) : (Ls s).length ≤ s.length + 1 := by
  unfold Ls; split
  · simp
  · exact labs_len s
theorem Ls_size (s x : List Int) (h : x ∈ Ls s) : x.length ≤ s.length := by
  unfold Ls at h; split at h
  · simp at h
  · exact labs_size s x h
/-- A byte, A to Z as a to z. -/
def sm (b : Int) : Int := if 65 ≤ b then (if b ≤ 90 then b + 32 else b) else b
def fold (x : List Int) : List Int := x.map sm
def cmpL : List Int → List Int → Int := lex icmp
theorem cmpL_is : IsCmp cmpL := lex_is icmp_is
/-- What names are compared by: the last label first. -/
def keyOf (l : List (List Int)) : List (List Int) := (l.map fold).reverse
def key (s : List Int) : List (List Int) := keyOf (Ls s)
def cmpN (s t : List Int) : Int := lex cmpL (key s) (key t)
theorem cmpN_is : IsCmp (lex cmpL) := lex_is cmpL_is

/-! the library's split -/
def ints (l : List UInt8) : List Int := l.map fun b => (b.toNat : Int)
theorem bytesOf_eq (s : ByteArray) : bytesOf s = ints s.data.toList := rfl
theorem ints_46 (b : UInt8) : ((b.toNat : Nat) : Int) = 46 ↔ b = 46 := by
  constructor
  · intro h; exact UInt8.toNat_inj.1 (by have : b.toNat = 46 := by omega
                                         rw [this]; rfl)
  · rintro rfl; rfl
theorem splitK_labs : ∀ (l : List UInt8), (Lib.splitK [46] 0 (Lib.count l [46]) l).map ints = labs (ints l)
  | [] => by
    have : Lib.count [] [46] = 0 := by rw [Lib.count_one]; rfl
    rw [this]; rfl
  | b :: l => by
    have ih := splitK_labs l
    have hix : Lib.index (b :: l) [46] = if b = 46 then 0 else if Lib.index l [46] = -1 then -1 else Lib.index l [46] + 1 := by
      rw [Lib.index_one, Lib.index_one, Lib.indexByte]
      by_cases h : b = 46
      · simp [h]
      · simp [h]
    by_cases h : b = 46
    · subst h
      rw [if_pos rfl] at hix
      rw [Lib.count_cons_eq, Nat.add_comm, Lib.splitK, hix]
      show (if ((0 : Int) == -1) = true then _ else _ :: _).map ints = _
      rw [if_neg (by decide)]
      rw [show ints (46 :: l) = 46 :: ints l from rfl, labs_stop, ← ih]
      rfl
    · rw [if_neg h] at hix
      rw [Lib.count_cons_ne b 46 l h]
      obtain ⟨x, r, e1, e2⟩ := labs_other (b := (b.toNat : Int)) (fun e => h ((ints_46 b).1 e)) (ints l)
      rw [show ints (b :: l) = (b.toNat : Int) :: ints l from rfl, e2]
      rw [e1] at ih
      by_cases hm : Lib.index l [46] = -1
      · have h0 : Lib.count l [46] = 0 := Lib.count_miss hm
        rw [h0] at ih ⊢
        simp only [Lib.splitK, List.map_cons, List.map_nil] at ih ⊢
        injection ih with i1 i2
        rw [← i1, ← i2]; rfl
      · have hge := Lib.index_ge l [46]
        obtain ⟨j, hj⟩ : ∃ j : Nat, Lib.index l [46] = j := ⟨(Lib.index l [46]).toNat, by omega⟩
        rw [if_neg hm, hj] at hix
        have hc : ∃ m, Lib.count l [46] = m + 1 := by
          rw [Lib.count_hit (by simp) hj]; exact ⟨_, Nat.add_comm _ _⟩
        obtain ⟨m, hc⟩ := hc
        rw [hc] at ih ⊢
        rw [Lib.splitK, hj] at ih
        rw [Lib.splitK, hix]
        rw [if_neg (by simp)] at ih
        rw [if_neg (by simp; omega)]
        simp only [List.map_cons] at ih ⊢
        injection ih with i1 i2
        rw [← i2]
        have t1 : ((j : Int) + 1).toNat = j + 1 := by omega
        have t2 : ((j : Int)).toNat = j := by omega
        rw [t1]
        rw [t2] at i1
        refine List.cons_eq_cons.2 ⟨?_, ?_⟩
        · rw [← i1]; rfl
        · rw [t2]; rfl
theorem toList_nil (a : ByteArray) : a.toList = ([] : List UInt8) ↔ bytesOf a = [] := by
  rw [ByteArray.toList_eq]
  unfold bytesOf
  rw [List.map_eq_nil_iff]
theorem Labels_ok (a : ByteArray) (ha : a.size ≤ 4000000000) : ∃ L, name_Labels.f a = some L ∧ L.map bytesOf = Ls (bytesOf a) := by
  unfold name_Labels.f Ls
  by_cases h : bytesOf a = []
  · rw [if_pos ((toList_nil a).2 h), if_pos h]; exact ⟨_, rfl, rfl⟩
  · rw [if_neg (fun e => h ((toList_nil a).1 e)), if_neg h]
    unfold strings_Split.f
    rw [if_pos ⟨by omega, rfl⟩]
    refine ⟨_, rfl, ?_⟩
    have h1 := Lib.splitB_data ⟨#[46]⟩ 0 (Lib.countB a ⟨#[46]⟩) a
    have h2 := splitK_labs a.data.toList
    rw [bytesOf_eq, ← h2]
    have h3 : (Lib.splitB ⟨#[46]⟩ 0 (Lib.countB a ⟨#[46]⟩) a).map bytesOf = ((Lib.splitB ⟨#[46]⟩ 0 (Lib.countB a ⟨#[46]⟩) a).map (·.data.toList)).map ints := by
      rw [List.map_map]; rfl
    rw [h3, h1]
end Go.Proofs.YtfbadcjojkgibaaDoor.Plain
