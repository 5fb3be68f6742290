import Derived.Test.YtplnakmpogepmaaBaseP
/-! UTF-8 read by a machine of states, on lists of numbers: no program in sight. -/
namespace Go.Proofs.Ytplnakmpogepmaa.Plain
open Go.RowKit Go.Proofs.YtplnakmpogepmaaW.PrintWords Go.Proofs.YtplnakmpogepmaaW.PrintLast Go.Proofs.YtplnakmpogepmaaW.PrintMore
set_option linter.unusedVariables false
set_option linter.unusedSimpArgs false

def leadS (b : Int) : Option (Nat × Int × Int × Int) :=
  if b < 128 then some (0, 0, 0, b) else if b < 194 then none else if b < 224 then some (1, 128, 191, b % 32) else if b = 224 then some (2, 160, 191, 0)
  else if b = 237 then some (2, 128, 159, 13) else if b < 240 then some (2, 128, 191, b % 16) else if b = 240 then some (3, 144, 191, 0)
  else if b < 244 then some (3, 128, 191, b % 8) else if b = 244 then some (3, 128, 143, 4) else none
abbrev FR := Nat ⊕ ((Nat × Int × Int × Int) × List Int)
def emit (c : Int) : FR → FR
  | .inl p => .inl p
  | .inr (st, out) => .inr (st, c :: out)
/-- From a state on: where it is refused, or the state at the end and what came out. -/
def feed : Nat → Int → Int → Int → List Int → Nat → FR
  | m, lo, hi, c, [], _ => .inr ((m, lo, hi, c), [])
  | 0, _, _, _, b :: bs, p =>
    match leadS b with
    | none => .inl p
    | some (0, _, _, c) => emit c (feed 0 0 0 0 bs (p + 1))
    | some (m + 1, lo, hi, c) => feed (m + 1) lo hi c bs (p + 1)
  | m + 1, lo, hi, c, b :: bs, p =>
    if b < lo ∨ hi < b then .inl p
    else match m with
      | 0 => emit (c * 64 + b % 64) (feed 0 0 0 0 bs (p + 1))
      | m' + 1 => feed (m' + 1) 128 191 (c * 64 + b % 64) bs (p + 1)
/-- What Decode tells. -/
def fin (n : Nat) (acc : List Int) : FR → List Int × Int × Int
  | .inl p => ([], (p : Int), 30)
  | .inr ((0, _, _, _), out) => (acc ++ out, 0, 0)
  | .inr ((_ + 1, _, _, _), _) => ([], (n : Int), 30)
def dec (bs : List Int) : List Int × Int × Int := fin bs.length [] (feed 0 0 0 0 bs 0)
theorem fin_emit (n : Nat) (acc : List Int) (c : Int) (r : FR) : fin n acc (emit c r) = fin n (acc ++ [c]) r := by
  rcases r with p | ⟨⟨m, lo, hi, c⟩, out⟩
  · rfl
  · cases m <;> simp [emit, fin]
/-- States that are come to. -/
def Ok (m : Nat) (lo hi c : Int) : Prop :=
  m = 0 ∨ (m = 1 ∧ lo = 128 ∧ hi = 191 ∧ 0 ≤ c ∧ c < 32768) ∨ (m = 2 ∧ (lo = 128 ∨ lo = 160) ∧ (hi = 191 ∨ hi = 159) ∧ ¬ (lo = 160 ∧ hi = 159) ∧ 0 ≤ c ∧ c < 512) ∨ (m = 3 ∧ ((lo = 128 ∧ hi = 191) ∨ (lo = 144 ∧ hi = 191) ∨ (lo = 128 ∧ hi = 143)) ∧ 0 ≤ c ∧ c < 8)
theorem lead_ok {b : Int} (h0 : 0 ≤ b) {m : Nat} {lo hi c : Int} (h : leadS b = some (m, lo, hi, c)) : Ok m lo hi c := by
  unfold leadS at h
  repeat' split at h
  all_goals first | (cases h; done) | (simp only [Option.some.injEq, Prod.mk.injEq] at h; obtain ⟨rfl, rfl, rfl, rfl⟩ := h; unfold Ok; omega)
theorem next_ok {m : Nat} {lo hi c b : Int} (h0 : 0 ≤ b) (h : Ok (m + 2) lo hi c) : Ok (m + 1) 128 191 (c * 64 + b % 64) := by
  unfold Ok at h ⊢
  omega
theorem feed_zero (lo hi c : Int) (bs : List Int) (p : Nat) : bs ≠ [] → feed 0 lo hi c bs p = feed 0 0 0 0 bs p := by
  cases bs with
  | nil => exact fun h => absurd rfl h
  | cons b bs => intro _; simp [feed]
end Go.Proofs.Ytplnakmpogepmaa.Plain
