import Derived.Test.YtnoppeocbfapdaaGreatDoorWAll
import Derived.Below
import Derived.Test.YtnoppeocbfapdaaGreatDoorProg
import Derived.Laws.FloatArith
import Derived.Laws.Externs
/-! Steps that the printed walks take time and again, under short names. -/
namespace Go.Proofs.YtnoppeocbfapdaaGreatDoor.T
open Go.RowKit Go.Proofs.YtnoppeocbfapdaaGreatDoorW.PrintWords Go.Proofs.YtnoppeocbfapdaaGreatDoorW.PrintLast Go.Proofs.YtnoppeocbfapdaaGreatDoorW.PrintMore
theorem sqB {n : Nat} {a b : World} (h : Below n a b := by repeat (first | (with_reducible first | exact HB.out | apply below_alloc | apply pw_below_drewN | apply below_drew1) | exact HB.out)) : Below n a b := h
theorem sqA {p : Prop} (h : p := by (try simp only [List.map_toArray, List.map_cons, List.map_nil]); first | done | rfl | (simp only [List.length_drop, List.length_take]; rfl)) : p := h
theorem sqD {p : Prop} [Decidable p] (h : decide p = true := by first | (with_reducible assumption) | assumption) : p := of_decide_eq_true h
theorem sqE {p : Prop} (h : p := by first | rfl | (simp; done) | (simp [*]; done)) : p := h
theorem sqE' {p : Prop} (h : p := by first | rfl | (simp [errW_none, errW_some] <;> rfl) | (simp [*, errW_none, errW_some] <;> rfl)) : p := h
theorem sqO {α β : Type} {o : Option α} {f : α → Option β} {r : β} (h : o.bind f = some r) : ∃ t, Aside0 (o = some t) ∧ f t = some r := by
  obtain ⟨t, h1, h2⟩ := Option.bind_eq_some_iff.mp h
  exact ⟨t, ⟨h1⟩, h2⟩
theorem sqW {w w' : World} (h : Drawn0 w w' := by repeat (first | exact Drawn0.refl _ | apply Drawn0.step)) : Drawn0 w w' := h
end Go.Proofs.YtnoppeocbfapdaaGreatDoor.T
/-! Steps inside a region that draws its order, under short names. -/
namespace Go.Proofs.YtnoppeocbfapdaaGreatDoor.T
open Go.RowKit Go.Proofs.YtnoppeocbfapdaaGreatDoorW.PrintWords Go.Proofs.YtnoppeocbfapdaaGreatDoorW.PrintLast Go.Proofs.YtnoppeocbfapdaaGreatDoorW.PrintMore
/-- which operations have been taken -/
def bm (n m : Nat) : Array Bool := ((List.range n).map fun i => Nat.testBit m i).toArray
section
variable {P : Program} {md : Region.Mode} {ops : Array Oper} {Q : Exit → Act → World → Prop} {S : World → Prop} {ds : List Nat} {fuel : Nat} {l : Array Bool} {a : Act} {w : World}
theorem sqP (i : Nat) (N : Option Tmp) (l' : Array Bool) {oi : Oper} {v : Value} {a' : Act} (h : wpAnyLast P md ops Q S ds fuel l' a' w) (hi : ops[i]? = some oi := by rfl) (hN : oi.dst = N := by rfl) (hc : anyB md ops l l' i = true := by exact any_of HT_.out (by kernel_rfl))
    (hQ : ∀ c a w, Q (.panic c) (a.put oi.dst v) w → Q (.panic c) a w := by exact fun _ _ _ h => h) (hw : Region.wanted oi (yielded ops a.tmps) = true := by rfl) (hy : ∀ w, (execOp a.eval oi).run P w = .ok (.value v) w := by intro w'; go_simp; with_reducible rfl)
    (ha : a.put N v = a' := by simp only [Act.put, List.setIfInBounds_toArray, List.set_cons_zero, List.set_cons_succ, i64_w, i32_w]; rfl) : wpAnyLast P md ops Q S ds (fuel + 1) l a w := pure_ l' hi hN hc hQ (Or.inl ⟨hw, hy⟩) ha h
theorem sqT (i : Nat) (N : Option Tmp) (l' : Array Bool) {oi : Oper} {v : Value} {a' : Act} (h : wpAnyLast P md ops Q S ds fuel l' a' w) (hi : ops[i]? = some oi := by rfl) (hN : oi.dst = N := by rfl) (hc : takeB md ops ds l l' i = true := by exact take_ofW HT_.out HW_.out (by kernel_rfl))
    (hQ : ∀ c a w, Q (.panic c) (a.put oi.dst v) w → Q (.panic c) a w := by exact fun _ _ _ h => h) (hw : Region.wanted oi (yielded ops a.tmps) = true := by rfl) (hy : ∀ w, S w → (execOp a.eval oi).run P w = .ok (.value v) w := by intro w' hs_; (repeat (obtain ⟨_, hs_⟩ := hs_)); go_simp; with_reducible rfl) (hS : S w := by exact hHeld)
    (ha : a.put N v = a' := by simp only [Act.put, List.setIfInBounds_toArray, List.set_cons_zero, List.set_cons_succ, i64_w, i32_w]; rfl) : wpAnyLast P md ops Q S ds (fuel + 1) l a w := take_ l' hi hN hc hQ (Or.inl ⟨hw, hy⟩) hS ha h
theorem sqN (N : Tmp) {b a' : Act} {v : Value} (h : wpAnyLast P md ops Q S ds fuel l a' w) (h0 : a = b.put (some N) v := by rfl) (ha : b.put (some N) v = a' := by simp only [Act.put, List.setIfInBounds_toArray, List.set_cons_zero, List.set_cons_succ, i64_w, i32_w]; rfl) : wpAnyLast P md ops Q S ds fuel l a w := norm_ (h0.trans ha) h
theorem sqI (i : Nat) (N : Option Tmp) (l' : Array Bool) {oi : Oper} (h : ∀ K : Act → World → Prop, Shut (∀ a' w', S w' → (S w' → wpAnyLast P md ops Q S ds fuel l' a' w') → K a' w') → if Region.wanted oi (yielded ops a.tmps) = true then Oper.wp P oi a w K Q else K (a.put N undef) w)
    (hi : ops[i]? = some oi := by rfl) (hN : oi.dst = N := by rfl) (hc : readyB md ops l l' i = true := by exact one_of HT_.out (by kernel_rfl)) (hd : i ∉ ds := by decide) : wpAnyLast P md ops Q S ds (fuel + 1) l a w := one_ l' hi hN hc hd h
end
theorem setCells_blk {g : Nat} {e : TypeId} : ∀ (vs : List Value) (o : Nat) (cs : List Value) (w : World), w.heap[g]? = some (.cells cs.toArray e (0, 0)) → o + vs.length = cs.length → (w.setCells g o vs).heap[g]? = some (.cells (cs.take o ++ vs).toArray e (0, 0))
  | [], o, cs, w, h, hl => by
    rw [World.setCells, h, List.append_nil, List.take_of_length_le (by simp at hl; omega)]
  | v :: r, o, cs, w, h, hl => by
    rw [World.setCells, setCells_blk r (o + 1) (cs.set o v) _ (blk_put h o v (by simp)) (by simp at hl ⊢; omega)]
    have ho : o < cs.length := by simp at hl; omega
    have hlt : (List.take o cs).length = o := by rw [List.length_take]; omega
    have e : (List.take o cs ++ [cs[o]]).set o v = List.take o cs ++ [v] := by rw [List.set_append]; simp [hlt]
    rw [List.take_set, List.take_succ_eq_append_getElem ho, e, List.append_assoc]
    rfl
theorem sqH {p : Prop} (h : p := by repeat (first | (with_reducible first | exact HB.out | apply below_alloc | apply pw_below_drewN | apply below_drew1 | refine below_set ?_ (Aside0.out (by assumption))) | exact HB.out)) : p := h
theorem sqK {p q : Prop} (h : p) (k : p → q := by intro h_; (with_reducible repeat (first | refine blk_drewN ?_ _ | refine blk_drew ?_ | refine blk_alloc ?_ _)); exact h_) : q := k h
theorem sqC {p q : Prop} (h : p) (k : p → q := by intro h_; repeat (first | exact h_ | (with_reducible refine Kd.C_alloc ?_ _) | (with_reducible refine Kd.C_drewN ?_ _) | (with_reducible refine Kd.C_drew ?_))) : q := k h
theorem sqM {w W w1 : World} {g : Nat} {o : Obj} (h : w.heap[g]? = some o) (hb : Below W.heap.size W w1) (k : w.heap[g]? = some o → W.heap[g]? = some o := by intro h_; (with_reducible repeat (first | refine blk_drewN ?_ _ | refine blk_drew ?_ | refine blk_alloc ?_ _)); exact h_) : w1.heap[g]? = some o := blk_below (k h) hb
theorem box4 {w : World} {g : Nat} {t : TypeId} {c0 c1 c2 c3 : Value} (h : w.heap[g]? = some (.cells #[c0, c1, c2, c3] t (0, 0))) :
    w.cell? ⟨g, 0, none⟩ = some c0 ∧ w.cell? ⟨g, 1, none⟩ = some c1 ∧ w.cell? ⟨g, 2, none⟩ = some c2 ∧ w.cell? ⟨g, 3, none⟩ = some c3 ∧ w.frozen? ⟨g, 0, none⟩ = false ∧ w.frozen? ⟨g, 1, none⟩ = false ∧ w.frozen? ⟨g, 2, none⟩ = false ∧ w.frozen? ⟨g, 3, none⟩ = false :=
  ⟨(blk_cell h 0).trans rfl, (blk_cell h 1).trans rfl, (blk_cell h 2).trans rfl, (blk_cell h 3).trans rfl, blk_frozen h 0, blk_frozen h 1, blk_frozen h 2, blk_frozen h 3⟩
theorem box8 {w : World} {g : Nat} {t : TypeId} {c0 c1 c2 c3 c4 c5 c6 c7 : Value} (h : w.heap[g]? = some (.cells #[c0, c1, c2, c3, c4, c5, c6, c7] t (0, 0))) :
    w.cell? ⟨g, 0, none⟩ = some c0 ∧ w.cell? ⟨g, 1, none⟩ = some c1 ∧ w.cell? ⟨g, 2, none⟩ = some c2 ∧ w.cell? ⟨g, 3, none⟩ = some c3 ∧ w.cell? ⟨g, 4, none⟩ = some c4 ∧ w.cell? ⟨g, 5, none⟩ = some c5 ∧ w.cell? ⟨g, 6, none⟩ = some c6 ∧ w.cell? ⟨g, 7, none⟩ = some c7 ∧ w.frozen? ⟨g, 0, none⟩ = false ∧ w.frozen? ⟨g, 1, none⟩ = false ∧ w.frozen? ⟨g, 2, none⟩ = false ∧ w.frozen? ⟨g, 3, none⟩ = false ∧ w.frozen? ⟨g, 4, none⟩ = false ∧ w.frozen? ⟨g, 5, none⟩ = false ∧ w.frozen? ⟨g, 6, none⟩ = false ∧ w.frozen? ⟨g, 7, none⟩ = false :=
  ⟨(blk_cell h 0).trans rfl, (blk_cell h 1).trans rfl, (blk_cell h 2).trans rfl, (blk_cell h 3).trans rfl, (blk_cell h 4).trans rfl, (blk_cell h 5).trans rfl, (blk_cell h 6).trans rfl, (blk_cell h 7).trans rfl, blk_frozen h 0, blk_frozen h 1, blk_frozen h 2, blk_frozen h 3, blk_frozen h 4, blk_frozen h 5, blk_frozen h 6, blk_frozen h 7⟩
end Go.Proofs.YtnoppeocbfapdaaGreatDoor.T
/-! A slice with cells known in the room behind it. -/
namespace Go.Proofs.YtnoppeocbfapdaaGreatDoor.Rm
open Go.RowKit Go.Proofs.YtnoppeocbfapdaaGreatDoorW.PrintWords
set_option linter.unusedVariables false
/-- Behind the n elements of v (elements of one cell) stand these. -/
def Room (w : World) (v : Value) (n : Nat) (ex : List Value) : Prop :=
  ∃ g c, v = .slice (some ⟨g, 0, none⟩) n c ∧ (n + ex.length ≤ c ∧ n + ex.length ≤ 9223372036854775807) ∧ ∀ j u, ex[j]? = some u → w.cell? ⟨g, n + j, none⟩ = some u
theorem Room.below {w w1 : World} {v : Value} {n : Nat} {ex : List Value} (h : Room w v n ex) (hb : Below w.heap.size w w1) : Room w1 v n ex := by
  obtain ⟨ad, c, e, hc, hx⟩ := h
  exact ⟨ad, c, e, hc, fun j u hu => (hb.cell (World.block_lt_of_cell? w _ (hx j u hu))).trans (hx j u hu)⟩
theorem Room.alloc {w : World} {v : Value} {n : Nat} {ex : List Value} (h : Room w v n ex) (o : Obj) : Room (w.alloc o) v n ex := h.below (below_alloc (Below.refl _ _) o)
theorem Room.drew {w : World} {v : Value} {n : Nat} {ex : List Value} (h : Room w v n ex) : Room w.drew v n ex := h.below (below_drew (Below.refl _ _))
theorem Room.drewN {w : World} {v : Value} {n : Nat} {ex : List Value} (h : Room w v n ex) (m : Nat) : Room (w.drewN m) v n ex := h.below (pw_below_drewN (Below.refl _ _) m)
/-- What is cut off the end of an own row of numbers stays behind as room. -/
theorem room_of_R {k : IntKind} {e : Nat} {w : World} {base : Nat} {ok : Nat → Prop} {A : Option Addr} {n c : Nat} {xs ys : List Int} (h : (Kd.int k).R e w base ok (.slice A n c) (xs ++ ys)) (hy : ys ≠ []) (v : Value) (hv : v = .slice A xs.length c) :
    Room w v xs.length (ys.map (Value.int k)) := by
  obtain ⟨h1, h2, h3⟩ := Kd.R_reads' h
  have hpos : 0 < (xs ++ ys).length := by
    have : 0 < ys.length := List.length_pos_iff.2 hy
    simp; omega
  obtain ⟨ad, rfl, hcell⟩ := h3.2.2 hpos
  obtain ⟨g, rfl⟩ := Kd.R_head h
  refine ⟨g, c, hv, ⟨by simp at h1 ⊢; omega, by have := h3.2.1; simp at this ⊢; omega⟩, fun j u hu => ?_⟩
  rw [List.getElem?_map] at hu
  obtain ⟨y, hy2, rfl⟩ := Option.map_eq_some_iff.1 hu
  have hj : (xs ++ ys)[xs.length + j]? = some y := by rw [List.getElem?_append_right (by omega)]; simpa using hy2
  obtain ⟨cs, hcs, hK, hc⟩ := hcell _ y hj
  obtain rfl : cs = [Value.int k y] := hK
  have := hc 0 (.int k y) rfl
  rw [show (Kd.int k).sz = 1 from rfl, Nat.mul_one, Nat.add_zero, add_plain] at this
  exact this
end Go.Proofs.YtnoppeocbfapdaaGreatDoor.Rm
/-! A kind: a row of numbers with a mark; where the mark is set, cells known in the room behind the row. -/
namespace Go.Proofs.YtnoppeocbfapdaaGreatDoor.Rm
open Go.RowKit Go.Proofs.YtnoppeocbfapdaaGreatDoorW.PrintWords
set_option linter.unusedVariables false
theorem Room.block {w : World} {v : Value} {n : Nat} {ex : List Value} (h : Room w v n ex) : ∃ g, v.ownBlock = some g ∧ ∀ w1 : World, w1.heap[g]? = w.heap[g]? → Room w1 v n ex := by
  obtain ⟨g, c, e, hc, hx⟩ := h
  refine ⟨g, by rw [e]; rfl, fun w1 hw => ⟨g, c, e, hc, fun j u hu => ?_⟩⟩
  rw [← hx j u hu]
  simp only [World.cell?, hw]
def slackIf {α : Type} (e : Nat) (d : Kd α) (ex : List Value) : Kd (Bool × List α) where
  sz := 1
  E := e :: d.E
  K := fun w p cs => ∃ A c, cs = [.slice A p.2.length c] ∧ p.2.length ≤ c ∧ d.C w A p.2.length p.2 ∧ (p.1 = true → Room w (.slice A p.2.length c) p.2.length ex)
  M := fun w base ok p cs => ∃ v, cs = [v] ∧ d.R e w base ok v p.2 ∧ (p.1 = true → Room w v p.2.length ex)
  K_len := by
    rintro w x cs ⟨A, c, rfl, _⟩
    rfl
  K_one := by
    rintro w x cs ⟨A, c, rfl, _⟩ u hu
    rw [List.mem_singleton.1 hu]
    rfl
  K_below := by
    rintro w w1 x cs hb ⟨A, c, rfl, hl, hr, hm⟩
    exact ⟨A, c, rfl, hl, Kd.C_below hr hb, fun h => (hm h).below hb⟩
  K_of_M := by
    rintro w base ok x cs ⟨v, rfl, h, hm⟩
    obtain ⟨A, c, rfl, hl, hr⟩ := Kd.R_reads h
    exact ⟨A, c, rfl, hl, hr, hm⟩
  M_mono := by
    rintro w base ok ok' x cs hok ⟨v, rfl, h, hm⟩
    exact ⟨v, rfl, Kd.R_mono h hok, hm⟩
  M_bound := by
    rintro w base ok x cs ⟨v, rfl, h, hm⟩
    exact ⟨v, rfl, Kd.R_bound h, hm⟩
  M_move := by
    rintro w w1 base ok x cs h1 ⟨v, rfl, h, hm⟩
    refine ⟨v, rfl, Kd.R_move h h1, fun hx => ?_⟩
    obtain ⟨g, hg, hmv⟩ := (hm hx).block
    exact hmv w1 (h1 g (h.1 g hg))
  M_lower := by
    rintro w base base' ok x cs hb ⟨v, rfl, h, hm⟩
    exact ⟨v, rfl, Kd.R_lower h hb, hm⟩
/-- Elements told in another way. -/
theorem S_map {α β : Type} {d : Kd α} {d' : Kd β} (g : α → β) (hsz : d'.sz = d.sz) (hM : ∀ (w : World) (base : Nat) (ok : Nat → Prop) (x : α) (cs : List Value), d.M w base ok x cs → d'.M w base ok (g x) cs) {e : Nat} {w : World} {base : Nat} {ok : Nat → Prop} {v : Value} {xs : List α} (h : Kd.S d e w base ok v xs) : Kd.S d' e w base ok v (xs.map g) := by
  obtain ⟨f, h0, inner, ho, hr1, hr2⟩ := h
  have hsz' : (Kd.tag f d').sz = (Kd.tag f d).sz := hsz
  rw [List.length_zipIdx] at ho hr1
  refine ⟨f, h0, inner, ?_, ?_, fun j p hj => ?_⟩
  · rw [List.length_zipIdx, List.length_map, hsz']; exact ho
  · rw [List.length_zipIdx, List.length_map, hsz']; exact hr1
  · rw [List.getElem?_zipIdx, Nat.zero_add, List.getElem?_map] at hj
    obtain ⟨q, hq, rfl⟩ := Option.map_eq_some_iff.1 hj
    obtain ⟨x, hx, rfl⟩ := Option.map_eq_some_iff.1 hq
    rw [hsz']
    exact hM _ _ _ _ _ (hr2 j (x, j) (Kd.zip_at hx))
end Go.Proofs.YtnoppeocbfapdaaGreatDoor.Rm
/-! Floats in the printed texts: told by their bits. -/
namespace Go.Proofs.YtnoppeocbfapdaaGreatDoorW.PrintWords.Kd
open Go.RowKit
def flt : Kd Nat := scalar (Value.float .f64) (fun _ => rfl)
def fl4 : Kd Nat := scalar (Value.float .f32) (fun _ => rfl)
section
variable {w : World} {A : Option Addr} {n : Nat}
end
end Go.Proofs.YtnoppeocbfapdaaGreatDoorW.PrintWords.Kd
namespace Go.Proofs.YtnoppeocbfapdaaGreatDoor.Rm
@[go_sem] theorem run_store_float {P : Program} {w : World} {a : Addr} {m : Mode} (k : FloatKind) (b : Nat) : (store a (.float k b) m).run P w = stored P w a (.float k b) m := run_store P w a _ m rfl
@[go_sem] theorem unary_neg_float (k : FloatKind) (b : Nat) : Op.unary .neg (.float k b) = pure (.float k (Op.negFloat k b)) := rfl
end Go.Proofs.YtnoppeocbfapdaaGreatDoor.Rm
/-! What the functions of package math that have no body answer, as plain functions of bits. -/
namespace Go.Proofs.YtnoppeocbfapdaaGreatDoor.Rm
open Go.RowKit Go.Proofs.YtnoppeocbfapdaaGreatDoorW.PrintWords
set_option linter.unusedVariables false
theorem x_Float64bits (x : Nat) (w : World) : (callFunc 90 #[.float .f64 x]).run Tryz.prog w = .ok (.value (.int .u64 ((x : Nat) : Int))) w := by
  rw [run_callFunc_extern Tryz.func90 (by kernel_rfl) (by kernel_rfl) (by kernel_rfl) (e := Extern.MathFloatBits.float64bits) (by kernel_rfl)]
  rfl
def archFloorP (x : Nat) : Option Nat :=
  match FloatKind.f64.decode x with
  | .nan _ _ => none
  | d => some (FloatKind.f64.encode (d.integral .down))
/-- math.archLog's steps, over any way to reckon. -/
def logG {m : Type → Type} [Monad m] {β : Type} (op : BinOp → Nat → Nat → m Nat) (ret : Nat → m β) (small : Bool) (K x : Nat) : m β :=
  (op .sub K (if small then 0x3FF0000000000000 else 0)) >>= fun k1 =>
  (op .add (if small then 0x3FF0000000000000 else 0) 0x3FF0000000000000) >>= fun g =>
  (op .mul (x % 2 ^ 52 + 0x3FE0000000000000) g) >>= fun f1 =>
  (op .sub f1 0x3FF0000000000000) >>= fun f =>
  (op .add 0x4000000000000000 f) >>= fun d =>
  (op .quo f d) >>= fun s =>
  (op .mul s s) >>= fun s2 =>
  (op .mul s2 s2) >>= fun s4 =>
  (op .mul 0x3FC2F112DF3E5244 s4) >>= fun a1 =>
  (op .add a1 0x3FC7466496CB03DE) >>= fun a2 =>
  (op .mul a2 s4) >>= fun a3 =>
  (op .add a3 0x3FD2492494229359) >>= fun a4 =>
  (op .mul a4 s4) >>= fun a5 =>
  (op .add a5 0x3FE5555555555593) >>= fun a6 =>
  (op .mul s2 a6) >>= fun t1 =>
  (op .mul 0x3FC39A09D078C69F s4) >>= fun b1 =>
  (op .add b1 0x3FCC71C51D8E78AF) >>= fun b2 =>
  (op .mul b2 s4) >>= fun b3 =>
  (op .add b3 0x3FD999999997FA04) >>= fun b4 =>
  (op .mul s4 b4) >>= fun t2 =>
  (op .add t1 t2) >>= fun r =>
  (op .mul 0x3FE0000000000000 f) >>= fun h1 =>
  (op .mul h1 f) >>= fun hfsq =>
  (op .add r hfsq) >>= fun c1 =>
  (op .mul s c1) >>= fun c2 =>
  (op .mul 0x3DEA39EF35793C76 k1) >>= fun c3 =>
  (op .add c2 c3) >>= fun inner =>
  (op .mul k1 0x3FE62E42FEE00000) >>= fun e1 =>
  (op .sub hfsq inner) >>= fun e2 =>
  (op .sub e2 f) >>= fun e3 =>
  (op .sub e1 e3) >>= fun e4 =>
  ret e4
def logSmall (x : Nat) : Bool := !(FloatKind.f64.format.order 0x3FE6A09E667F3BCD (x % 2 ^ 52 + 0x3FE0000000000000) == some .lt)
def logK (x : Nat) : Nat := FloatKind.f64.nearest (Int.ofNat (x / 2 ^ 52) - 0x3FE)
/-- math.archLog, as the model has it, of a number above 0. -/
def archLogP (x : Nat) : Option Nat :=
  if (x % 2 ^ 63 == 0) = true ∨ x ≥ 2 ^ 63 ∨ x ≥ 0x7FF0000000000000 then none else logG (fun o a b => floatBits o .f64 a b) some (logSmall x) (logK x) x
end Go.Proofs.YtnoppeocbfapdaaGreatDoor.Rm
