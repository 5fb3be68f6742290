import Derived.Test.YtnoppeocbfapdaaGreatDoorProg
import Derived.Deep.Quiet
import Derived.KernelRfl
/-! An evaluator that the kernel runs: a heap of its own (blocks by number), values forced as they come up, recursors by hand; what hangs on the program's text alone is found once (boxes). Its soundness: EvS. -/
namespace Go.Ev
open Go
set_option linter.unusedVariables false
noncomputable section
/-- A value: a whole number, a bool, a pointer (block, place), a slice (block, place, length, a lower bound of the capacity), a map, any other. -/
inductive AV where
  | i (k : IntKind) (n : Int)
  | b (b : Bool)
  | p (b o : Nat)
  | s (b o l c : Nat)
  | m (b : Nat)
  | o (v : Value)
def ofAddr (a : Option Addr) (f : Nat → Nat → AV) (d : AV) : AV := match a with
  | some ⟨b, o, none⟩ => f b o
  | _ => d
def AV.of (v : Value) : AV := match v with
  | .int k n => .i k n
  | .bool x => .b x
  | .pointer a => ofAddr a AV.p (.o (.pointer a))
  | .slice a l c => ofAddr a (fun b o => .s b o l c) (.o (.slice a l c))
  | .map (some x) => .m x
  | v => .o v
def AV.val : AV → Value
  | .i kd n => .int kd n
  | .b x => .bool x
  | .p x y => .pointer (some ⟨x, y, none⟩)
  | .s x y l c => .slice (some ⟨x, y, none⟩) l c
  | .m x => .map (some x)
  | .o v => v
def onV {β : Type} (v : AV) (i : IntKind → Int → β) (b : Bool → β) (p : Nat → Nat → β) (s : Nat → Nat → Nat → Nat → β) (m : Nat → β) (o : Value → β) : β := AV.rec (motive := fun _ => β) i b p s m o v
def ite' {β : Type} (c : Bool) (t e : β) : β := Bool.rec (motive := fun _ => β) e t c
def fNat {β : Type} (n : Nat) (k : Nat → β) : β := Nat.rec (motive := fun _ => β) (k 0) (fun m _ => k (Nat.succ m)) n
def fInt {β : Type} (n : Int) (k : Int → β) : β := Int.rec (motive := fun _ => β) (fun m => fNat m fun m => k (.ofNat m)) (fun m => fNat m fun m => k (.negSucc m)) n
def fBool {β : Type} (x : Bool) (k : Bool → β) : β := Bool.rec (motive := fun _ => β) (k false) (k true) x
def AV.force {β : Type} (v : AV) (k : AV → β) : β := onV v (fun kd n => fInt n fun n => k (.i kd n)) (fun x => fBool x fun x => k (.b x)) (fun x y => fNat x fun x => fNat y fun y => k (.p x y))
  (fun x y l c => fNat x fun x => fNat y fun y => fNat l fun l => fNat c fun c => k (.s x y l c)) (fun x => fNat x fun x => k (.m x)) (fun v => k (.o v))
inductive Tr (α : Type) where
  | e
  | n (v : α) (l r : Tr α)
def Tr.get {α : Type} (d : α) (t : Tr α) : Nat → α := Tr.rec (motive := fun _ => Nat → α) (fun _ => d)
  (fun v _ _ gl gr i => Nat.rec (motive := fun _ => α) v (fun j _ => ite' (Nat.beq (Nat.mod j 2) 0) (gl (Nat.div j 2)) (gr (Nat.div j 2))) i) t
/-- A store: the way down is made where there is none. -/
def Tr.setK {α β : Type} (d : α) (fuel : Nat) : Tr α → Nat → α → (Tr α → β) → β := Nat.rec (motive := fun _ => Tr α → Nat → α → (Tr α → β) → β) (fun t _ _ k => k t)
  (fun _ ih t i v k => Nat.rec (motive := fun _ => α → Tr α → Tr α → β) (fun _ l r => k (.n v l r))
    (fun j _ w l r => ite' (Nat.beq (Nat.mod j 2) 0) (ih l (Nat.div j 2) v fun l => k (.n w l r)) (ih r (Nat.div j 2) v fun r => k (.n w l r))) i
    (Tr.rec (motive := fun _ => α) d (fun w _ _ _ _ => w) t) (Tr.rec (motive := fun _ => Tr α) .e (fun _ l _ _ _ => l) t) (Tr.rec (motive := fun _ => Tr α) .e (fun _ _ r _ _ => r) t)) fuel
inductive Bx (γ : Type) where
  | mk (f : γ)
def un : AV := .o undef
abbrev G := Tr AV → AV
/-- the way to a slot, found once -/
def getP (fuel : Nat) : Nat → Bx G := Nat.rec (motive := fun _ => Nat → Bx G) (fun _ => .mk fun _ => un)
  (fun _ r i => Nat.rec (motive := fun _ => Bx G) (.mk fun t => Tr.rec (motive := fun _ => AV) un (fun v _ _ _ _ => v) t)
    (fun j _ => Bx.rec (motive := fun _ => Bx G) (fun g => ite' (Nat.beq (Nat.mod j 2) 0)
      (.mk fun t => Tr.rec (motive := fun _ => AV) un (fun _ l _ _ _ => g l) t) (.mk fun t => Tr.rec (motive := fun _ => AV) un (fun _ _ r _ _ => g r) t)) (r (Nat.div j 2))) i) fuel
/-- Blocks: none any more; cells (of an element type, the call's own or only read); a text gone through; a map. -/
inductive Blk where
  | dead
  | cells (c : List AV) (e : TypeId) (own : Bool)
  | iter (s : ByteArray) (pos : Nat)
  | mp (es : List (AV × AV)) (cl : Nat)
/-- n: the next block; d: the least block that was stored into since the call began; m: no block from here on. -/
inductive HP where
  | mk (n d m : Nat) (t : Tr Blk)
inductive Ex where
  | nrm | exit (id : Nat) | goto (l : Nat) | ret
inductive Out where
  | st (e : Ex) (tm : Tr AV) (H : HP)
  | v (v : AV) (H : HP)
  | no
abbrev Sp := Tr AV → AV → (Tr AV → Out) → Out
def setP (fuel : Nat) : Nat → Bx Sp := Nat.rec (motive := fun _ => Nat → Bx Sp) (fun _ => .mk fun t _ k => k t)
  (fun _ r i => Nat.rec (motive := fun _ => Bx Sp) (.mk fun t v k => Tr.rec (motive := fun _ => Out) (k (.n v .e .e)) (fun _ l r _ _ => k (.n v l r)) t)
    (fun j _ => Bx.rec (motive := fun _ => Bx Sp) (fun g => ite' (Nat.beq (Nat.mod j 2) 0)
      (.mk fun t v k => Tr.rec (motive := fun _ => Out) (g .e v fun l => k (.n un l .e)) (fun w l r _ _ => g l v fun l => k (.n w l r)) t)
      (.mk fun t v k => Tr.rec (motive := fun _ => Out) (g .e v fun r => k (.n un .e r)) (fun w l r _ _ => g r v fun r => k (.n w l r)) t)) (r (Nat.div j 2))) i) fuel
def prun {α : Type} (P : Program) : Sem α → Option α
  | .pure a => some a
  | .program k => prun P (k P)
  | .mark _ k => prun P k
  | .choose q k => if q.forced then prun P (k 0) else none
  | _ => none
def lit1 : Value → Bool
  | .bool _ | .int _ _ | .float _ _ | .string _ | .pointer none | .slice none _ _ | .map none | .nilFunc | .nilIface => true
  | _ => false
/-- values that lead nowhere -/
def lit0 : Value → Bool
  | .agg cs => cs.toList.all lit1
  | .tuple vs => !vs.toList.isEmpty && vs.toList.all lit1
  | v => lit1 v
def lit (v : AV) : Bool := onV v (fun _ _ => true) (fun _ => true) (fun _ _ => false) (fun _ _ _ _ => false) (fun _ => false) lit0
def avalB : Operand → Bx G
  | .tmp t => getP 12 t
  | .const v => .mk fun _ => ite' (lit0 v) (AV.of v) un
  | .global g => .mk fun _ => ite' (Nat.blt g 8) (.p g 0) un
  | .func f => .mk fun _ => .o (.func (.func f) #[] #[])
def aval (x : Operand) (tm : Tr AV) : AV := Bx.rec (motive := fun _ => AV) (fun g => g tm) (avalB x)
inductive R where
  | val (v : AV) (H : HP)
  | enter (f : FuncId) (args : List AV)
  | no
def rval (v : AV) (H : HP) : R := v.force fun v => .val v H
def ofV (v : Value) (H : HP) : R := rval (AV.of v) H
def HP.get (H : HP) (b : Nat) : Blk := HP.rec (motive := fun _ => Blk) (fun _ _ _ t => t.get .dead b) H
def HP.setK {β : Type} (H : HP) (b : Nat) (x : Blk) (no : β) (k : HP → β) : β := HP.rec (motive := fun _ => β) (fun n d m t => ite' (Nat.blt b 1000000) (t.setK .dead 24 b x fun t => ite' (Nat.ble m b) (k (.mk n 0 m t)) (ite' (Nat.blt b d) (k (.mk n b m t)) (k (.mk n d m t)))) no) H
def HP.newK {β : Type} (H : HP) (x : Blk) (no : β) (k : Nat → HP → β) : β := HP.rec (motive := fun _ => β) (fun n d m t => ite' (Nat.blt n m && Nat.blt n 1000000) (t.setK .dead 24 n x fun t => fNat (Nat.succ n) fun n' => k n (.mk n' d m t)) no) H
abbrev M := Program → Tr AV → HP → R
def imod (m : Nat) (n : Int) : Nat := Int.rec (motive := fun _ => Nat) (fun n => Nat.mod n m) (fun n => Nat.sub (Nat.sub m 1) (Nat.mod n m)) n
def wrapU (m : Nat) (n : Int) : Int := .ofNat (imod m n)
def wrapS (h m : Nat) (n : Int) : Int := ite' (Nat.ble h (imod m n)) (.negSucc (Nat.sub (Nat.sub m (imod m n)) 1)) (.ofNat (imod m n))
def wrapF : IntKind → Int → Int
  | .i64 => wrapS 9223372036854775808 18446744073709551616
  | .u64 => wrapU 18446744073709551616
  | .i32 => wrapS 2147483648 4294967296
  | .u32 => wrapU 4294967296
  | .u8 => wrapU 256
  | .i8 => wrapS 128 256
  | .i16 => wrapS 32768 65536
  | .u16 => wrapU 65536
def ltI (x y : Int) : Bool := Int.rec (motive := fun _ => Bool) (fun a => Int.rec (motive := fun _ => Bool) (fun b => Nat.blt a b) (fun _ => false) y) (fun a => Int.rec (motive := fun _ => Bool) (fun _ => true) (fun b => Nat.blt b a) y) x
def eqI (x y : Int) : Bool := Int.rec (motive := fun _ => Bool) (fun a => Int.rec (motive := fun _ => Bool) (fun b => Nat.beq a b) (fun _ => false) y) (fun a => Int.rec (motive := fun _ => Bool) (fun _ => false) (fun b => Nat.beq a b) y) x
def aInt (k : IntKind) (n : Int) (H : HP) : R := fInt (wrapF k n) fun n => .val (.i k n) H
def aBool (x : Bool) (H : HP) : R := ite' x (.val (.b true) H) (.val (.b false) H)
def aPrun (P : Program) (H : HP) (s : Sem Value) : R := Option.rec (motive := fun _ => R) .no (fun v => ite' (lit0 v) (ofV v H) .no) (prun P s)
def aShl (k : IntKind) (x y : Int) (H : HP) : R := Int.rec (motive := fun _ => R) (fun y => aInt k (x * 2 ^ min y k.bits) H) (fun _ => .no) y
def aShr (k : IntKind) (x y : Int) (H : HP) : R := Int.rec (motive := fun _ => R) (fun y => fInt (x.fdiv (2 ^ min y k.bits)) fun n => .val (.i k n) H) (fun _ => .no) y
abbrev IOp := IntKind → Int → Int → Program → HP → R
def intOp : BinOp → Bx IOp
  | .add => .mk fun k a b _ H => aInt k (Int.add a b) H
  | .sub => .mk fun k a b _ H => aInt k (Int.sub a b) H
  | .mul => .mk fun k a b _ H => aInt k (Int.mul a b) H
  | .quo => .mk fun k a b P H => aPrun P H (Op.intDiv .quo k a b)
  | .rem => .mk fun k a b P H => aPrun P H (Op.intDiv .rem k a b)
  | .and => .mk fun k a b P H => aPrun P H (Op.intBits .and k a b)
  | .or => .mk fun k a b P H => aPrun P H (Op.intBits .or k a b)
  | .xor => .mk fun k a b P H => aPrun P H (Op.intBits .xor k a b)
  | .andNot => .mk fun k a b P H => aPrun P H (Op.intBits .andNot k a b)
  | .shl => .mk fun k a b _ H => aShl k a b H
  | .shr => .mk fun k a b _ H => aShr k a b H
  | .eql => .mk fun _ a b _ H => aBool (eqI a b) H
  | .neq => .mk fun _ a b _ H => aBool (!eqI a b) H
  | .lss => .mk fun _ a b _ H => aBool (ltI a b) H
  | .leq => .mk fun _ a b _ H => aBool (!ltI b a) H
  | .gtr => .mk fun _ a b _ H => aBool (ltI b a) H
  | .geq => .mk fun _ a b _ H => aBool (!ltI a b) H
def eqK : IntKind → IntKind → Bool
  | .i64, .i64 | .u64, .u64 | .i32, .i32 | .u32, .u32 | .u8, .u8 | .i8, .i8 | .i16, .i16 | .u16, .u16 => true
  | _, _ => false
/-- what needs no heap and is of values that lead nowhere: as the model runs it -/
def slow (o : Oper) : M := fun P tm H => ite' (o.op.operands.toList.all fun x => (match x with | .func _ => true | x => lit (aval x tm)))
  (Option.rec (motive := fun _ => R) .no (fun (n : Next) => match n with | .value v => ite' (lit0 v) (ofV v H) .no | _ => .no) (prun P (execOp (fun x => (aval x tm).val) o))) .no
/- texts: lists of bytes, forced -/
def forceS {β : Type} (l : List UInt8) : (List UInt8 → β) → β := List.rec (motive := fun _ => (List UInt8 → β) → β) (fun k => k []) (fun x _ r k => fNat x.toNat fun m => r fun z => k (UInt8.ofNat m :: z)) l
def takeS {β : Type} (l : List UInt8) : Nat → (List UInt8 → β) → β := List.rec (motive := fun _ => Nat → (List UInt8 → β) → β) (fun _ k => k [])
  (fun x _ r n => Nat.rec (motive := fun _ => (List UInt8 → β) → β) (fun k => k []) (fun n _ k => r n fun z => k (x :: z)) n) l
def dropS (l : List UInt8) : Nat → List UInt8 := List.rec (motive := fun _ => Nat → List UInt8) (fun _ => []) (fun x xs r n => Nat.rec (motive := fun _ => List UInt8) (x :: xs) (fun n _ => r n) n) l
def appS {β : Type} (xs : List UInt8) : List UInt8 → (List UInt8 → β) → β := List.rec (motive := fun _ => List UInt8 → (List UInt8 → β) → β) (fun ys k => k ys) (fun x _ r ys k => r ys fun z => k (x :: z)) xs
def lenS {α : Type} (l : List α) : Nat := List.rec (motive := fun _ => Nat) 0 (fun _ _ n => Nat.succ n) l
def eqS (x : List UInt8) : List UInt8 → Bool := List.rec (motive := fun _ => List UInt8 → Bool) (fun y => List.rec (motive := fun _ => Bool) true (fun _ _ _ => false) y)
  (fun a _ r y => List.rec (motive := fun _ => Bool) false (fun b bs _ => ite' (Nat.beq a.toNat b.toNat) (r bs) false) y) x
def nthS {β : Type} (l : List UInt8) : Nat → β → (UInt8 → β) → β := List.rec (motive := fun _ => Nat → β → (UInt8 → β) → β) (fun _ no _ => no)
  (fun x _ r i => Nat.rec (motive := fun _ => β → (UInt8 → β) → β) (fun _ k => k x) (fun i _ => r i) i) l
def mkS (l : List UInt8) : AV := .o (.string ⟨⟨l⟩⟩)
def onStr {β : Type} (v : Value) (no : β) (k : List UInt8 → β) : β := match v with
  | .string s => k s.data.toList
  | _ => no
def strOp (op : BinOp) (a b : List UInt8) (s : M) : M := match op with
  | .add => fun P tm H => ite' (Nat.ble (Nat.add (lenS a) (lenS b)) 1000000) (appS a b fun z => .val (mkS z) H) (s P tm H)
  | .eql => fun _ _ H => aBool (eqS a b) H
  | .neq => fun _ _ H => aBool (!eqS a b) H
  | _ => s
/-- == and != of what leads somewhere: with nil; of two pointers into one block -/
def nilB : Value → Bool
  | .pointer none | .slice none _ _ | .map none | .nilFunc => true
  | _ => false
def eqB (op : BinOp) (x : Bool) (H : HP) : R := match op with
  | .eql => aBool x H
  | .neq => aBool (!x) H
  | _ => .no
def isDead (x : Blk) : Bool := Blk.rec (motive := fun _ => Bool) true (fun _ _ _ => false) (fun _ _ => false) (fun _ _ => false) x
def isShift : BinOp → Bool
  | .shl => true
  | .shr => true
  | _ => false
def isPtr (P : Program) (t : TypeId) : Bool := match P.underlying t with
  | some (.pointer e) => (match P.info? e with | some j => !Nat.beq j.size 0 | none => false)
  | _ => false
def isTx (P : Program) (t : TypeId) : Bool := match P.underlying t with
  | some .string => true
  | _ => false
def isSl (P : Program) (t : TypeId) : Bool := match P.underlying t with
  | some (.slice _) => true
  | _ => false
def eqPP (op : BinOp) (pt : Bool) (b o b' o' : Nat) (H : HP) : R := ite' (pt && Nat.beq b b' && !isDead (H.get b)) (eqB op (Nat.beq o o') H) .no
def eqPN (op : BinOp) (pt : Bool) (v : Value) (H : HP) : R := match v with
  | .pointer none => ite' pt (eqB op false H) .no
  | _ => .no
def eqSN (op : BinOp) (sl : Bool) (v : Value) (H : HP) : R := match v with
  | .slice none _ _ => ite' sl (eqB op false H) .no
  | _ => .no
def bin1 (op : BinOp) (pt sl : Bool) (f : IOp) (s : M) (x y : AV) : M :=
  onV x (fun k a => onV y (fun k' b P _ H => ite' (isShift op || eqK k k') (f k a b P H) .no) (fun _ _ _ _ => .no) (fun _ _ _ _ _ => .no) (fun _ _ _ _ _ _ _ => .no) (fun _ _ _ _ => .no) (fun _ _ _ _ => .no))
    (fun _ => s)
    (fun b o => onV y (fun _ _ _ _ _ => .no) (fun _ _ _ _ => .no) (fun b' o' _ _ H => eqPP op pt b o b' o' H) (fun _ _ _ _ _ _ _ => .no) (fun _ _ _ _ => .no) (fun w _ _ H => eqPN op pt w H))
    (fun _ _ _ _ => onV y (fun _ _ _ _ _ => .no) (fun _ _ _ _ => .no) (fun _ _ _ _ _ => .no) (fun _ _ _ _ _ _ _ => .no) (fun _ _ _ _ => .no) (fun w _ _ H => eqSN op sl w H))
    (fun _ _ _ _ => .no)
    (fun v => onV y (fun _ _ => s) (fun _ => s) (fun _ _ _ _ H => eqPN op pt v H) (fun _ _ _ _ _ _ H => eqSN op sl v H) (fun _ _ _ _ => .no) (fun w => onStr v s fun a => onStr w s fun b => strOp op a b s))
def wr1 {β : Type} (l : List AV) : Nat → AV → (List AV → β) → β := List.rec (motive := fun _ => Nat → AV → (List AV → β) → β) (fun _ _ k => k [])
  (fun x xs r i => Nat.rec (motive := fun _ => AV → (List AV → β) → β) (fun v k => k (v :: xs)) (fun i _ v k => r i v fun xs => k (x :: xs)) i) l
def wrs {β : Type} (vs : List AV) : List AV → Nat → (List AV → β) → β := List.rec (motive := fun _ => List AV → Nat → (List AV → β) → β) (fun c _ k => k c) (fun v _ r c i k => wr1 c i v fun c => r c (Nat.succ i) k) vs
def appK {β : Type} (xs : List AV) : List AV → (List AV → β) → β := List.rec (motive := fun _ => List AV → (List AV → β) → β) (fun ys k => k ys) (fun x _ r ys k => r ys fun z => k (x :: z)) xs
def takeK {β : Type} (l : List AV) : Nat → (List AV → β) → β := List.rec (motive := fun _ => Nat → (List AV → β) → β) (fun _ k => k [])
  (fun x _ r n => Nat.rec (motive := fun _ => (List AV → β) → β) (fun k => k []) (fun n _ k => r n fun z => k (x :: z)) n) l
def dropR (l : List AV) : Nat → List AV := List.rec (motive := fun _ => Nat → List AV) (fun _ => []) (fun x xs r n => Nat.rec (motive := fun _ => List AV) (x :: xs) (fun n _ => r n) n) l
def forceL {β : Type} (l : List Value) : (List AV → β) → β := List.rec (motive := fun _ => (List AV → β) → β) (fun k => k []) (fun x _ r k => (AV.of x).force fun x => r fun z => k (x :: z)) l
def nthK {β : Type} (l : List AV) : Nat → β → (AV → β) → β := List.rec (motive := fun _ => Nat → β → (AV → β) → β) (fun _ no _ => no)
  (fun x _ r i => Nat.rec (motive := fun _ => β → (AV → β) → β) (fun _ k => k x) (fun i _ => r i) i) l
def repR (v : AV) (n : Nat) : List AV := Nat.rec (motive := fun _ => List AV) [] (fun _ l => v :: l) n
def onCells {β : Type} (x : Blk) (no : β) (k : List AV → TypeId → Bool → β) : β := Blk.rec (motive := fun _ => β) no k (fun _ _ => no) (fun _ _ => no) x
/-- n cells from (b, o) on -/
def cellsK {β : Type} (H : HP) (b o n : Nat) (no : β) (k : List AV → β) : β := onCells (H.get b) no fun c _ _ => ite' (Nat.ble (Nat.add o n) (lenS c)) (takeK (dropR c o) n k) no
def storeK {β : Type} (H : HP) (b o : Nat) (vs : List AV) (no : β) (k : HP → β) : β :=
  onCells (H.get b) no fun c e w => ite' w (ite' (Nat.ble (Nat.add o (lenS vs)) (lenS c)) (wrs vs c o fun c => H.setK b (.cells c e true) no k) no) no
/-- the cells of a row's element, by its block's type: an array's elements -/
def zOf (P : Program) (e : TypeId) : Nat := match P.underlying e with
  | some (.array _ e0) => P.cellsOf e0
  | _ => P.cellsOf e
def isAggB (P : Program) (t : TypeId) : Bool := match P.underlying t with | some (.struct _) | some (.array _ _) => true | _ => false
def isOneB (P : Program) (t : TypeId) : Bool := match P.underlying t with | some (.struct _) | some (.array _ _) | none => false | _ => true
def sizeB (P : Program) (t : TypeId) : Nat := ((P.info? t).map (·.size)).getD 0
def elemB (P : Program) (t : TypeId) : Option TypeId := match P.underlying t with | some (.slice e) => some e | _ => none
def mkAgg (l : List AV) : AV := .o (.agg ⟨l.map AV.val⟩)
def onP {β : Type} (v : AV) (no : β) (k : Nat → Nat → β) : β := onV v (fun _ _ => no) (fun _ => no) k (fun _ _ _ _ => no) (fun _ => no) (fun _ => no)
def load1 {β : Type} (H : HP) (v : AV) (no : β) (k : AV → β) : β := onP v no fun b o => onCells (H.get b) no fun c _ _ => nthK c o no k
def loadN {β : Type} (n : Nat) (H : HP) (v : AV) (no : β) (k : AV → β) : β := onP v no fun b o => cellsK H b o n no fun l => k (mkAgg l)
def loadB {β : Type} (P : Program) (t : TypeId) : Bx (HP → AV → β → (AV → β) → β) := match P.info? t with
  | some j => ite' (isAggB P t) (.mk (loadN j.size)) (ite' (isOneB P t) (.mk load1) (.mk fun _ _ no _ => no))
  | none => .mk fun _ _ no _ => no
/-- a value's cells -/
def vcells {β : Type} (v : Value) (no : β) (k : List AV → β) : β := match v with
  | .agg cs => forceL cs.toList k
  | .tuple _ => no
  | v => k [.o v]
def valCells {β : Type} (v : AV) (no : β) (k : List AV → β) : β := onV v (fun kd n => k [.i kd n]) (fun x => k [.b x]) (fun x y => k [.p x y]) (fun x y l c => k [.s x y l c]) (fun x => k [.m x]) (fun v => vcells v no k)
def vsrc {β : Type} (size : Nat) (v : Value) (no : β) (k : Nat → List AV → β) : β := match v with
  | .slice none n _ => ite' (Nat.beq n 0) (k 0 []) no
  | .string s => ite' (Nat.beq size 1) (forceL (s.data.toList.map fun b => .int .u8 b.toNat) fun l => k (lenS l) l) no
  | _ => no
/-- the cells of what is appended -/
def srcK {β : Type} (H : HP) (size : Nat) (v : AV) (no : β) (k : Nat → List AV → β) : β :=
  onV v (fun _ _ => no) (fun _ => no) (fun _ _ => no) (fun b o l _ => cellsK H b o (Nat.mul l size) no fun c => k l c) (fun _ => no) (fun v => vsrc size v no k)
def newSlice (H : HP) (l : Nat) (cap : Nat) (c : List AV) (e : TypeId) : R := H.newK (.cells c e true) .no fun n H' => fNat l fun l => fNat cap fun cap => .val (.s n 0 l cap) H'
def app2 (e : TypeId) (size b o n c : Nat) (H : HP) (m : Nat) (news : List AV) : R :=
  ite' (Nat.ble (Nat.add n m) c)
    (onCells (H.get b) .no fun _ e' _ => ite' (Nat.beq e e') (storeK H b (Nat.add o (Nat.mul n size)) news .no fun H' => fNat (Nat.add n m) fun l => .val (.s b o l c) H') .no)
    (ite' (Nat.beq o 0 && Nat.ble (Nat.add n m) 1000000) (onCells (H.get b) .no fun cs e' w => ite' (w && Nat.beq e e' && Nat.ble (Nat.mul n size) (lenS cs)) (takeK cs (Nat.mul n size) fun old => appK old news fun c' => H.setK b .dead .no fun H => newSlice H (Nat.add n m) (Nat.add n m) c' e) .no) .no)
def app1n (v : Value) (e : TypeId) (size : Nat) (x : AV) (H : HP) : R := match v with
  | .slice none n c => ite' (Nat.beq n 0 && Nat.beq c 0) (srcK H size x .no fun m news => Nat.rec (motive := fun _ => R) (.val (.o (.slice none 0 0)) H) (fun m' _ => ite' (Nat.ble m 1000000) (newSlice H (Nat.succ m') (Nat.succ m') news e) .no) m) .no
  | _ => .no
def app1 (e : TypeId) (size : Nat) (x : AV) (H : HP) (s : AV) : R :=
  onV s (fun _ _ => .no) (fun _ => .no) (fun _ _ => .no) (fun b o n c => srcK H size x .no (app2 e size b o n c H)) (fun _ => .no) (fun v => app1n v e size x H)
def newP (H : HP) (x : Blk) : R := H.newK x .no fun n H' => .val (.p n 0) H'
def aAlloc (P : Program) (e : TypeId) : Bx M := match P.info? e with
  | some j => match j.zero with
    | some z => ite' (lit0 z) (.mk fun _ _ H => valCells (AV.of z) .no fun c => newP H (.cells c e true)) (.mk fun _ _ _ => .no)
    | none => .mk fun _ _ _ => .no
  | none => .mk fun _ _ _ => .no
def partsK {β : Type} (places : List (Nat × Nat)) (tm : Tr AV) (no : β) (l : List (Nat × Operand)) : List AV → (List AV → β) → β :=
  List.rec (motive := fun _ => List AV → (List AV → β) → β) (fun c k => k c)
    (fun x _ r c k => match places[x.1]? with
      | some (off, size) => valCells (aval x.2 tm) no fun vs => ite' (Nat.beq (lenS vs) size && Nat.ble (Nat.add off (lenS vs)) (lenS c)) (wrs vs c off fun c => r c k) no
      | none => no) l
def zerosV (z : Value) (n : Nat) : List Value := (List.replicate n z.cells.toList).flatten
def aBuildSlice (P : Program) (e : TypeId) (len : Nat) (parts : List (Nat × Operand)) : Bx M := match P.info? e with
  | some j => match j.zero with
    | some z => ite' (z.cells.toList.all lit1 && Nat.beq z.cells.size j.size && Nat.ble (len * j.size) 1000 && !Nat.beq (len * j.size) 0 && Nat.beq (zOf P e) j.size) (.mk fun _ tm H => forceL (zerosV z len) fun c => partsK ((List.range len).map fun k => (k * j.size, j.size)) tm .no parts c fun c => newSlice H len len c e) (.mk fun _ _ _ => .no)
    | none => .mk fun _ _ _ => .no
  | none => .mk fun _ _ _ => .no
def aBuild (P : Program) (t : TypeId) (parts : List (Nat × Operand)) : Bx M := match P.info? t, P.underlying t with
  | some j, some (.struct fs) => match j.zero with
    | some z => ite' (lit0 z && fs.toList.all fun f => (P.info? f.type).isSome) (.mk fun _ tm H => valCells (AV.of z) .no fun c => partsK (fs.toList.map fun f => (f.offset, sizeB P f.type)) tm .no parts c fun c => .val (mkAgg c) H) (.mk fun _ _ _ => .no)
    | none => .mk fun _ _ _ => .no
  | _, _ => .mk fun _ _ _ => .no
def isNat {β : Type} (v : AV) (no : β) (k : Nat → β) : β := onV v (fun _ n => Int.rec (motive := fun _ => β) k (fun _ => no) n) (fun _ => no) (fun _ _ => no) (fun _ _ _ _ => no) (fun _ => no) (fun _ => no)
def isN64 {β : Type} (v : AV) (no : β) (k : Nat → β) : β := onV v (fun kd n => ite' (eqK kd .i64) (Int.rec (motive := fun _ => β) k (fun _ => no) n) no) (fun _ => no) (fun _ _ => no) (fun _ _ _ _ => no) (fun _ => no) (fun _ => no)
def aMakeSlice (P : Program) (e : TypeId) (l c : G) : Bx M := match P.info? e with
  | some j => match j.zero with
    | some z => ite' (lit1 z && Nat.beq j.size 1 && Nat.ble j.bytes 64 && Nat.beq (zOf P e) 1) (.mk fun _ tm H => isNat (l tm) .no fun l => isNat (c tm) .no fun c => ite' (Nat.ble l c && Nat.ble c 100000) (newSlice H l c (repR (AV.of z) c) e) .no) (.mk fun _ _ _ => .no)
    | none => .mk fun _ _ _ => .no
  | none => .mk fun _ _ _ => .no
def vRange (v : Value) (H : HP) : R := match v with
  | .string s => newP H (.iter s 0)
  | _ => .no
def onO {β : Type} (v : AV) (no : β) (k : Value → β) : β := onV v (fun _ _ => no) (fun _ => no) (fun _ _ => no) (fun _ _ _ _ => no) (fun _ => no) k
def aNextAt (b : Nat) (s : ByteArray) (pos : Nat) (H : HP) (d : Nat × Nat) : R :=
  fNat d.1 fun c => fNat (Nat.add pos d.2) fun p' => H.setK b (.iter s p') .no fun H => .val (.o (.tuple #[.bool true, .int .i64 pos, .int .i32 c])) H
def aNext1 (b : Nat) (H : HP) (x : Blk) : R := Blk.rec (motive := fun _ => R) .no (fun _ _ _ => .no)
  (fun s pos => ite' (Nat.blt pos s.size) (aNextAt b s pos H (Utf8.decode s pos)) (.val (.o (.tuple #[.bool false])) H)) (fun _ _ => .no) x
def fieldB (P : Program) (s : TypeId) (f : Nat) : Option Field := match P.underlying s with | some (.struct fs) => fs[f]? | _ => none
/-- an element's cells, where the type is known -/
def szB (P : Program) (e : TypeId) (k : Nat → Bx M) : Bx M := match P.info? e with
  | some j => k j.size
  | none => .mk fun _ _ _ => .no
def aField (P : Program) (x : G) (f : Option Field) : Bx M := match f with
  | some f => szB P f.type fun z => ite' (Nat.beq z 0) (.mk fun _ _ _ => .no) (.mk fun _ tm H => onP (x tm) .no fun b o => fNat (Nat.add o f.offset) fun o => .val (.p b o) H)
  | none => .mk fun _ _ _ => .no
def aFieldV (P : Program) (x : G) (f : Option Field) : Bx M := match f with
  | some f => ite' (isOneB P f.type) (.mk fun _ tm H => onO (x tm) .no fun v => match v with
    | .agg cs => match cs.toList[f.offset]? with | some v => ofV v H | none => .no
    | _ => .no) (.mk fun _ _ _ => .no)
  | none => .mk fun _ _ _ => .no
def aIndexAddr (size : Nat) (x i : AV) (H : HP) : R :=
  onV x (fun _ _ => .no) (fun _ => .no) (fun _ _ => .no) (fun b o l _ => isNat i .no fun i => ite' (Nat.blt i l) (fNat (Nat.add o (Nat.mul i size)) fun o => .val (.p b o) H) .no) (fun _ => .no) (fun _ => .no)
def aIndexArr (n size : Nat) (x i : AV) (H : HP) : R := onP x .no fun b o => isNat i .no fun i => ite' (Nat.blt i n) (fNat (Nat.add o (Nat.mul i size)) fun o => .val (.p b o) H) .no
def aIndexB (P : Program) (x i : G) (d : Option TypeDesc) : Bx M := match d with
  | some (.slice e) => szB P e fun z => .mk fun _ tm H => aIndexAddr z (x tm) (i tm) H
  | some (.array n e) => szB P e fun z => .mk fun _ tm H => aIndexArr n z (x tm) (i tm) H
  | _ => .mk fun _ _ _ => .no
def aIndexStr (x i : G) : M := fun P tm H => onO (x tm) .no fun v => onStr v .no fun l => isNat (i tm) .no fun i => nthS l i .no fun x => fNat x.toNat fun n => .val (.i .u8 (.ofNat n)) H
def aSlice2 (size b o c lo hi : Nat) (H : HP) : R :=
  ite' (Nat.ble lo hi && Nat.ble hi c) (fNat (Nat.sub hi lo) fun l => fNat (Nat.sub c lo) fun c' =>
    Nat.rec (motive := fun _ => R) (.val (.s b o l c') H) (fun lo' _ => ite' (Nat.beq c' 0) .no (fNat (Nat.add o (Nat.mul (Nat.succ lo') size)) fun o => .val (.s b o l c') H)) lo) .no
def optG (x : Option Operand) (tm : Tr AV) (d : Nat) (k : Nat → R) : R := match x with
  | none => k d
  | some x => isNat (aval x tm) .no k
def aSlice (size : Nat) (lo hi : Option Operand) (x : G) : M := fun P tm H =>
  onV (x tm) (fun _ _ => .no) (fun _ => .no) (fun _ _ => .no) (fun b o l c => onCells (H.get b) .no fun _ e' _ => ite' (Nat.beq (zOf P e') size) (optG lo tm 0 fun lo => optG hi tm l fun hi => aSlice2 size b o c lo hi H) .no) (fun _ => .no) (fun v => match v with
    | .slice none n c => optG lo tm 0 fun lo => optG hi tm n fun hi => ite' (Nat.beq lo 0 && Nat.beq hi 0) (.val (.o (.slice none 0 c)) H) .no
    | _ => .no)
def aSliceArr (n size : Nat) (lo hi : Option Operand) (x : G) : M := fun P tm H => onP (x tm) .no fun b o => onCells (H.get b) .no fun cs e' _ => ite' (Nat.beq (zOf P e') size && Nat.ble (Nat.add o (Nat.mul n size)) (lenS cs)) (optG lo tm 0 fun lo => optG hi tm n fun hi => aSlice2 size b o n lo hi H) .no
def aSliceStr (lo hi : Option Operand) (x : G) : M := fun P tm H => onO (x tm) .no fun v => onStr v .no fun l => optG lo tm 0 fun lo => optG hi tm (lenS l) fun hi =>
  ite' (Nat.ble lo hi && Nat.ble hi (lenS l)) (takeS (dropS l lo) (Nat.sub hi lo) fun z => .val (mkS z) H) .no
def aSliceB (P : Program) (lo hi : Option Operand) (x : G) (d : Option TypeDesc) : Bx M := match d with
  | some .string => .mk (aSliceStr lo hi x)
  | some (.slice e) => szB P e fun z => .mk (aSlice z lo hi x)
  | some (.array n e) => szB P e fun z => .mk (aSliceArr n z lo hi x)
  | _ => .mk fun _ _ _ => .no
/-- cells as bytes -/
def bytesA {β : Type} (l : List AV) : β → (List UInt8 → β) → β := List.rec (motive := fun _ => β → (List UInt8 → β) → β) (fun _ k => k [])
  (fun x _ r no k => onV x (fun kd n => ite' (eqK kd .u8) (Int.rec (motive := fun _ => β) (fun m => ite' (Nat.blt m 256) (r no fun z => k (UInt8.ofNat m :: z)) no) (fun _ => no) n) no) (fun _ => no) (fun _ _ => no) (fun _ _ _ _ => no) (fun _ => no) (fun _ => no)) l
def aToStr (x : G) : M := fun P tm H => onV (x tm) (fun _ _ => .no) (fun _ => .no) (fun _ _ => .no) (fun b o l _ => cellsK H b o l .no fun c => bytesA c .no fun z => .val (mkS z) H) (fun _ => .no) (fun _ => .no)
/-- a pointer to a bare one and back -/
def aSafe (P : Program) (t : TypeId) (x : G) : M := fun _ tm H => onP (x tm) .no fun b o => onCells (H.get b) .no fun c e _ => ite' (Nat.beq o 0 && Nat.beq e t && !Nat.beq (sizeB P t) 0 && Nat.ble (sizeB P t) (lenS c)) (.val (.p b o) H) .no
def isU8 (P : Program) (e : TypeId) : Bool := match P.underlying e with | some (.int .u8) => true | _ => false
def aConvert (P : Program) (s : M) (c d : TypeId) (x : G) : Bx M := match P.underlying c, P.underlying d with
  | some (.int _), some (.int k) => .mk fun P tm H => onV (x tm) (fun _ n => aInt k n H) (fun _ => .no) (fun _ _ => .no) (fun _ _ _ _ => .no) (fun _ => .no) (fun _ => .no)
  | some (.slice e), some .string => ite' (isU8 P e) (.mk (aToStr x)) (.mk fun _ _ _ => .no)
  | some (.pointer t), some .unsafePointer => .mk (aSafe P t x)
  | some .unsafePointer, some (.pointer t) => .mk (aSafe P t x)
  | _, _ => .mk s
def aExtract (i : Nat) (v : AV) (H : HP) : R := onO v .no fun v => match v with
  | .tuple vs => match vs.toList[i]? with | some v => ofV v H | none => .no
  | _ => .no
def aPick (a b : G) (c : AV) : M := onV c (fun _ _ _ _ _ => .no) (fun c => ite' c (fun _ tm H => .val (a tm) H) (fun _ tm H => .val (b tm) H)) (fun _ _ _ _ _ => .no) (fun _ _ _ _ _ _ _ => .no) (fun _ _ _ _ => .no) (fun _ _ _ _ => .no)
def vLenS (v : Value) (H : HP) : R := match v with
  | .slice none n _ => .val (.i .i64 (.ofNat n)) H
  | _ => .no
def aLenS (x : G) : M := fun P tm H => onV (x tm) (fun _ _ => .no) (fun _ => .no) (fun _ _ => .no) (fun _ _ l _ => .val (.i .i64 (.ofNat l)) H) (fun _ => .no) (fun v => vLenS v H)
def aLenT (x : G) : M := fun P tm H => onO (x tm) .no fun v => onStr v .no fun l => fNat (lenS l) fun n => .val (.i .i64 (.ofNat n)) H
def aCap (x : G) : M := fun _ tm H => onO (x tm) .no fun v => match v with
  | .slice none _ c => .val (.i .i64 (.ofNat c)) H
  | _ => .no
def bodied (P : Program) (f : FuncId) : Bool := match P.funcs[f]? with | some fn => fn.body.isSome | none => false
def fNoEscape : FuncId := 127
def fMakeNoZero : FuncId := 162
def avals {β : Type} (l : List Operand) (tm : Tr AV) : (List AV → β) → β := List.rec (motive := fun _ => (List AV → β) → β) (fun k => k []) (fun x _ r k => (aval x tm).force fun v => r fun z => k (v :: z)) l
/-- bytes that nobody has set -/
def aNoZero (P : Program) (f : FuncId) (x : G) : Bx M := match (P.funcs[f]?).bind fun fn => (fn.resultTypes[0]?).bind (elemB P) with
  | some e => ite' (Nat.beq (zOf P e) 1) (.mk fun _ tm H => isN64 (x tm) .no fun n => ite' (Nat.ble n 100000) (newSlice H n n (repR un n) e) .no) (.mk fun _ _ _ => .no)
  | none => .mk fun _ _ _ => .no
def aCallF (P : Program) (s : M) (f : FuncId) (args : List Operand) : Bx M :=
  ite' (bodied P f) (.mk fun _ tm _ => avals args tm fun l => .enter f l)
    (match args with
    | [x] => Bx.rec (motive := fun _ => Bx M) (fun g => ite' (Nat.beq f fNoEscape) (.mk fun _ tm H => .val (g tm) H) (ite' (Nat.beq f fMakeNoZero) (aNoZero P f g) (.mk s))) (avalB x)
    | _ => .mk s)
def vCall (P : Program) (args : List AV) (v : Value) : R := match v with
  | .func (.func f) first cap => ite' (bodied P f) (forceL first.toList fun a => forceL cap.toList fun c => .enter f (a ++ args ++ c)) .no
  | _ => .no
def aCallV (args : List Operand) (v : AV) (P : Program) (tm : Tr AV) : R := onO v .no fun v => avals args tm fun l => vCall P l v
def useG (x : Operand) (k : G → Bx M) : Bx M := Bx.rec (motive := fun _ => Bx M) k (avalB x)
/-- the bytes from a place on as a text; their block is written no more -/
def aUnsafeStr (et : TypeId) (x n : G) : M := fun _ tm H => isN64 (n tm) .no fun n => Nat.rec (motive := fun _ => R) .no (fun n' _ => onP (x tm) .no fun b o =>
  onCells (H.get b) .no fun cs e w => ite' (w && Nat.beq o 0 && Nat.beq e et && Nat.ble n' 1000000) (cellsK H b o (Nat.succ n') .no fun c => bytesA c .no fun z => H.setK b (.cells cs e false) .no fun H => .val (mkS z) H) .no) n
def aSliceData (x : G) : M := fun _ tm H => onV (x tm) (fun _ _ => .no) (fun _ => .no) (fun _ _ => .no) (fun b o _ c => ite' (Nat.beq c 0) .no (.val (.p b o) H)) (fun _ => .no) (fun _ => .no)
def aCopy (x y : G) : M := fun _ tm H => onV (x tm) (fun _ _ => .no) (fun _ => .no) (fun _ _ => .no) (fun _ _ l _ => ite' (Nat.beq l 0) (onO (y tm) .no fun v => match v with | .slice none 0 _ => .val (.i .i64 0) H | _ => .no) .no) (fun _ => .no) (fun _ => .no)
/-- append, of elements of a known size -/
def appB (P : Program) (e : TypeId) (a b : Operand) : Bx M := match P.info? e with
  | some j => ite' (Nat.blt 0 j.bytes && Nat.ble j.bytes 128 && (match j.zero with | some z => Nat.beq z.cells.size j.size | none => false) && !Nat.beq j.size 0 && Nat.beq (zOf P e) j.size) (useG a fun a => useG b fun b => .mk fun _ tm H => app1 e j.size (b tm) H (a tm)) (.mk fun _ _ _ => .no)
  | none => .mk fun _ _ _ => .no
def aBuiltin (P : Program) (s : M) (b : Builtin) (args : List Operand) (ts : List TypeId) : Bx M := match b, args with
  | .len, [x] => (match ts with
    | t :: _ => ite' (isSl P t) (useG x fun x => .mk (aLenS x)) (ite' (isTx P t) (useG x fun x => .mk (aLenT x)) (.mk s))
    | _ => .mk s)
  | .cap, [x] => (match ts with
    | t :: _ => ite' (isSl P t) (useG x fun x => .mk (aCap x)) (.mk s)
    | _ => .mk s)
  | .unsafeSliceData, [x] => useG x fun x => .mk (aSliceData x)
  | .unsafeString, [x, y] => (match ts with
    | [t, _] => (match P.underlying t with
      | some (.pointer e) => ite' (Nat.beq (sizeB P e) 1) (useG x fun x => useG y fun y => .mk (aUnsafeStr e x y)) (.mk fun _ _ _ => .no)
      | _ => .mk fun _ _ _ => .no)
    | _ => .mk fun _ _ _ => .no)
  | .copy, [x, y] => (match ts with
    | t :: _ => (match elemB P t with
      | some e => ite' ((P.info? e).isSome) (useG x fun x => useG y fun y => .mk (aCopy x y)) (.mk fun _ _ _ => .no)
      | none => .mk fun _ _ _ => .no)
    | _ => .mk fun _ _ _ => .no)
  | .append, [a, b] => match ts with
    | [t, u] => (match elemB P t, P.underlying u with
      | some e, some (.slice _) => appB P e a b
      | some e, some .string => appB P e a b
      | _, _ => .mk fun _ _ _ => .no)
    | _ => .mk fun _ _ _ => .no
  | _, _ => .mk s
def aCall (P : Program) (s : M) (c : Call) : Bx M := match c.callee with
  | .value (.func f) => aCallF P s f c.args.toList
  | .value v => useG v fun v => .mk fun P tm _ => aCallV c.args.toList (v tm) P tm
  | .builtin b => aBuiltin P s b c.args.toList c.argTypes.toList
  | .invoke _ _ => .mk fun _ _ _ => .no
def kindBin (op : BinOp) (pt sl : Bool) (f : IOp) (s : M) (x y : G) : M := fun P tm H => bin1 op pt sl f s (x tm) (y tm) P tm H
/- maps of whole numbers -/
def findA {β : Type} (kd : IntKind) (k : Int) (no miss : β) (hit : Nat → AV → β) (es : List (AV × AV)) : Nat → β := List.rec (motive := fun _ => Nat → β) (fun _ => miss)
  (fun e _ r i => onV e.1 (fun kd' n => ite' (eqK kd kd') (ite' (eqI k n) (hit i e.2) (r (Nat.succ i))) no) (fun _ => no) (fun _ _ => no) (fun _ _ _ _ => no) (fun _ => no) (fun _ => no)) es
def onMap {β : Type} (x : Blk) (no : β) (k : List (AV × AV) → Nat → β) : β := Blk.rec (motive := fun _ => β) no (fun _ _ _ => no) (fun _ _ => no) k x
def mapB (P : Program) (t : TypeId) : Option (IntKind × TypeId) := match P.underlying t with
  | some (.map kt et) => match P.underlying kt with | some (.int k) => some (k, et) | _ => none
  | _ => none
def aLookup (P : Program) (t : TypeId) (m k : G) : Bx M := match mapB P t with
  | some (kd, et) => match (P.info? et).bind (·.zero) with
    | some z => ite' (lit0 z) (.mk fun _ tm H => onV (k tm) (fun kd' n => ite' (eqK kd kd') (onV (m tm) (fun _ _ => .no) (fun _ => .no) (fun _ _ => .no) (fun _ _ _ _ => .no)
        (fun b => onMap (H.get b) .no fun es _ => findA kd n .no (ofV z H) (fun _ x => .val x H) es 0) (fun _ => .no)) .no) (fun _ => .no) (fun _ _ => .no) (fun _ _ _ _ => .no) (fun _ => .no) (fun _ => .no)) (.mk fun _ _ _ => .no)
    | none => .mk fun _ _ _ => .no
  | none => .mk fun _ _ _ => .no
def aMapUpdate (P : Program) (t : TypeId) (m k x : G) : Bx M := match mapB P t with
  | some (kd, et) => .mk fun _ tm H => onV (k tm) (fun kd' n => ite' (eqK kd kd') (onV (m tm) (fun _ _ => .no) (fun _ => .no) (fun _ _ => .no) (fun _ _ _ _ => .no)
      (fun b => onMap (H.get b) .no fun es cl => findA kd n .no (fNat (Nat.succ cl) fun cl' => H.setK b (.mp (es ++ [(.i kd n, x tm)]) cl') .no fun H => .val un H)
        (fun i _ => H.setK b (.mp (es.modify i fun e => (.i kd n, x tm)) cl) .no fun H => .val un H) es 0) (fun _ => .no)) .no) (fun _ => .no) (fun _ _ => .no) (fun _ _ _ _ => .no) (fun _ => .no) (fun _ => .no)
  | none => .mk fun _ _ _ => .no
/-- one cell, no function -/
def plain (v : AV) : Bool := onV v (fun _ _ => true) (fun _ => true) (fun _ _ => true) (fun _ _ _ _ => true) (fun _ => true) lit1
def aopO (P : Program) (s : M) (op : Op) : Bx M := match op with
  | .move x => useG x fun x => .mk fun _ tm H => .val (x tm) H
  | .assign x => useG x fun x => .mk fun _ tm H => .val (x tm) H
  | .pick c a b => useG a fun a => useG b fun b => useG c fun c => .mk fun P tm H => aPick a b (c tm) P tm H
  | .alloc e => aAlloc P e
  | .box e x => useG x fun x => .mk fun _ tm H => valCells (x tm) .no fun c => newP H (.cells c e true)
  | .build t parts => aBuild P t parts.toList
  | .buildSlice t len parts => match elemB P t with
    | some e => aBuildSlice P e len parts.toList
    | none => .mk fun _ _ _ => .no
  | .load t a => useG a fun a => Bx.rec (motive := fun _ => Bx M) (fun ld => .mk fun _ tm H => ld H (a tm) .no fun v => .val v H) (loadB P t)
  | .store t a x => useG a fun a => useG x fun x => szB P t fun z => .mk fun _ tm H => onP (a tm) .no fun b o => valCells (x tm) .no fun c => ite' (Nat.beq (lenS c) z) (storeK H b o c .no fun H => .val un H) .no
  | .nilCheck x => useG x fun x => .mk fun _ tm H => onP (x tm) .no fun b o => .val (.p b o) H
  | .binOp op t x y _ => useG x fun x => useG y fun y => Bx.rec (motive := fun _ => Bx M) (fun f => ite' (isPtr P t) (.mk (kindBin op true false f s x y)) (ite' (isSl P t) (.mk (kindBin op false true f s x y)) (.mk (kindBin op false false f s x y)))) (intOp op)
  | .convert c d x => useG x (aConvert P s c d)
  | .makeFunc fn first cap => .mk fun _ tm H => avals first.toList tm fun a => avals cap.toList tm fun c => ite' (a.all plain && c.all plain) (.val (.o (.func fn ⟨a.map AV.val⟩ ⟨c.map AV.val⟩)) H) .no
  | .makeSlice t l c => match elemB P t with
    | some e => useG l fun l => useG c fun c => aMakeSlice P e l c
    | none => .mk fun _ _ _ => .no
  | .makeMap _ r => match r with
    | none => .mk fun _ _ H => H.newK (.mp [] 0) .no fun n H' => .val (.m n) H'
    | some _ => .mk fun _ _ _ => .no
  | .lookup t m k ok => useG m fun m => useG k fun k => ite' ok (.mk fun _ _ _ => .no) (aLookup P t m k)
  | .mapUpdate t m k x => useG m fun m => useG k fun k => useG x fun x => aMapUpdate P t m k x
  | .slice t x lo hi mx => useG x fun x => match mx with
    | none => aSliceB P lo hi x (P.underlying t)
    | some _ => .mk fun _ _ _ => .no
  | .fieldAddr s x f => useG x fun x => aField P x (fieldB P s f)
  | .field s x f => useG x fun x => aFieldV P x (fieldB P s f)
  | .indexAddr t x i => useG x fun x => useG i fun i => aIndexB P x i (P.underlying t)
  | .index t x i => useG x fun x => useG i fun i => match P.underlying t with
    | some .string => .mk (aIndexStr x i)
    | _ => .mk s
  | .range t x => ite' (isTx P t) (useG x fun x => .mk fun _ tm H => onO (x tm) .no fun v => vRange v H) (.mk fun _ _ _ => .no)
  | .next it str => useG it fun it => ite' str (.mk fun _ tm H => onP (it tm) .no fun b o => ite' (Nat.beq o 0) (aNext1 b H (H.get b)) .no) (.mk fun _ _ _ => .no)
  | .extract x i => useG x fun x => .mk fun _ tm H => aExtract i (x tm) H
  | .call c => aCall P s c
  | .unOp _ _ _ => .mk s
  | _ => .mk fun _ _ _ => .no
def yesV (v : Value) (w : Bool) : Bool := match v with
  | .bool x => ite' x w (!w)
  | _ => false
def yes (v : AV) (w : Bool) : Bool := onV v (fun _ _ => false) (fun x => ite' x w (!w)) (fun _ _ => false) (fun _ _ _ _ => false) (fun _ => false) (fun v => yesV v w)
inductive Job where
  | ops (n : Nat) (all : Array Oper) (l : List Oper) (tm : Tr AV) (H : HP)
  | any (n : Nat) (all : Array Oper) (fuel : Nat) (listed : Array Bool) (tm : Tr AV) (H : HP) (n0 : Nat)
  | code (n : Nat) (c : Code) (tm : Tr AV) (H : HP)
  | scope (n : Nat) (b c : Code) (tm : Tr AV) (H : HP)
  | fn (f : FuncId) (args : List AV) (H : HP)
abbrev K := Job → Out
abbrev SO := Program → K → Tr AV → HP → (Tr AV → HP → Out) → Out
def kVal (o : Out) (k : AV → HP → Out) : Out := Out.rec (motive := fun _ => Out) (fun _ _ _ => .no) k .no o
def kR (r : R) (rec : K) (H : HP) (k : AV → HP → Out) : Out := R.rec (motive := fun _ => Out) k (fun f args => kVal (rec (.fn f args H)) k) .no r
def putP (n : Nat) (d : Option Tmp) : Bx Sp := match d with
  | some d => ite' (Nat.blt d n) (setP 12 d) (.mk fun _ _ _ => .no)
  | none => .mk fun t _ k => k t
def sOp1 (m : M) (p : Sp) : SO := fun P rec tm H k => kR (m P tm H) rec H fun v H => p tm v fun tm => k tm H
/-- one operation, what hangs on its text found once -/
def sOpG (P : Program) (n : Nat) (all : Array Oper) (o : Oper) : Bx SO :=
  Bx.rec (motive := fun _ => Bx SO) (fun m => Bx.rec (motive := fun _ => Bx SO) (fun p => match o.guard with
    | none => .mk (sOp1 m p)
    | some (j, w) => match (all[j]?).bind (·.dst) with
      | some t => Bx.rec (motive := fun _ => Bx SO) (fun g => .mk fun P rec tm H k => ite' (yes (g tm) w) (sOp1 m p P rec tm H k) (p tm un fun tm => k tm H)) (getP 12 t)
      | none => .mk fun _ rec tm H k => p tm un fun tm => k tm H) (putP n o.dst)) (aopO P (slow o) o.op)
def sOps (l : List Oper) (P : Program) (rec : K) (n : Nat) (all : Array Oper) (tm : Tr AV) (H : HP) : Out :=
  List.rec (motive := fun _ => Out) (.st .nrm tm H) (fun o l _ => Bx.rec (motive := fun _ => Out) (fun f => f P rec tm H fun tm H => rec (.ops n all l tm H)) (sOpG P n all o)) l
/- equality of states -/
def eqV1 : Value → Value → Bool
  | .string a, .string b => eqS a.data.toList b.data.toList
  | .float .f64 a, .float .f64 b => Nat.beq a b
  | .pointer none, .pointer none => true
  | .slice none a b, .slice none c d => Nat.beq a c && Nat.beq b d
  | .map none, .map none => true
  | .nilIface, .nilIface => true
  | .nilFunc, .nilFunc => true
  | .int k a, .int k' b => eqK k k' && eqI a b
  | .bool a, .bool b => a == b
  | .pointer (some ⟨a, b, none⟩), .pointer (some ⟨c, d, none⟩) => Nat.beq a c && Nat.beq b d
  | .slice (some ⟨a, b, none⟩) l m, .slice (some ⟨c, d, none⟩) l' m' => Nat.beq a c && Nat.beq b d && Nat.beq l l' && Nat.beq m m'
  | _, _ => false
def eqVL : List Value → List Value → Bool
  | [], [] => true
  | a :: l, b :: l' => eqV1 a b && eqVL l l'
  | _, _ => false
def eqV0 : Value → Value → Bool
  | .agg a, .agg b => eqVL a.toList b.toList
  | .tuple a, .tuple b => eqVL a.toList b.toList
  | .func (.func f) a b, .func (.func g) c d => Nat.beq f g && eqVL a.toList c.toList && eqVL b.toList d.toList
  | a, b => eqV1 a b
def eqA (x y : AV) : Bool := onV x (fun k a => onV y (fun k' b => eqK k k' && eqI a b) (fun _ => false) (fun _ _ => false) (fun _ _ _ _ => false) (fun _ => false) (fun _ => false))
  (fun a => onV y (fun _ _ => false) (fun b => a == b) (fun _ _ => false) (fun _ _ _ _ => false) (fun _ => false) (fun _ => false))
  (fun a b => onV y (fun _ _ => false) (fun _ => false) (fun c d => Nat.beq a c && Nat.beq b d) (fun _ _ _ _ => false) (fun _ => false) (fun _ => false))
  (fun a b l m => onV y (fun _ _ => false) (fun _ => false) (fun _ _ => false) (fun c d l' m' => Nat.beq a c && Nat.beq b d && Nat.beq l l' && Nat.beq m m') (fun _ => false) (fun _ => false))
  (fun a => onV y (fun _ _ => false) (fun _ => false) (fun _ _ => false) (fun _ _ _ _ => false) (fun b => Nat.beq a b) (fun _ => false))
  (fun v => onV y (fun _ _ => false) (fun _ => false) (fun _ _ => false) (fun _ _ _ _ => false) (fun _ => false) (eqV0 v))
def eqL (x : List AV) : List AV → Bool := List.rec (motive := fun _ => List AV → Bool) (fun y => List.rec (motive := fun _ => Bool) true (fun _ _ _ => false) y)
  (fun a _ r y => List.rec (motive := fun _ => Bool) false (fun b bs _ => ite' (eqA a b) (r bs) false) y) x
def eqPL : List (AV × AV) → List (AV × AV) → Bool
  | [], [] => true
  | a :: l, b :: l' => eqA a.1 b.1 && eqA a.2 b.2 && eqPL l l'
  | _, _ => false
def eqBlk : Blk → Blk → Bool
  | .mp l c, .mp l' c' => eqPL l l' && Nat.beq c c'
  | .dead, .dead => true
  | .cells c e w, .cells c' e' w' => eqL c c' && Nat.beq e e' && w == w'
  | .iter s p, .iter s' p' => eqS s.data.toList s'.data.toList && Nat.beq p p'
  | _, _ => false
def eqT {α : Type} (f : α → α → Bool) (x : Tr α) : Tr α → Bool := Tr.rec (motive := fun _ => Tr α → Bool) (fun y => Tr.rec (motive := fun _ => Bool) true (fun _ _ _ _ _ => false) y)
  (fun v _ _ el er y => Tr.rec (motive := fun _ => Bool) false (fun v' l' r' _ _ => ite' (f v v') (ite' (el l') (er r') false) false) y) x
def eqH (x y : HP) : Bool := HP.rec (motive := fun _ => Bool) (fun n d m t => HP.rec (motive := fun _ => Bool) (fun n' d' m' t' => Nat.beq n n' && Nat.beq d d' && Nat.beq m m' && eqT eqBlk t t') y) x
def onSt {β : Type} (o : Out) (no : β) (k : Tr AV → HP → β) : β := Out.rec (motive := fun _ => β) (fun e tm H => Ex.rec (motive := fun _ => β) (k tm H) (fun _ => no) (fun _ => no) no e) (fun _ _ => no) no o
def eqO (x y : Out) : Bool := onSt x false fun tm H => onSt y false fun tm' H' => eqT eqA tm tm' && eqH H H'
/- regions that draw -/
def quietK : Op → Bool
  | .move _ | .pick .. | .extract .. => true
  | _ => false
def setN (n m : Nat) (H : HP) : HP := HP.rec (motive := fun _ => HP) (fun _ d _ t => .mk n d m t) H
def numN (H : HP) : Nat := HP.rec (motive := fun _ => Nat) (fun n _ _ _ => n) H
def limN (H : HP) : Nat := HP.rec (motive := fun _ => Nat) (fun _ _ m _ => m) H
def stride : Nat := 4096
def maxN (a b : Nat) : Nat := ite' (Nat.ble a b) b a
/-- one operation of a region that draws, its new blocks numbered by its place; the next block is behind all that were made -/
def anyOne (P : Program) (rec : K) (n : Nat) (all : Array Oper) (fuel : Nat) (listed : Array Bool) (tm : Tr AV) (H : HP) (n0 i : Nat) : Out := match all[i]? with
  | some o => Bx.rec (motive := fun _ => Out) (fun f => f P rec tm (setN (Nat.add n0 (Nat.mul stride i)) (Nat.add n0 (Nat.mul stride (Nat.succ i))) H) fun tm H' =>
      rec (.any n all fuel (listed.setIfInBounds i true) tm (setN (ite' (Nat.beq (numN H') (Nat.add n0 (Nat.mul stride i))) (numN H) (maxN (numN H) (numN H'))) (limN H) H') n0)) (sOpG P n all o)
  | none => .no
def anyAll (P : Program) (rec : K) (n : Nat) (all : Array Oper) (fuel : Nat) (listed : Array Bool) (tm : Tr AV) (H : HP) (n0 : Nat) (o : Out) (l : List Nat) : Out :=
  List.rec (motive := fun _ => Out) o (fun i _ r => ite' (eqO o (anyOne P rec n all fuel listed tm H n0 i)) r .no) l
def anyList (P : Program) (rec : K) (n : Nat) (all : Array Oper) (fuel : Nat) (listed : Array Bool) (tm : Tr AV) (H : HP) (n0 : Nat) (l : List Nat) : Out := List.rec (motive := fun _ => Out) (.st .nrm tm H)
  (fun i l _ => anyAll P rec n all fuel listed tm H n0 (anyOne P rec n all fuel listed tm H n0 i) l) l
def quietB (P : Program) (op : Op) : Bool := match op with
  | .fieldAddr s _ f => (match fieldB P s f with | some fd => !Nat.beq (sizeB P fd.type) 0 | none => false)
  | op => quietK op
def firstQ (P : Program) (all : Array Oper) (listed : Array Bool) (l : List Nat) : Option Nat := l.find? fun i => match all[i]? with | some o => quietB P o.op && Region.free .any all listed i | none => false
def sAny (P : Program) (rec : K) (n : Nat) (all : Array Oper) (fuel : Nat) (listed : Array Bool) (tm : Tr AV) (H : HP) (n0 : Nat) : Out :=
  Nat.rec (motive := fun _ => Out) (ite' (Region.ready .any all listed).isEmpty (.st .nrm tm H) .no)
    (fun fuel _ => Option.rec (motive := fun _ => Out) (anyList P rec n all fuel listed tm H n0 (Region.ready .any all listed)) (fun i => anyOne P rec n all fuel listed tm H n0 i) (firstQ P all listed (Region.ready .any all listed))) fuel
/-- the text's order serves: nothing but reads -/
def stillK : Op → Bool
  | .move _ | .assign _ | .pick .. | .binOp .. | .unOp .. | .fieldAddr .. | .extract .. | .load .. | .indexAddr .. | .index .. | .nilCheck _ | .convert .. => true
  | .call ⟨.builtin .len, _, _⟩ | .call ⟨.builtin .cap, _, _⟩ | .call ⟨.builtin .min, _, _⟩ | .call ⟨.builtin .max, _, _⟩ => true
  | _ => false
def stillB (ops : Array Oper) : Bool := ops.toList.all fun o => stillK o.op
def kSeq (o : Out) (k : Tr AV → HP → Out) : Out := Out.rec (motive := fun _ => Out) (fun e tm H => Ex.rec (motive := fun _ => Out) (k tm H) (fun j => .st (.exit j) tm H) (fun l => .st (.goto l) tm H) (.st .ret tm H) e) (fun _ _ => .no) .no o
def kBlock (o : Out) (id : Nat) : Out := Out.rec (motive := fun _ => Out) (fun e tm H => Ex.rec (motive := fun _ => Out) (.st .nrm tm H) (fun j => ite' (Nat.beq j id) (.st .nrm tm H) (.st (.exit j) tm H)) (fun l => .st (.goto l) tm H) (.st .ret tm H) e) (fun _ _ => .no) .no o
def kGoto (n : Nat) (c : Option Code) (rec : K) (b : Code) (l : Nat) (tm : Tr AV) (H : HP) : Out := Option.rec (motive := fun _ => Out) .no (fun r => rec (.scope n b r tm H)) c
def kScope (n : Nat) (o : Out) (rec : K) (b : Code) : Out := Out.rec (motive := fun _ => Out) (fun e tm H => Ex.rec (motive := fun _ => Out) (.st .nrm tm H) (fun j => .st (.exit j) tm H) (fun l => kGoto n (findLabel b l) rec b l tm H) (.st .ret tm H) e) (fun _ _ => .no) .no o
def kCond (v : AV) (a b : Out) : Out := onV v (fun _ _ => .no) (fun c => ite' c a b) (fun _ _ => .no) (fun _ _ _ _ => .no) (fun _ => .no) (fun _ => .no)
abbrev SC := K → Tr AV → HP → Out
def sRegion (n : Nat) (ops : Array Oper) (draw : Bool) : Bx SC := ite' (!draw || (stillB ops && Region.lexB .any ops)) (.mk fun rec tm H => rec (.ops n ops ops.toList tm H))
  (ite' (Region.noSelect ops) (.mk fun rec tm H => ite' (Nat.ble (Nat.add (numN H) (Nat.mul stride ops.size)) (limN H)) (rec (.any n ops ops.size (Array.replicate ops.size false) tm H (numN H))) .no) (.mk fun _ _ _ => .no))
def sCode (n : Nat) (c : Code) : Bx SC := match c with
  | .skip => .mk fun _ tm H => .st .nrm tm H
  | .label _ => .mk fun _ tm H => .st .nrm tm H
  | .region _ ops draw => sRegion n ops draw
  | .seq a b => .mk fun rec tm H => kSeq (rec (.code n a tm H)) fun tm H => rec (.code n b tm H)
  | .cond c a b => Bx.rec (motive := fun _ => Bx SC) (fun g => .mk fun rec tm H => kCond (g tm) (rec (.code n a tm H)) (rec (.code n b tm H))) (avalB c)
  | .block id b => .mk fun rec tm H => kBlock (rec (.code n b tm H)) id
  | .loop b => .mk fun rec tm H => kSeq (rec (.code n b tm H)) fun tm H => rec (.code n (.loop b) tm H)
  | .exit id => .mk fun _ tm H => .st (.exit id) tm H
  | .goto l => .mk fun _ tm H => .st (.goto l) tm H
  | .ret => .mk fun _ tm H => .st .ret tm H
  | .scope b => .mk fun rec tm H => rec (.scope n b b tm H)
  | _ => .mk fun _ _ _ => .no
/- a call's end -/
def resK {β : Type} (P : Program) (tm : Tr AV) (H : HP) (no : β) (l : List ResultVar) : (List AV → β) → β := List.rec (motive := fun _ => (List AV → β) → β) (fun k => k [])
  (fun x _ r k => match x with
    | .tmp t => r fun z => k (aval (.tmp t) tm :: z)
    | .cell ad t => Bx.rec (motive := fun _ => β) (fun ld => ld H (aval (.tmp ad) tm) no fun v => r fun z => k (v :: z)) (loadB P t)) l
def notTup (v : AV) : Bool := onO v true fun v => match v with | .tuple _ => false | _ => true
def resV (l : List AV) (k : AV → Out) : Out := match l with
  | [x] => k x
  | l => ite' (l.all notTup) (k (.o (.tuple ⟨l.map AV.val⟩))) .no
def isUn (v : AV) : Bool := onO v false fun v => match v with | .tuple vs => vs.toList.isEmpty | _ => false
/-- behind a call: what was made is left where nothing leads to it -/
def kBack (v : AV) (H0 H : HP) : Out := HP.rec (motive := fun _ => Out) (fun n0 d0 _ _ => HP.rec (motive := fun _ => Out) (fun n d m t =>
  ite' (Nat.blt d n0) (ite' (Nat.blt d d0) (.v v (.mk n d m t)) (.v v (.mk n d0 m t))) (ite' (lit v || isUn v) (.v v H0) (.v v (.mk n d0 m t)))) H) H0
def fresh (H : HP) : HP := HP.rec (motive := fun _ => HP) (fun n _ m t => .mk n n m t) H
def kEnd (P : Program) (fn : Func) (H0 : HP) (tm : Tr AV) (H : HP) : Out := resK P tm H .no fn.results.toList fun l => resV l fun v => v.force fun v => kBack v H0 H
def kFn (o : Out) (P : Program) (fn : Func) (H0 : HP) : Out := Out.rec (motive := fun _ => Out) (fun e tm H => Ex.rec (motive := fun _ => Out) (kEnd P fn H0 tm H) (fun _ => .no) (fun _ => .no) (kEnd P fn H0 tm H) e) (fun _ _ => .no) .no o
def args0 (vs : List AV) : Nat → Tr AV → (Tr AV → Out) → Out := List.rec (motive := fun _ => Nat → Tr AV → (Tr AV → Out) → Out) (fun _ t k => k t) (fun v _ r i t k => Bx.rec (motive := fun _ => Out) (fun p => p t v fun t => r (Nat.succ i) t k) (setP 12 i)) vs
abbrev SF := K → List AV → HP → Out
def sFn (P : Program) (f : FuncId) : Bx SF := match P.funcs[f]? with
  | some fn => match fn.body with
    | some c => ite' (Nat.ble fn.ntmps 4000) (.mk fun rec args H => ite' (Nat.ble (lenS args) fn.ntmps) (args0 args 0 .e fun tm => kFn (rec (.code fn.ntmps c tm (fresh H))) P fn H) .no) (.mk fun _ _ _ => .no)
    | none => .mk fun _ _ _ => .no
  | none => .mk fun _ _ _ => .no
def step (j : Job) (P : Program) (rec : K) : Out := Job.rec (motive := fun _ => Out) (fun n all l tm H => sOps l P rec n all tm H) (fun n all fuel listed tm H n0 => sAny P rec n all fuel listed tm H n0)
  (fun n c tm H => Bx.rec (motive := fun _ => Out) (fun f => f rec tm H) (sCode n c)) (fun n b c tm H => kScope n (rec (.code n c tm H)) rec b) (fun f args H => Bx.rec (motive := fun _ => Out) (fun g => g rec args H) (sFn P f)) j
def ev (P : Program) (k : Nat) : K := Nat.rec (motive := fun _ => K) (fun _ => .no) (fun _ r j => step j P r) k
end
end Go.Ev
