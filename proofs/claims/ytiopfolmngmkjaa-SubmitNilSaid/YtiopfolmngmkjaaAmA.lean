/-
  The abstract machine: its data, its operations, its run, its compiler.
-/
import GoSem.Step
/-
  The abstract machine: its data, its operations and its run. Nothing is proved here but laws of tries.
-/
namespace Go.AM

/-! ### Tries -/
inductive Trie (α : Type) where
  | leaf
  | node (l : Trie α) (v : Option α) (r : Trie α)

namespace Trie
variable {α : Type}

def get : Trie α → Nat → Option α
  | .leaf, _ => none
  | .node l v r, n => match n with
    | 0 => v
    | m + 1 => bif Nat.beq (m % 2) 0 then l.get (m / 2) else r.get (m / 2)

def left : Trie α → Trie α
  | .leaf => .leaf
  | .node l _ _ => l
def mid : Trie α → Option α
  | .leaf => none
  | .node _ v _ => v
def right : Trie α → Trie α
  | .leaf => .leaf
  | .node _ _ r => r

def setF : Nat → Trie α → Nat → α → Trie α
  | 0, t, _, _ => t
  | f + 1, t, n, a => match n with
    | 0 => .node t.left (some a) t.right
    | m + 1 => bif Nat.beq (m % 2) 0 then .node (setF f t.left (m / 2) a) t.mid t.right else .node t.left t.mid (setF f t.right (m / 2) a)

def set (t : Trie α) (n : Nat) (a : α) : Trie α := setF (n + 1) t n a

theorem get_zero (t : Trie α) : t.get 0 = t.mid := by cases t <;> rfl

theorem beq_zero_of_ne {n : Nat} (h : ¬ n = 0) : Nat.beq n 0 = false := by
  cases h' : Nat.beq n 0 with
  | false => rfl
  | true => exact absurd (Nat.eq_of_beq_eq_true h') h

theorem get_succ (t : Trie α) (m : Nat) : t.get (m + 1) = if m % 2 = 0 then t.left.get (m / 2) else t.right.get (m / 2) := by
  cases t with
  | leaf => simp only [left, right]; split <;> (generalize m / 2 = j; cases j <;> rfl)
  | node l v r =>
    simp only [get, left, right]
    by_cases h : m % 2 = 0
    · simp [h]
    · simp [beq_zero_of_ne h, h]

theorem get_setF (f : Nat) : ∀ (t : Trie α) (n k : Nat) (a : α), n < f → (setF f t n a).get k = if k = n then some a else t.get k := by
  induction f with
  | zero => intro t n k a h; omega
  | succ f ih =>
    intro t n k a h
    cases n with
    | zero =>
      cases k with
      | zero => simp [setF, get]
      | succ k => rw [get_succ t k]; simp [setF, get_succ, left, right]
    | succ m =>
      by_cases hm : m % 2 = 0
      · have hb : Nat.beq (m % 2) 0 = true := by simp [hm]
        simp only [setF, hb, cond_true]
        cases k with
        | zero => rw [get_zero, get_zero]; simp [mid]
        | succ k =>
          rw [get_succ, get_succ t k]
          by_cases hk : k % 2 = 0
          · simp only [hk, if_true]
            show (setF f t.left (m / 2) a).get (k / 2) = _
            rw [ih _ _ _ _ (by omega)]
            by_cases e : k = m
            · subst e; simp
            · have h1 : ¬ k / 2 = m / 2 := by omega
              rw [if_neg h1, if_neg (by omega)]
          · rw [if_neg hk, if_neg hk, if_neg (by omega)]; rfl
      · simp only [setF, beq_zero_of_ne hm, cond_false]
        cases k with
        | zero => rw [get_zero, get_zero]; simp [mid]
        | succ k =>
          rw [get_succ, get_succ t k]
          by_cases hk : k % 2 = 0
          · rw [if_pos hk, if_pos hk, if_neg (by omega)]; rfl
          · simp only [hk, if_false]
            show (setF f t.right (m / 2) a).get (k / 2) = _
            rw [ih _ _ _ _ (by omega)]
            by_cases e : k = m
            · subst e; simp
            · have h1 : ¬ k / 2 = m / 2 := by omega
              rw [if_neg h1, if_neg (by omega)]

theorem get_set (t : Trie α) (n k : Nat) (a : α) : (t.set n a).get k = if k = n then some a else t.get k := get_setF _ _ _ _ _ (by omega)
theorem get_set_same (t : Trie α) (n : Nat) (a : α) : (t.set n a).get n = some a := by simp [get_set]
theorem get_set_ne (t : Trie α) {n k : Nat} (a : α) (h : k ≠ n) : (t.set n a).get k = t.get k := by simp [get_set, h]
@[simp] theorem get_leaf (n : Nat) : (Trie.leaf : Trie α).get n = none := by cases n <;> rfl
end Trie

abbrev Tm := Trie Value
def Tm.g (t : Tm) (i : Nat) : Value := (Trie.get t i).getD undef

/-! ### Resolved operations -/
inductive LK where
  | bool | int | string
  deriving DecidableEq, Repr, Inhabited

inductive NK where
  | ptr | sl | mp | fn | ifc
  deriving DecidableEq, Repr, Inhabited

/-- How two values of a type are held against each other. -/
inductive EK where
  | leaf (k : LK)
  | nilable (k : NK)
  | flat (ks : List LK)
  | no
  deriving DecidableEq, Repr, Inhabited

inductive CK where
  | int (k : IntKind)
  | same
  | s2b | s2r | b2s | r2s | i2s
  deriving DecidableEq, Repr, Inhabited

inductive LenK where
  | str | sl | mp | arr (n : Nat)
  deriving DecidableEq, Repr, Inhabited

inductive SlK where
  | str | sl (esz : Nat)
  deriving DecidableEq, Repr, Inhabited

inductive AOp where
  | mv (x : Operand)
  | pick (c a b : Operand)
  | build (zero : List Value) (parts : List (Nat × Nat × Operand))
  | nilCheck (x : Operand)
  | bin (op : BinOp) (ek : EK) (kc : Bool) (x y : Operand)
  | un (op : UnOp) (x : Operand)
  | conv (k : CK) (x : Operand)
  | mkIface (t : TypeId) (x : Operand)
  | mkFunc (fn : Fn) (first captured : List Operand)
  | slc (k : SlK) (x : Operand) (lo hi mx : Option Operand)
  | fieldAddr (off : Nat) (x : Operand)
  | field (off : Nat) (agg : Option Nat) (x : Operand)
  | idxAddrArr (len esz : Nat) (x i : Operand)
  | idxAddrSl (esz : Nat) (x i : Operand)
  | idxArr (len esz : Nat) (agg : Bool) (x i : Operand)
  | idxStr (x i : Operand)
  | extract (x : Operand) (i : Nat)
  | lenOf (k : LenK) (x : Operand)
  | capOf (x : Operand)
  | minmax (mx : Bool) (xs : List Operand)
  | s2ap (n : Nat) (x : Operand)
  -- reads
  | load (agg : Option Nat) (x : Operand)
  | lookup (ek : EK) (zero : Value) (ok : Bool) (m i : Operand)
  | lenMap (x : Operand)
  | entry (x : Operand)
  | rd2s (k : CK) (x : Operand)
  -- new memory
  | alloc (zero : List Value)
  | box (x : Operand)
  | buildSlice (zero : List Value) (len : Nat) (parts : List (Nat × Nat × Operand))
  | mkMap
  | mkSlice (zero : List Value) (l c : Operand)
  | s2sl (k : CK) (x : Operand)
  -- acts
  | store (size : Nat) (a v : Operand)
  | mapUp (ek : EK) (m k v : Operand)
  | range (str : Bool) (x : Operand)
  | next (str : Bool) (x : Operand)
  | append (esz : Nat) (zero : List Value) (mk : Bool) (s x : Operand)
  | copy (esz : Nat) (d s : Operand)
  | clearSl (zero : List Value) (x : Operand)
  | clearMp (x : Operand)
  | delete (ek : EK) (m k : Operand)
  | call (f : Operand) (args : List Operand)
  | dies (x : Operand)
  | tassert (t : TypeId) (zero : Value) (ok : Bool) (x : Operand)
  deriving Inhabited

structure AOper where
  dst : Option Tmp
  op : AOp
  guard : Option (Option Tmp × Bool)
  deriving Inhabited

inductive Cls where
  | pure | read | alloc | act
  deriving DecidableEq, Repr, Inhabited

def AOp.cls : AOp → Cls
  | .load .. | .lookup .. | .lenMap .. | .entry .. | .rd2s .. => .read
  | .alloc .. | .box .. | .buildSlice .. | .mkMap | .mkSlice .. | .s2sl .. => .alloc
  | .store .. | .mapUp .. | .range .. | .next .. | .append .. | .copy .. | .clearSl .. | .clearMp .. | .delete .. | .call .. | .dies _ => .act
  | _ => .pure

/-- In a region that draws: an operation's index, the indices of the new memory that it does not see; for a read: the acts behind which it must read the same. -/
structure Chk where
  hide : List Nat
  again : List Nat
  deriving Repr, Inhabited

inductive ACode where
  | skip
  | region (ops : List AOper)
  | draw (ops : List AOper) (chk : List Chk)
  | seq (a b : ACode)
  | cond (c : Operand) (thn els : ACode)
  | block (id : Nat) (body : ACode)
  | loop (body : ACode)
  | rangeFunc (f : Operand) (params : List Tmp) (assign body : ACode)
  | exit (id : Nat)
  | scope (body cur : ACode)
  | label (l : Nat)
  | goto (l : Nat)
  | ret
  | refuse
  deriving Inhabited

inductive AJump where
  | ret | exit (id : Nat) | goto (l : Nat)
  deriving DecidableEq, Repr, Inhabited

inductive AObj where
  | row (cells : List Value) (opn ro : Bool)
  | map (es : List (Value × Value × Nat)) (clock : Nat)
  | iter (m : Option Nat) (since : Nat) (seen : List Nat) (last : Nat)
  | sit (s : ByteArray) (pos : Nat)
  | loop (st : LoopState) (pend : Option AJump) (tm : Tm) (ps : List Tmp) (asg body : ACode) (dfs : Nat)
  | dfd (taken : Bool)
  deriving Inhabited

/-- 'low': no block below it has been written or killed since it was set. -/
structure H where
  t : Trie (Option AObj)
  next : Nat
  low : Nat

def minN (a b : Nat) : Nat := bif Nat.ble a b then a else b

namespace H
def get (σ : H) (L : Nat) : Option AObj := (σ.t.get L).join
def put (σ : H) (L : Nat) (o : AObj) : H := ⟨σ.t.set L (some o), σ.next, minN σ.low L⟩
def kill (σ : H) (L : Nat) : H := ⟨σ.t.set L none, σ.next, minN σ.low L⟩
def new (σ : H) (o : AObj) : H := ⟨σ.t.set σ.next (some o), σ.next + 1, σ.low⟩
def skipTo (σ : H) (n : Nat) : H := ⟨σ.t, n, σ.low⟩
def withLow (σ : H) (n : Nat) : H := ⟨σ.t, σ.next, n⟩

theorem get_put (σ : H) (L K : Nat) (o : AObj) : (σ.put L o).get K = if K = L then some o else σ.get K := by
  unfold get put; rw [Trie.get_set]; split <;> rfl
theorem get_kill (σ : H) (L K : Nat) : (σ.kill L).get K = if K = L then none else σ.get K := by
  unfold get kill; rw [Trie.get_set]; split <;> rfl
theorem get_new (σ : H) (K : Nat) (o : AObj) : (σ.new o).get K = if K = σ.next then some o else σ.get K := by
  unfold get new; rw [Trie.get_set]; split <;> rfl
@[simp] theorem next_put (σ : H) (L : Nat) (o : AObj) : (σ.put L o).next = σ.next := rfl
@[simp] theorem next_kill (σ : H) (L : Nat) : (σ.kill L).next = σ.next := rfl
@[simp] theorem next_new (σ : H) (o : AObj) : (σ.new o).next = σ.next + 1 := rfl
@[simp] theorem get_skipTo (σ : H) (n K : Nat) : (σ.skipTo n).get K = σ.get K := rfl
@[simp] theorem next_skipTo (σ : H) (n : Nat) : (σ.skipTo n).next = n := rfl
@[simp] theorem get_withLow (σ : H) (n K : Nat) : (σ.withLow n).get K = σ.get K := rfl
@[simp] theorem next_withLow (σ : H) (n : Nat) : (σ.withLow n).next = σ.next := rfl
end H

/-- No address is in it. -/
def plain0 : Value → Bool
  | .bool _ | .int .. | .string _ | .pointer none | .slice none _ _ | .map none | .nilFunc | .nilIface => true
  | _ => false
def plainV : Value → Bool
  | .agg cs => cs.toList.all plain0
  | .tuple cs => cs.toList.all plain0
  | v => plain0 v
def plainZ : Value → Bool
  | .tuple _ => false
  | v => plainV v
def plain2 : Value → Bool
  | .tuple cs => cs.toList.all plainV
  | v => plainV v

/-- The address of slices of capacity 0 that are known as such. -/
def zb : Nat := 4294967296
/-- A value of which nothing is known. -/
def junk : Value := .complex .f32 0 0
/-- The most elements that an append or a make may ask for. -/
def lim : Nat := 16777216

def setMany : List Value → Nat → List Value → List Value
  | cs, _, [] => cs
  | cs, off, v :: vs => setMany (cs.set off v) (off + 1) vs

def takeAt (cs : List Value) (off n : Nat) : Option (List Value) :=
  let r := (cs.drop off).take n
  bif Nat.beq r.length n then some r else none

def H.read (σ : H) (a : Addr) (n : Nat) : Option (List Value) :=
  match σ.get a.block with
  | some (.row cs _ _) => takeAt cs a.off n
  | _ => none

def H.write (σ : H) (a : Addr) (vs : List Value) : Option H :=
  match σ.get a.block with
  | some (.row cs opn false) => bif Nat.ble (a.off + vs.length) cs.length then some (σ.put a.block (.row (setMany cs a.off vs) opn false)) else none
  | _ => none

def cellsOf : Value → List Value
  | .agg cs => cs.toList
  | .tuple _ => []
  | v => [v]

def fillA : List Value → List (Nat × Nat × Value) → Option (List Value)
  | cs, [] => some cs
  | cs, (off, size, v) :: rest =>
    let vs := cellsOf v
    bif Nat.beq vs.length size && Nat.ble (off + size) cs.length then fillA (setMany cs off vs) rest else none

def repeatL (zero : List Value) : Nat → List Value
  | 0 => []
  | n + 1 => zero ++ repeatL zero n

def ev (tm : Tm) : Operand → Value
  | .tmp t => tm.g t
  | .const v => v
  | .global g => .pointer (some ⟨g, 0, none⟩)
  | .func f => .func (.func f) #[] #[]

/-- Less, by the numbers' shape: so that what is known of a number in part decides it. -/
def ltI : Int → Int → Bool
  | .ofNat a, .ofNat b => Nat.blt a b
  | .negSucc _, .ofNat _ => true
  | .ofNat _, .negSucc _ => false
  | .negSucc a, .negSucc b => Nat.blt b a

theorem ltI_eq (a b : Int) : ltI a b = decide (a < b) := by
  cases a <;> cases b <;> rw [Bool.eq_iff_iff, decide_eq_true_eq] <;> simp only [ltI, Nat.blt, Nat.ble_eq, Bool.false_eq_true, false_iff, true_iff, Int.ofNat_eq_natCast] <;> omega

theorem not_ltI (a b : Int) : (!ltI b a) = decide (a ≤ b) := by
  rw [ltI_eq, Bool.eq_iff_iff]; simp

def binInt (op : BinOp) (k : IntKind) (a b : Int) : Option Value :=
  match op with
  | .add => some (.int k (k.wrap (a + b)))
  | .sub => some (.int k (k.wrap (a - b)))
  | .mul => some (.int k (k.wrap (a * b)))
  | .quo => if b = 0 then none else some (.int k (k.wrap (a.tdiv b)))
  | .rem => if b = 0 then none else some (.int k (a.tmod b))
  | .and => some (.int k (k.wrap (BitVec.ofInt k.bits a &&& BitVec.ofInt k.bits b).toNat))
  | .or => some (.int k (k.wrap (BitVec.ofInt k.bits a ||| BitVec.ofInt k.bits b).toNat))
  | .xor => some (.int k (k.wrap (BitVec.ofInt k.bits a ^^^ BitVec.ofInt k.bits b).toNat))
  | .andNot => some (.int k (k.wrap (BitVec.ofInt k.bits a &&& ~~~(BitVec.ofInt k.bits b)).toNat))
  | .eql => some (.bool (a == b))
  | .neq => some (.bool (a != b))
  | .lss => some (.bool (ltI a b))
  | .leq => some (.bool (!ltI b a))
  | .gtr => some (.bool (ltI b a))
  | .geq => some (.bool (!ltI a b))
  | _ => none

def binShift (op : BinOp) (k : IntKind) (a b : Int) : Option Value :=
  if b < 0 then none else
    let n := min b.toNat k.bits
    match op with
    | .shl => some (.int k (k.wrap (a * 2 ^ n)))
    | .shr => some (.int k (a.fdiv (2 ^ n)))
    | _ => none

def eqBytes : List UInt8 → List UInt8 → Bool
  | [], [] => true
  | a :: x, b :: y => bif Nat.beq a.toNat b.toNat then eqBytes x y else false
  | _, _ => false

def binStr (op : BinOp) (x y : ByteArray) : Option Value :=
  match op with
  | .add => bif Nat.ble (x.size + y.size) 9223372036854775807 then some (.string ⟨⟨x.data.toList ++ y.data.toList⟩⟩) else none
  | .eql => some (.bool (eqBytes x.data.toList y.data.toList))
  | .neq => some (.bool (!eqBytes x.data.toList y.data.toList))
  | _ => none

def leafEq : LK → Value → Value → Option Bool
  | .bool, .bool a, .bool b => some (a == b)
  | .int, .int k a, .int l b => if k = l then some (a == b) else none
  | .string, .string a, .string b => some (eqBytes a.data.toList b.data.toList)
  | _, _, _ => none

def flatEq : List LK → List Value → List Value → Option Bool
  | [], [], [] => some true
  | k :: ks, x :: xs, y :: ys =>
    match leafEq k x y, flatEq ks xs ys with
    | some a, some b => some (a && b)
    | _, _ => none
  | _, _, _ => none

def nilEq : NK → Value → Value → Option Bool
  | .ptr, .pointer none, .pointer b => some b.isNone
  | .ptr, .pointer (some _), .pointer none => some false
  | .ptr, .pointer (some a), .pointer (some b) => bif Nat.beq a.block b.block && Nat.beq a.off b.off then some true else none
  | .sl, .slice none _ _, .slice b _ _ => some b.isNone
  | .sl, .slice (some _) _ _, .slice none _ _ => some false
  | .mp, .map none, .map b => some b.isNone
  | .mp, .map (some _), .map none => some false
  | .fn, .nilFunc, .nilFunc => some true
  | .fn, .nilFunc, .func _ _ _ | .fn, .func _ _ _, .nilFunc => some false
  | .ifc, .nilIface, .nilIface => some true
  | .ifc, .nilIface, .iface _ _ | .ifc, .iface _ _, .nilIface => some false
  | _, _, _ => none

def aeq : EK → Value → Value → Option Bool
  | .leaf k, x, y => leafEq k x y
  | .nilable k, x, y => nilEq k x y
  | .flat ks, .agg xs, .agg ys => flatEq ks xs.toList ys.toList
  | _, _, _ => none

def aeqG (ek : EK) (kc : Bool) (x y : Value) : Option Bool :=
  match x, kc with
  | .nilIface, false => none
  | _, _ => aeq ek x y

def abinS (op : BinOp) (x y : Value) : Option Value :=
  match x, y with
  | .int k a, .int _ b => binShift op k a b
  | _, _ => none

def abinO (op : BinOp) (x y : Value) : Option Value :=
  match x, y with
  | .int k a, .int l b => if k = l then binInt op k a b else none
  | .string a, .string b => binStr op a b
  | _, _ => none

def abin (op : BinOp) (ek : EK) (kc : Bool) (x y : Value) : Option Value :=
  match op with
  | .eql => (aeqG ek kc x y).map .bool
  | .neq => (aeqG ek kc x y).map fun b => .bool !b
  | .shl | .shr => abinS op x y
  | _ => abinO op x y

def aun (op : UnOp) (x : Value) : Option Value :=
  match op, x with
  | .not, .bool b => some (.bool !b)
  | .neg, .int k n => some (.int k (k.wrap (0 - n)))
  | .xor, .int k n => binInt .xor k (if k.signed then -1 else k.max) n
  | _, _ => none

def spotOk (s : Option Nat) (esz : Nat) : Bool := match s with
  | none => true
  | some e => Nat.beq e esz

def optNat (v : Option Value) (d : Nat) : Option Nat := match v with
  | none => some d
  | some (.int _ i) => if 0 ≤ i then some i.toNat else none
  | _ => none

def aslice (k : SlK) (x : Value) (lo hi mx : Option Value) : Option Value :=
  match k, x with
  | .str, .string s =>
    match mx, optNat lo 0, optNat hi s.size with
    | none, some l, some h => bif Nat.ble l h && Nat.ble h s.size then some (.string ⟨⟨(s.data.toList.drop l).take (h - l)⟩⟩) else none
    | _, _, _ => none
  | .sl esz, .slice a len cap =>
    match optNat lo 0, optNat hi len, optNat mx cap with
    | some l, some h, some m =>
      bif Nat.ble l h && (Nat.ble h m && Nat.ble m cap) && (mx.isNone || hi.isSome) then
        match a with
        | none => some (.slice none (h - l) (m - l))
        | some a => bif mx.isSome && Nat.beq m l then some (.slice (some ⟨zb, 0, none⟩) (h - l) (m - l)) else
          bif spotOk a.spot esz then some (.slice (some ⟨a.block, a.off + l * esz, a.spot⟩) (h - l) (m - l)) else none
      else none
    | _, _, _ => none
  | _, _ => none

def addOff (a : Addr) (n : Nat) : Addr := ⟨a.block, a.off + n, a.spot⟩

def amaxStep (mx : Bool) (acc : Option Value) (y : Value) : Option Value := match acc, y with
  | some (.int k a), .int l b => if k = l then some (.int k (if mx then (if b > a then b else a) else (if b < a then b else a))) else none
  | _, _ => none

def amax (mx : Bool) : List Value → Option Value
  | [] => none
  | [_] => none
  | x :: rest => rest.foldl (amaxStep mx) (some x)

/-- What touches no memory. -/
def apure (tm : Tm) : AOp → Option Value
  | .mv x => some (ev tm x)
  | .pick c a b => match ev tm c with
    | .bool t => some (bif t then ev tm a else ev tm b)
    | _ => none
  | .build zero parts => (fillA zero (parts.map fun p => (p.1, p.2.1, ev tm p.2.2))).map fun cs => .agg ⟨cs⟩
  | .nilCheck x => match ev tm x with
    | .pointer (some a) => some (.pointer (some a))
    | .func (.func f) a b => some (.func (.func f) a b)
    | .func (.yield l) a b => some (.func (.yield l) a b)
    | .iface t v => some (.iface t v)
    | _ => none
  | .bin op ek kc x y => abin op ek kc (ev tm x) (ev tm y)
  | .un op x => aun op (ev tm x)
  | .conv k x => match k, ev tm x with
    | .int k, .int _ n => some (.int k (k.wrap n))
    | .same, .string s => some (.string s)
    | .i2s, .int _ n => some (.string (Utf8.encode n))
    | _, _ => none
  | .mkIface t x => some (.iface t (ev tm x))
  | .mkFunc fn first captured => some (.func fn ⟨first.map (ev tm)⟩ ⟨captured.map (ev tm)⟩)
  | .slc k x lo hi mx => aslice k (ev tm x) (lo.map (ev tm)) (hi.map (ev tm)) (mx.map (ev tm))
  | .fieldAddr off x => match ev tm x with
    | .pointer (some a) => some (.pointer (some (addOff a off)))
    | _ => none
  | .field off agg x => match ev tm x with
    | .agg cs => match agg with
      | some n => some (.agg ⟨(cs.toList.drop off).take n⟩)
      | none => cs.toList[off]?
    | _ => none
  | .idxAddrArr len esz x i => match ev tm x, ev tm i with
    | .pointer (some a), .int _ i => if 0 ≤ i ∧ i < len then some (.pointer (some (addOff a (i.toNat * esz)))) else none
    | _, _ => none
  | .idxAddrSl esz x i => match ev tm x, ev tm i with
    | .slice (some a) len _, .int _ i => if 0 ≤ i ∧ i < len then some (.pointer (some ⟨a.block, a.off + i.toNat * esz, none⟩)) else none
    | _, _ => none
  | .idxArr len esz agg x i => match ev tm x, ev tm i with
    | .agg cs, .int _ i => if 0 ≤ i ∧ i < len then (bif agg then some (.agg ⟨(cs.toList.drop (i.toNat * esz)).take esz⟩) else cs.toList[i.toNat * esz]?) else none
    | _, _ => none
  | .idxStr x i => match ev tm x, ev tm i with
    | .string s, .int _ i => if 0 ≤ i then (s.data.toList[i.toNat]?).map fun b => .int .u8 b.toNat else none
    | _, _ => none
  | .extract x i => match ev tm x with
    | .tuple vs => vs.toList[i]?
    | _ => none
  | .lenOf k x => match k, ev tm x with
    | .str, .string s => some (.int .i64 s.data.toList.length)
    | .sl, .slice _ n _ => some (.int .i64 n)
    | .arr n, _ => some (.int .i64 n)
    | .mp, .map none => some (.int .i64 0)
    | _, _ => none
  | .minmax mx xs => amax mx (xs.map (ev tm))
  | .tassert t zero ok x => match ev tm x with
    | .iface u v => bif Nat.beq u t then some (bif ok then .tuple #[v, .bool true] else v) else (bif ok then some (.tuple #[zero, .bool false]) else none)
    | .nilIface => bif ok then some (.tuple #[zero, .bool false]) else none
    | _ => none
  | _ => none

def findEntry (ek : EK) (k : Value) : List (Value × Value × Nat) → Nat → Option (Option (Nat × Value × Nat))
  | [], _ => some none
  | e :: es, i => match aeq ek k e.1 with
    | some true => some (some (i, e.2))
    | some false => findEntry ek k es (i + 1)
    | none => none

def findKeyA (ek : EK) (k : Value) (es : List (Value × Value × Nat)) : Option (Option (Nat × Value × Nat)) :=
  match aeq ek k k with
  | some _ => findEntry ek k es 0
  | none => none

def b2sL : List Value → Option (List UInt8)
  | [] => some []
  | .int .u8 n :: r => (b2sL r).map (UInt8.ofNat n.toNat :: ·)
  | _ => none

def r2sL : List Value → Option (List UInt8)
  | [] => some []
  | .int .i32 n :: r => (r2sL r).map ((Utf8.encode n).data.toList ++ ·)
  | _ => none

/-- What only reads memory. -/
def aread (σ : H) (tm : Tm) : AOp → Option Value
  | .load agg x => match ev tm x with
    | .pointer (some a) => match agg with
      | some n => (σ.read a n).map fun cs => .agg ⟨cs⟩
      | none => match σ.get a.block with
        | some (.row cs _ _) => cs[a.off]?
        | _ => none
    | _ => none
  | .lookup ek zero ok m i => match ev tm m with
    | .map none => match aeq ek (ev tm i) (ev tm i) with
      | some _ => some (bif ok then .tuple #[zero, .bool false] else zero)
      | none => none
    | .map (some L) => match σ.get L with
      | some (.map es _) => match findKeyA ek (ev tm i) es with
        | some (some e) => some (bif ok then .tuple #[e.2.1, .bool true] else e.2.1)
        | some none => some (bif ok then .tuple #[zero, .bool false] else zero)
        | none => none
      | _ => none
    | _ => none
  | .lenMap x => match ev tm x with
    | .map none => some (.int .i64 0)
    | .map (some L) => match σ.get L with
      | some (.map es _) => some (.int .i64 es.length)
      | _ => none
    | _ => none
  | .entry x => match ev tm x with
    | .pointer (some ⟨L, 0, none⟩) => match σ.get L with
      | some (.iter (some M) _ seen last) => match σ.get M, seen.getLast? with
        | some (.map es clock), some stamp => bif Nat.beq clock last then
            match es.find? (fun e => Nat.beq e.2.2 stamp) with
            | some e => some (.tuple #[e.1, e.2.1])
            | none => none
          else none
        | _, _ => none
      | _ => none
    | _ => none
  | .rd2s k x => match ev tm x with
    | .slice none _ _ => some (.string ⟨⟨[]⟩⟩)
    | .slice (some a) len _ => match σ.read a len with
      | some cs => match k with
        | .b2s => (b2sL cs).map fun l => .string ⟨⟨l⟩⟩
        | .r2s => (r2sL cs).map fun l => .string ⟨⟨l⟩⟩
        | _ => none
      | none => none
    | _ => none
  | _ => none

/-- New memory: the block, and the value that names it, given the block's number. -/
def anew (tm : Tm) (L : Nat) : AOp → Option (AObj × Value)
  | .alloc zero => some (.row zero false false, .pointer (some ⟨L, 0, none⟩))
  | .box x => some (.row (cellsOf (ev tm x)) false false, .pointer (some ⟨L, 0, none⟩))
  | .buildSlice zero len parts => (fillA (repeatL zero len) (parts.map fun p => (p.1, p.2.1, ev tm p.2.2))).map fun cs => (.row cs false false, .slice (some ⟨L, 0, none⟩) len len)
  | .mkMap => some (.map [] 0, .map (some L))
  | .mkSlice zero l c => match ev tm l, ev tm c with
    | .int _ l, .int _ c => if 0 ≤ l ∧ l ≤ c ∧ c ≤ lim then some (.row (repeatL zero c.toNat) false false, .slice (some ⟨L, 0, none⟩) l.toNat c.toNat) else none
    | _, _ => none
  | .s2sl k x => match k, ev tm x with
    | .s2b, .string s => let l := s.data.toList; bif Nat.ble l.length lim then some (.row (l.map fun b => .int .u8 b.toNat) true false, .slice (some ⟨L, 0, some 1⟩) l.length l.length) else none
    | .s2r, .string s => let l := (Conv.runesFrom s s.size 0 #[]).toList; bif Nat.ble s.size lim then some (.row l true false, .slice (some ⟨L, 0, some 1⟩) l.length l.length) else none
    | _, _ => none
  | _ => none

/-- Outcomes: none: the abstract run fails; a list: what may come of it. -/
abbrev Outs (α : Type) := Option (List α)

def bindAll {α β : Type} : List α → (α → Outs β) → Outs β
  | [], _ => some []
  | [a], f => f a
  | a :: b :: rest, f => match f a, bindAll (b :: rest) f with
    | some x, some y => some (x ++ y)
    | _, _ => none

def Outs.bnd {α β : Type} (x : Outs α) (f : α → Outs β) : Outs β := match x with
  | none => none
  | some l => bindAll l f

/-- What an append puts behind: the cells of a slice or a string, and how many elements. -/
def srcCells (σ : H) (esz : Nat) : Value → Option (List Value × Nat)
  | .slice none n _ => bif Nat.beq n 0 then some ([], 0) else none
  | .slice (some a) n _ => bif Nat.beq n 0 then some ([], 0) else (σ.read a (n * esz)).map fun cs => (cs, n)
  | .string s => bif Nat.beq esz 1 then some (s.data.toList.map fun b => .int .u8 b.toNat, s.data.toList.length) else none
  | _ => none

def mkSrc (zero : List Value) : Value → Option (List Value × Nat)
  | .int _ l => if 0 ≤ l ∧ l ≤ lim then some (repeatL zero l.toNat, l.toNat) else none
  | _ => none

def aappend (σ : H) (esz : Nat) (zero : List Value) (mk : Bool) (s x : Value) : Option (Value × H) :=
  match (bif mk then mkSrc zero x else srcCells σ esz x), s with
  | some (new, n), .slice base len cap =>
    let need := len + n
    bif Nat.ble need cap then
      match base with
      | none => some (.slice none need cap, σ)
      | some a => match new with
        | [] => some (.slice base need cap, σ)
        | _ => match σ.write ⟨a.block, a.off + len * esz, none⟩ new with
          | some σ' => some (.slice base need cap, σ')
          | none => none
    else bif Nat.ble need lim then
      match base with
      | none => bif Nat.beq len 0 then some (.slice (some ⟨σ.next, 0, some esz⟩) need need, σ.new (.row new true false)) else none
      | some a => bif Nat.beq a.block zb && (Nat.beq len 0 && a.spot.isNone) then some (.slice (some ⟨σ.next, 0, some esz⟩) need need, σ.new (.row new true false)) else
        match σ.get a.block with
        | some (.row cs opn _) =>
          match takeAt cs a.off (len * esz) with
          | some old => match opn, a.spot with
            | false, none => some (.slice (some ⟨σ.next, 0, some esz⟩) need need, σ.new (.row (old ++ new) true false))
            | true, some e => bif Nat.beq e esz then some (.slice (some ⟨σ.next, 0, some esz⟩) need need, (σ.new (.row (old ++ new) true false)).kill a.block) else none
            | _, _ => none
          | none => none
        | _ => none
    else none
  | _, _ => none

/-- What acts on memory, without code of its own. -/
def aact (σ : H) (tm : Tm) : AOp → Outs (Value × H)
  | .store size a v => match ev tm a with
    | .pointer (some a) =>
      let vs := cellsOf (ev tm v)
      bif Nat.beq vs.length size then (σ.write a vs).map fun σ' => [(undef, σ')] else none
    | _ => none
  | .mapUp ek m k v => match ev tm m with
    | .map (some L) => match σ.get L with
      | some (.map es clock) => match findKeyA ek (ev tm k) es with
        | some (some e) => some [(undef, σ.put L (.map (es.set e.1 (ev tm k, ev tm v, e.2.2)) clock))]
        | some none => some [(undef, σ.put L (.map (es ++ [(ev tm k, ev tm v, clock)]) (clock + 1)))]
        | none => none
      | _ => none
    | _ => none
  | .range str x => match str, ev tm x with
    | false, .map none => some [(.pointer (some ⟨σ.next, 0, none⟩), σ.new (.iter none 0 [] 0))]
    | false, .map (some L) => match σ.get L with
      | some (.map _ clock) => some [(.pointer (some ⟨σ.next, 0, none⟩), σ.new (.iter (some L) clock [] clock))]
      | _ => none
    | true, .string s => some [(.pointer (some ⟨σ.next, 0, none⟩), σ.new (.sit s 0))]
    | _, _ => none
  | .next str x => match ev tm x with
    | .pointer (some ⟨L, 0, none⟩) => match str, σ.get L with
      | true, some (.sit s pos) => bif Nat.blt pos s.size then
          let d := Utf8.decode s pos
          some [(.tuple #[.bool true, .int .i64 pos, .int .i32 d.1], σ.put L (.sit s (pos + d.2)))]
        else some [(.tuple #[.bool false], σ)]
      | false, some (.iter none _ _ _) => some [(.tuple #[.bool false], σ)]
      | false, some (.iter (some M) since seen last) => match σ.get M with
        | some (.map es clock) =>
          bif !seen.isEmpty && (!es.isEmpty && es.all fun e => Nat.ble last e.2.2) then none else
          let left := es.filter fun e => !seen.any fun b => Nat.beq b e.2.2
          let old := left.filter fun e => Nat.blt e.2.2 since
          let new := left.filter fun e => Nat.ble since e.2.2
          some ((bif old.isEmpty then [(.tuple #[.bool false], σ)] else []) ++
            (old ++ new).map fun e => (.tuple #[.bool true, e.1, e.2.1], σ.put L (.iter (some M) since (seen ++ [e.2.2]) clock)))
        | _ => none
      | _, _ => none
    | _ => none
  | .append esz zero mk s x => (aappend σ esz zero mk (ev tm s) (ev tm x)).map fun r => [r]
  | .copy esz d s => match ev tm d, ev tm s with
    | .slice base dlen _, src =>
      let n := match src with | .slice _ n _ => some n | .string s => some s.data.toList.length | _ => none
      match n with
      | none => none
      | some n =>
        let m := Nat.min n dlen
        bif Nat.beq m 0 then some [(.int .i64 0, σ)] else
        let cells := match src with
          | .slice (some a) _ _ => σ.read a (m * esz)
          | .string s => bif Nat.beq esz 1 then some ((s.data.toList.take m).map fun b => .int .u8 b.toNat) else none
          | _ => none
        match cells, base with
        | some cs, some a => (σ.write a cs).map fun σ' => [(.int .i64 m, σ')]
        | _, _ => none
    | _, _ => none
  | .clearSl zero x => match ev tm x with
    | .slice _ 0 _ => some [(.tuple #[], σ)]
    | .slice (some a) n _ => (σ.write a (repeatL zero n)).map fun σ' => [(.tuple #[], σ')]
    | _ => none
  | .clearMp x => match ev tm x with
    | .map none => some [(.tuple #[], σ)]
    | .map (some L) => match σ.get L with
      | some (.map _ clock) => some [(.tuple #[], σ.put L (.map [] clock))]
      | _ => none
    | _ => none
  | .delete ek m k => match ev tm m with
    | .map none => match aeq ek (ev tm k) (ev tm k) with
      | some _ => some [(.tuple #[], σ)]
      | none => none
    | .map (some L) => match σ.get L with
      | some (.map es clock) => match findKeyA ek (ev tm k) es with
        | some (some e) => some [(.tuple #[], σ.put L (.map (es.eraseIdx e.1) clock))]
        | some none => some [(.tuple #[], σ.put L (.map es clock))]
        | none => none
      | _ => none
    | _ => none
  | _ => none

end Go.AM

/-
  The abstract machine's run.
-/
namespace Go.AM

inductive AX where
  | nrm | ext (id : Nat) | gto (l : Nat) | ret
  deriving Inhabited

structure St where
  tm : Tm
  ds : List Nat
  rnd : Option Nat
  h : H

inductive ARes where
  | tmp (t : Tmp)
  | cell (t : Tmp) (agg : Option Nat)
  deriving Inhabited

structure AFunc where
  ntmps : Nat
  res : List ARes
  body : ACode
  deriving Inhabited

/-- What is known of the functions: the code of some, a summary of some. -/
structure Env where
  fn : Nat → Option AFunc
  sum : Nat → Option (List Value → H → Outs (Value × H))

structure Rec where
  code : ACode → St → Outs (AX × St)
  call : Value → List Value → H → Outs (Value × H)

def putDst (tm : Tm) (dst : Option Tmp) (v : Value) : Tm := match dst with
  | none => tm
  | some d => Trie.set tm d v

def wantedA (tm : Tm) : Option (Option Tmp × Bool) → Option Bool
  | none => some true
  | some (none, _) => some false
  | some (some t, w) => match tm.g t with
    | .bool b => some (bif b then w else !w)
    | .tuple _ => some false
    | _ => none

/-- An operation that is carried out, without the store of its result. -/
def opA (R : Rec) (op : AOp) (tm : Tm) (h : H) : Outs (Value × H) :=
  match op.cls with
  | .pure => (apure tm op).map fun v => [(v, h)]
  | .read => (aread h tm op).map fun v => [(v, h)]
  | .alloc => (anew tm h.next op).map fun r => [(r.2, h.new r.1)]
  | .act => match op with
    | .call f args => R.call (ev tm f) (args.map (ev tm)) h
    | op => aact h tm op

def stepA (R : Rec) (o : AOper) (st : St) : Outs St :=
  match wantedA st.tm o.guard with
  | some true => Outs.bnd (opA R o.op st.tm st.h) fun r => some [{ st with tm := putDst st.tm o.dst r.1, h := r.2 }]
  | some false => some [{ st with tm := putDst st.tm o.dst undef }]
  | none => none

def opsA (R : Rec) : List AOper → St → Outs St
  | [], st => some [st]
  | o :: os, st => Outs.bnd (stepA R o st) (opsA R os)

/-! ### Equality of values, as a bool -/
def veq0 : Value → Value → Bool
  | .bool a, .bool b => a == b
  | .int k a, .int l b => decide (k = l) && a == b
  | .string a, .string b => eqBytes a.data.toList b.data.toList
  | .pointer none, .pointer none => true
  | .pointer (some a), .pointer (some b) => decide (a = b)
  | .slice none n c, .slice none m d => Nat.beq n m && Nat.beq c d
  | .slice (some a) n c, .slice (some b) m d => decide (a = b) && (Nat.beq n m && Nat.beq c d)
  | .map none, .map none => true
  | .map (some a), .map (some b) => Nat.beq a b
  | .nilFunc, .nilFunc => true
  | .nilIface, .nilIface => true
  | _, _ => false

def veqL (f : Value → Value → Bool) : List Value → List Value → Bool
  | [], [] => true
  | a :: x, b :: y => f a b && veqL f x y
  | _, _ => false

def veq1 : Value → Value → Bool
  | .agg x, .agg y => veqL veq0 x.toList y.toList
  | .func f a b, .func g c d => decide (f = g) && (veqL veq0 a.toList c.toList && veqL veq0 b.toList d.toList)
  | .iface t v, .iface u w => Nat.beq t u && veq0 v w
  | x, y => veq0 x y

def veq : Value → Value → Bool
  | .agg x, .agg y => veqL veq1 x.toList y.toList
  | .tuple x, .tuple y => veqL veq1 x.toList y.toList
  | x, y => veq1 x y

/-! ### A region that draws its order -/
def killAll (h : H) (base : Nat) : List Nat → H
  | [] => h
  | i :: r => killAll (h.kill (base + i)) base r

def giveBack (old : H) (h : H) (base : Nat) : List Nat → H
  | [] => h
  | i :: r => match old.get (base + i) with
    | some o => giveBack old (h.put (base + i) o) base r
    | none => giveBack old h base r

structure DrawSt where
  st : St
  /-- the memory at the beginning, and right behind each act so far, the last one first -/
  hist : List H
  /-- what was read: the slots, the operation, the value, the acts behind which it reads the same -/
  reads : List (Tm × AOp × Value × List Nat)

def one {α : Type} : Outs α → Option α
  | some [a] => some a
  | _ => none

def drawStep (R : Rec) (base i : Nat) (o : AOper) (c : Chk) (d : DrawSt) : Option DrawSt :=
  let st := d.st
  match wantedA st.tm o.guard with
  | some true =>
    match o.op.cls with
    | .pure => (apure st.tm o.op).map fun v => { d with st := { st with tm := putDst st.tm o.dst v } }
    | .read => (aread (killAll st.h base c.hide) st.tm o.op).map fun v =>
        { d with st := { st with tm := putDst st.tm o.dst v }, reads := (st.tm, o.op, v, c.again) :: d.reads }
    | .alloc => (anew st.tm (base + i) o.op).map fun r => { d with st := { st with tm := putDst st.tm o.dst r.2, h := st.h.put (base + i) r.1 } }
    | .act => (one (opA R o.op st.tm (killAll st.h base c.hide))).map fun r =>
        { d with st := { st with tm := putDst st.tm o.dst r.1, h := giveBack st.h r.2 base c.hide }, hist := r.2 :: d.hist }
  | some false =>
    match o.op.cls with
    | .act => some { d with st := { st with tm := putDst st.tm o.dst undef, h := giveBack st.h (killAll st.h base c.hide) base c.hide }, hist := killAll st.h base c.hide :: d.hist }
    | _ => some { d with st := { st with tm := putDst st.tm o.dst undef } }
  | none => none

def drawOps (R : Rec) (base : Nat) : Nat → List AOper → List Chk → DrawSt → Option DrawSt
  | _, [], _, d => some d
  | i, o :: os, c :: cs, d => match drawStep R base i o c d with
    | some d' => drawOps R base (i + 1) os cs d'
    | none => none
  | _, _ :: _, [], _ => none

def getH : List H → Nat → Option H
  | [], _ => none
  | h :: _, 0 => some h
  | _ :: r, n + 1 => getH r n

def againOk (hist : List H) : List (Tm × AOp × Value × List Nat) → Bool
  | [] => true
  | (tm, op, v, js) :: r =>
    (js.all fun j => match getH hist j with
      | some h => match aread h tm op with
        | some u => veq u v
        | none => false
      | none => false) && againOk hist r

def drawA (R : Rec) (ops : List AOper) (chk : List Chk) (st : St) : Option St :=
  match drawOps R st.h.next 0 ops chk ⟨{ st with h := st.h.skipTo (st.h.next + ops.length) }, [st.h.skipTo (st.h.next + ops.length)], []⟩ with
  | some d => bif againOk d.hist.reverse d.reads then some d.st else none
  | none => none

/-! ### Code -/
def findLabelA : ACode → Nat → Option ACode
  | .seq a b, l => match findLabelA a l with
    | some rest => some (.seq rest b)
    | none => findLabelA b l
  | .label l', l => bif Nat.beq l' l then some .skip else none
  | _, _ => none

def jumpX : AJump → AX
  | .ret => .ret
  | .exit id => .ext id
  | .goto l => .gto l

def xJump : AX → Option AJump
  | .nrm => none
  | .ret => some .ret
  | .ext id => some (.exit id)
  | .gto l => some (.goto l)

/-- A loop over a function's yields begins: its number, the marks, the memory. -/
def enterA (st : St) (ps : List Tmp) (asg body : ACode) : Option (Nat × List Nat × H) :=
  match st.rnd with
  | none => some (st.h.next + 1, st.h.next :: st.ds, (st.h.new (.dfd false)).new (.loop .ready none st.tm ps asg body st.h.next))
  | some l0 => match st.h.get l0 with
    | some (.loop _ _ _ _ _ _ dfs) => some (st.h.next, st.ds, st.h.new (.loop .ready none st.tm ps asg body dfs))
    | _ => none

def codeF (R : Rec) (c : ACode) (st : St) : Outs (AX × St) :=
  match c with
  | .skip => some [(.nrm, st)]
  | .label _ => some [(.nrm, st)]
  | .region ops => Outs.bnd (opsA R ops st) fun s => some [(.nrm, s)]
  | .draw ops chk => (drawA R ops chk st).map fun s => [(.nrm, s)]
  | .seq a b => Outs.bnd (R.code a st) fun r => match r.1 with
    | .nrm => R.code b r.2
    | x => some [(x, r.2)]
  | .cond o a b => match ev st.tm o with
    | .bool t => R.code (bif t then a else b) st
    | _ => none
  | .block id b => Outs.bnd (R.code b st) fun r => match r.1 with
    | .ext j => bif Nat.beq j id then some [(.nrm, r.2)] else some [(.ext j, r.2)]
    | x => some [(x, r.2)]
  | .loop b => Outs.bnd (R.code b st) fun r => match r.1 with
    | .nrm => R.code (.loop b) r.2
    | x => some [(x, r.2)]
  | .rangeFunc f ps asg body => match enterA st ps asg body with
    | none => none
    | some (l, ds, h) => Outs.bnd (R.call (ev st.tm f) [.func (.yield l) #[] #[]] h) fun r => match r.2.get l with
      | some (.loop s pend tm ps asg body dfs) => match s with
        | .busy => none
        | _ => some [(match pend with | none => .nrm | some j => jumpX j, { st with ds := ds, h := r.2.put l (.loop .exhausted pend tm ps asg body dfs) })]
      | _ => none
  | .exit id => some [(.ext id, st)]
  | .goto l => some [(.gto l, st)]
  | .ret => some [(.ret, st)]
  | .scope body cur => Outs.bnd (R.code cur st) fun r => match r.1 with
    | .gto l => match findLabelA body l with
      | some rest => R.code (.scope body rest) r.2
      | none => some [(.gto l, r.2)]
    | x => some [(x, r.2)]
  | .refuse => none

def argTm : Nat → List Value → Tm → Tm
  | _, [], tm => tm
  | i, v :: vs, tm => argTm (i + 1) vs (Trie.set tm i v)

def setTms : List Tmp → List Value → Tm → Option Tm
  | [], [], tm => some tm
  | t :: ts, v :: vs, tm => setTms ts vs (Trie.set tm t v)
  | _, _, _ => none

def takeMarks : List Nat → H → Option H
  | [], h => some h
  | d :: ds, h => match h.get d with
    | some (.dfd false) => takeMarks ds (h.put d (.dfd true))
    | _ => none

def resOne (tm : Tm) (h : H) : ARes → Option Value
  | .tmp t => some (tm.g t)
  | .cell t agg => aread h tm (.load agg (.tmp t))

def resAll (tm : Tm) (h : H) : List ARes → Option (List Value)
  | [] => some []
  | r :: rs => match resOne tm h r, resAll tm h rs with
    | some v, some vs => some (v :: vs)
    | _, _ => none

def pack : List Value → Value
  | [v] => v
  | vs => .tuple ⟨vs⟩

/-! ### What a call leaves behind that only it could see is dropped -/
inductive NOut where
  | pl (v : Value)
  | sl (cs : List Value) (opn : Bool) (sp : Option Nat) (n c : Nat)
  | raw (v : Value) (h : H)

def normOut (h0 : H) (r : Value × H) : NOut :=
  bif Nat.ble h0.next r.2.low then
    bif plain2 r.1 then .pl r.1 else
    match r.1 with
    | .slice (some ⟨L, 0, sp⟩) n c => bif Nat.ble h0.next L then
        match r.2.get L with
        | some (.row cs opn false) => bif cs.all plain0 then .sl cs opn sp n c else .raw r.1 r.2
        | _ => .raw r.1 r.2
      else .raw r.1 r.2
    | _ => .raw r.1 r.2
  else .raw r.1 r.2

def eqOut : NOut → NOut → Bool
  | .pl v, .pl u => veq v u
  | .sl cs opn sp n c, .sl ds opm sq m d => veqL veq0 cs ds && ((opn == opm) && (decide (sp = sq) && (Nat.beq n m && Nat.beq c d)))
  | _, _ => false

def dedup : List NOut → List NOut → List NOut
  | acc, [] => acc.reverse
  | acc, o :: os => bif acc.any (eqOut o) then dedup acc os else dedup (o :: acc) os

def outOf (h0 : H) : NOut → Value × H
  | .pl v => (v, h0)
  | .sl cs opn sp n c => (.slice (some ⟨h0.next, 0, sp⟩) n c, h0.new (.row cs opn false))
  | .raw v h => (v, h.withLow (minN h0.low h.low))

def big : Nat := 18446744073709551616

def normAll (h0 : H) (l : List (Value × H)) : List (Value × H) := (dedup [] (l.map (normOut h0))).map (outOf h0)

def funcF (R : Rec) (f : AFunc) (args : List Value) (h : H) : Outs (Value × H) :=
  bif Nat.ble args.length f.ntmps then
    (Outs.bnd (R.code f.body ⟨argTm 0 args .leaf, [], none, h.withLow h.next⟩) fun r => match r.1 with
      | .nrm | .ret => match takeMarks r.2.ds r.2.h with
        | some h' => (resAll r.2.tm h' f.res).map fun vs => [(pack vs, h')]
        | none => none
      | _ => none).map (normAll h)
  else none

def roundF (R : Rec) (l : Nat) (args : List Value) (h : H) : Outs (Value × H) :=
  match h.get l with
  | some (.loop _ _ tm ps asg body _) => match setTms ps args tm with
    | none => none
    | some tm' => Outs.bnd (R.code asg ⟨tm', [], some l, h⟩) fun r => match r.1, r.2.h.get l with
      | .nrm, some (.loop .ready pend tm0 ps0 asg0 body0 dfs) =>
        Outs.bnd (R.code body { r.2 with h := r.2.h.put l (.loop .busy pend tm0 ps0 asg0 body0 dfs) }) fun q => match q.2.h.get l with
          | some (.loop _ _ tm1 ps1 asg1 body1 dfs1) =>
            some [(.bool (match q.1 with | .nrm => true | _ => false), q.2.h.put l (.loop (match q.1 with | .nrm => .ready | _ => .done) (xJump q.1) tm1 ps1 asg1 body1 dfs1))]
          | _ => none
      | _, _ => none
  | _ => none

def callF (E : Env) (R : Rec) (f : Value) (args : List Value) (h : H) : Outs (Value × H) :=
  match f with
  | .func (.func k) first cap =>
    let all := first.toList ++ args ++ cap.toList
    match E.sum k with
    | some s => s all h
    | none => match E.fn k with
      | some fn => funcF R fn all h
      | none => none
  | .func (.yield l) first _ => roundF R l (first.toList ++ args) h
  | _ => none

def runN (E : Env) : Nat → Rec
  | 0 => ⟨fun _ _ => none, fun _ _ _ => none⟩
  | n + 1 => ⟨codeF (runN E n), callF E (runN E n)⟩

end Go.AM

/-
  From the program's code to the abstract machine's: offsets, sizes and zero values are looked up once.
-/
namespace Go.AM

section
variable (P : Program)

def opdOk : Operand → Bool
  | .const v => plainV v
  | .global g => Nat.blt g P.globals.size
  | _ => true

def und (t : TypeId) : Option TypeDesc := P.underlying t
def aggOf (t : TypeId) : Option (Option Nat) :=
  match P.underlying t, P.info? t with
  | some (.struct _), some i | some (.array _ _), some i => some (some i.size)
  | some _, some i => bif Nat.beq i.size 1 then some none else none
  | _, _ => none
def sizeO (t : TypeId) : Option Nat := (P.info? t).map (·.size)
def sizeP (t : TypeId) : Option Nat := match P.info? t with
  | some i => bif Nat.beq i.size 0 then none else some i.size
  | none => none
def zeroO (t : TypeId) : Option Value := match P.info? t with
  | some i => match i.zero with
    | some z => bif plainZ z && Nat.beq (cellsOf z).length i.size then some z else none
    | none => none
  | none => none

def leafK (t : TypeId) : Option LK := match P.underlying t with
  | some .bool => some .bool
  | some (.int _) => some .int
  | some .string => some .string
  | _ => none

def flatL (rec : TypeId → Option (List LK)) : List Field → Nat → Option (List LK)
  | [], _ => some []
  | f :: fs, off => bif f.name == "_" then none else bif Nat.beq f.offset off then
      match rec f.type, P.info? f.type with
      | some ks, some i => bif Nat.beq ks.length i.size then (flatL rec fs (off + i.size)).map (ks ++ ·) else none
      | _, _ => none
    else none

/-- The leaves of a type that is compared leaf by leaf. -/
def flatK : Nat → TypeId → Option (List LK)
  | 0, _ => none
  | d + 1, t => match P.underlying t with
    | some .bool => some [.bool]
    | some (.int _) => some [.int]
    | some .string => some [.string]
    | some (.struct fs) => bif P.stoodInHeld t then none else flatL P (flatK d) fs.toList 0
    | _ => none

def ekOf (t : TypeId) : EK := match P.underlying t with
  | some .bool => .leaf .bool
  | some (.int _) => .leaf .int
  | some .string => .leaf .string
  | some (.pointer e) => match P.info? e with
    | some i => bif Nat.beq i.size 0 then .no else .nilable .ptr
    | none => .no
  | some (.slice _) => .nilable .sl
  | some (.map ..) => .nilable .mp
  | some (.func ..) => .nilable .fn
  | some (.interface _) => .nilable .ifc
  | some (.struct _) => match flatK P 12 t with
    | some ks => bif P.eqGuardType P.depth t then .no else .flat ks
    | none => .no
  | _ => .no

/-- The keys of a map: leaves, or leaf by leaf. -/
def keyOf (t : TypeId) : Option (EK × TypeId) := match P.underlying t with
  | some (.map k e) => match P.underlying k with
    | some .bool => some (.leaf .bool, e)
    | some (.int _) => some (.leaf .int, e)
    | some .string => some (.leaf .string, e)
    | some (.struct _) => (flatK P 12 k).map fun ks => (.flat ks, e)
    | _ => none
  | _ => none

def fieldO (t : TypeId) (f : Nat) : Option Field := match P.underlying t with
  | some (.struct fs) => fs[f]?
  | _ => none

def partsF (t : TypeId) : List (Nat × Operand) → Option (List (Nat × Nat × Operand))
  | [] => some []
  | (i, x) :: r => match fieldO P t i, partsF t r with
    | some f, some r' => match P.info? f.type with
      | some inf => bif Nat.beq inf.size 0 then none else some ((f.offset, inf.size, x) :: r')
      | none => none
    | _, _ => none

def partsA (size : Nat) : List (Nat × Operand) → List (Nat × Nat × Operand)
  | [] => []
  | (i, x) :: r => (i * size, size, x) :: partsA size r

def elemO (t : TypeId) : Option (TypeId × TypeInfo) := match P.underlying t with
  | some (.slice e) => match P.info? e with
    | some i => bif Nat.ble 1 i.size && Nat.ble i.bytes 1048576 then some (e, i) else none
    | none => none
  | _ => none

def isConstO : Operand → Bool
  | .const _ => true
  | _ => false

def cLen (t : TypeId) (x : Operand) : Option AOp := match P.underlying t with
  | some .string => some (.lenOf .str x)
  | some (.slice _) => some (.lenOf .sl x)
  | some (.map _ _) => some (.lenMap x)
  | some (.array n _) => some (.lenOf (.arr n) x)
  | _ => none

def cAppend (t u : TypeId) (s x : Operand) : Option AOp := match elemO P t with
  | some (e, i) => match zeroO P e, P.underlying u with
    | some z, some (.int _) => some (.append i.size (cellsOf z) true s x)
    | some z, some _ => some (.append i.size (cellsOf z) false s x)
    | _, _ => none
  | none => none

def cClear (t : TypeId) (x : Operand) : Option AOp := match P.underlying t with
  | some (.map _ _) => some (.clearMp x)
  | some (.slice e) => (zeroO P e).map fun z => .clearSl (cellsOf z) x
  | _ => none

def two {α β : Type} (f : α → α → Option β) : List α → Option β
  | [a, b] => f a b
  | _ => none
def single {α β : Type} (f : α → Option β) : List α → Option β
  | [a] => f a
  | _ => none

def cBuiltin (b : Builtin) (ts : List TypeId) (xs : List Operand) : Option AOp :=
  match b with
  | .len => single (fun t => single (fun x => cLen P t x) xs) ts
  | .append => two (fun t u => two (fun s x => cAppend P t u s x) xs) ts
  | .copy => two (fun t _ => two (fun d s => (elemO P t).map fun e => .copy e.2.size d s) xs) ts
  | .clear => single (fun t => single (fun x => cClear P t x) xs) ts
  | .delete => two (fun t _ => two (fun m k => (keyOf P t).map fun e => .delete e.1 m k) xs) ts
  | .max => some (.minmax true xs)
  | .min => some (.minmax false xs)
  | _ => none

def cOp (o : Oper) : Option AOp :=
  match o.op with
  | .move x | .assign x => some (.mv x)
  | .pick c a b => some (.pick c a b)
  | .alloc e => (zeroO P e).map fun z => .alloc (cellsOf z)
  | .box _ x => some (.box x)
  | .build t ps => match P.underlying t, zeroO P t with
    | some (.struct fs), some z => bif fs.toList.all (fun f => (P.info? f.type).isSome) then (partsF P t ps.toList).map fun l => .build (cellsOf z) l else none
    | some (.array _ e), some z => match sizeO P e with
      | some s => bif Nat.beq s 0 then none else some (.build (cellsOf z) (partsA s ps.toList))
      | none => none
    | _, _ => none
  | .buildSlice t len ps => match elemO P t with
    | some (e, i) => match zeroO P e with
      | some z => bif Nat.ble (len * i.size) 16777216 then some (.buildSlice (cellsOf z) len (partsA i.size ps.toList)) else none
      | none => none
    | none => none
  | .insert t m k v | .mapUpdate t m k v => (keyOf P t).map fun e => .mapUp e.1 m k v
  | .load t a => (aggOf P t).map fun g => .load g a
  | .store t a v => (sizeP P t).map fun n => .store n a v
  | .nilCheck x => some (.nilCheck x)
  | .binOp op t x y _ => some (.bin op (ekOf P t) (isConstO x || isConstO y) x y)
  | .unOp op _ x => some (.un op x)
  | .convert s d x => match P.underlying s, P.underlying d with
    | some (.int _), some (.int k) => some (.conv (.int k) x)
    | some .string, some .string => some (.conv .same x)
    | some (.int _), some .string => some (.conv .i2s x)
    | some .string, some (.slice e) => match P.underlying e with
      | some (.int .u8) => some (.s2sl .s2b x)
      | some (.int .i32) => some (.s2sl .s2r x)
      | _ => none
    | some (.slice e), some .string => match P.underlying e with
      | some (.int .u8) => some (.rd2s .b2s x)
      | some (.int .i32) => some (.rd2s .r2s x)
      | _ => none
    | _, _ => none
  | .makeInterface t x => match P.underlying t with
    | some (.interface _) => none
    | some _ => some (.mkIface t x)
    | none => none
  | .makeFunc fn first captured => match fn with
    | .func _ => some (.mkFunc fn first.toList captured.toList)
    | _ => none
  | .makeMap t none => match P.underlying t with
    | some (.map _ _) => some .mkMap
    | _ => none
  | .makeSlice t l c => match elemO P t with
    | some (e, _) => (zeroO P e).map fun z => .mkSlice (cellsOf z) l c
    | none => none
  | .slice t x lo hi mx => match P.underlying t with
    | some .string => some (.slc .str x lo hi mx)
    | some (.slice e) => (sizeO P e).map fun s => .slc (.sl s) x lo hi mx
    | _ => none
  | .fieldAddr t x f => match fieldO P t f with
    | some fl => match P.info? fl.type with
      | some i => bif Nat.beq i.size 0 then none else some (.fieldAddr fl.offset x)
      | none => none
    | none => none
  | .field t x f => match fieldO P t f with
    | some fl => (aggOf P fl.type).map fun g => .field fl.offset g x
    | none => none
  | .indexAddr t x i => match P.underlying t with
    | some (.array n e) => (sizeO P e).map fun s => .idxAddrArr n s x i
    | some (.slice e) => (sizeO P e).map fun s => .idxAddrSl s x i
    | _ => none
  | .index t x i => match P.underlying t with
    | some (.array n e) => match aggOf P e, sizeO P e with
      | some g, some s => some (.idxArr n s g.isSome x i)
      | _, _ => none
    | some .string => some (.idxStr x i)
    | _ => none
  | .lookup t x i ok => match keyOf P t with
    | some (ek, e) => (zeroO P e).map fun z => .lookup ek z ok x i
    | none => none
  | .range t x => match P.underlying t with
    | some .string => some (.range true x)
    | some (.map _ _) => some (.range false x)
    | _ => none
  | .next x s => some (.next s x)
  | .entry x => some (.entry x)
  | .panic x => some (.dies x)
  | .typeAssert x _ a ok => match P.underlying a with
    | some (.interface _) => none
    | some _ => (zeroO P a).map fun z => .tassert a z ok x
    | none => none
  | .extract x i => some (.extract x i)
  | .call c => match c.callee with
    | .value f => some (.call f c.args.toList)
    | .builtin b => cBuiltin P b c.argTypes.toList c.args.toList
    | _ => none
  | _ => none

def allOpds : AOp → List Operand
  | .mv x | .nilCheck x | .un _ x | .conv _ x | .mkIface _ x | .fieldAddr _ x | .field _ _ x | .extract x _ | .lenOf _ x | .capOf x | .s2ap _ x
  | .load _ x | .lenMap x | .entry x | .rd2s _ x | .box x | .s2sl _ x | .range _ x | .next _ x | .clearSl _ x | .clearMp x | .tassert _ _ _ x | .dies x => [x]
  | .pick a b c => [a, b, c]
  | .build _ ps | .buildSlice _ _ ps => ps.map (·.2.2)
  | .bin _ _ _ x y | .idxAddrArr _ _ x y | .idxAddrSl _ x y | .idxArr _ _ _ x y | .idxStr x y | .lookup _ _ _ x y | .mkSlice _ x y | .store _ x y
  | .append _ _ _ x y | .copy _ x y | .delete _ x y => [x, y]
  | .mkFunc _ a b => a ++ b
  | .slc _ x a b c => x :: (a.toList ++ b.toList ++ c.toList)
  | .minmax _ xs => xs
  | .alloc _ | .mkMap => []
  | .mapUp _ a b c => [a, b, c]
  | .call f as => f :: as

def cOper (ops : Array Oper) (nt : Nat) (o : Oper) : Option AOper :=
  match cOp P o with
  | none => none
  | some op =>
    bif (allOpds op).all (opdOk P) && (match o.dst with | none => true | some d => Nat.blt d nt) then
      some ⟨o.dst, op, match o.guard with | none => none | some (j, w) => some (match ops[j]? with | some x => x.dst | none => none, w)⟩
    else none

def mapO {α β : Type} (f : α → Option β) : List α → Option (List β)
  | [] => some []
  | a :: r => match f a, mapO f r with
    | some b, some s => some (b :: s)
    | _, _ => none

/-! ### The orders -/
def edgesOf (o : Oper) : List Nat := (o.after.toList.filter (Region.binds .any)).map (·.on)

def memN (n : Nat) : List Nat → Bool
  | [] => false
  | a :: r => Nat.beq n a || memN n r

/-- The bits of what must come before, through others too. -/
def maskOf (acc : List Nat) : List Nat → Nat
  | [] => 0
  | a :: r => 2 ^ a ||| (acc.getD a 0 ||| maskOf acc r)

def clos : List Nat → List (List Nat) → List Nat
  | acc, [] => acc
  | acc, e :: es => clos (acc ++ [maskOf acc e]) es

def inC (C : List Nat) (i j : Nat) : Bool := (C.getD j 0).testBit i

def opdTm : Operand → List Tmp
  | .tmp t => [t]
  | _ => []

def AOper.reads (o : AOper) : List Tmp := (allOpds o.op).flatMap opdTm ++ (match o.guard with | some (some t, _) => [t] | _ => [])
def AOper.names (o : AOper) : List Tmp := o.dst.toList ++ o.reads

def clash (a b : AOper) : Bool :=
  (match a.dst with | some d => memN d b.names | none => false) || (match b.dst with | some d => memN d a.names | none => false)

def isAct (o : AOper) : Bool := match o.op.cls with | .act => true | _ => false
def isAlloc (o : AOper) : Bool := match o.op.cls with | .alloc => true | _ => false
def isRead (o : AOper) : Bool := match o.op.cls with | .read => true | _ => false

/-- Each two operations that clash, and each two acts, are in an order; edges go back. -/
def orderOk (ops : List AOper) (C : List Nat) : Bool :=
  (List.range ops.length).all fun j => (List.range j).all fun i =>
    match ops[i]?, ops[j]? with
    | some a, some b => inC C i j || (!clash a b && !(isAct a && isAct b))
    | _, _ => false

def edgesOk (E : List (List Nat)) : Bool := (List.range E.length).all fun j => (E.getD j []).all fun a => Nat.blt a j

def mkChk (ops : List AOper) (C : List Nat) (i : Nat) : Chk :=
  let o := ops.getD i default
  let acts := (List.range ops.length).filter fun j => isAct (ops.getD j default)
  let hide := bif isAct o || isRead o then (List.range i).filter fun a => isAlloc (ops.getD a default) && !inC C a i else []
  let lo := (acts.filter fun j => inC C j i).length
  let hi := (acts.filter fun j => !inC C i j).length
  let cur := (acts.filter fun j => Nat.blt j i).length
  let again := bif isRead o then (List.range (hi + 1)).filter fun c => Nat.ble lo c && !Nat.beq c cur else []
  ⟨hide, again⟩

def cRegion (ops : Array Oper) (nt : Nat) (draw : Bool) : Option ACode :=
  match mapO (cOper P ops nt) ops.toList with
  | none => none
  | some l =>
    bif draw then
      let E := ops.toList.map edgesOf
      let C := clos [] E
      bif edgesOk E && orderOk l C then some (.draw l ((List.range l.length).map (mkChk l C))) else none
    else some (.region l)

def cCode (nt : Nat) : Code → Option ACode
  | .skip => some .skip
  | .region _ ops d => cRegion P ops nt d
  | .seq a b => match cCode nt a, cCode nt b with
    | some a, some b => some (.seq a b)
    | _, _ => none
  | .cond c a b => match cCode nt a, cCode nt b with
    | some a, some b => bif opdOk P c then some (.cond c a b) else none
    | _, _ => none
  | .block id b => (cCode nt b).map (.block id)
  | .loop b => (cCode nt b).map .loop
  | .rangeFunc f ps a b => match cCode nt a, cCode nt b with
    | some a, some b => bif opdOk P f && ps.toList.all (Nat.blt · nt) then some (.rangeFunc f ps.toList a b) else none
    | _, _ => none
  | .exit id => some (.exit id)
  | .scope b => (cCode nt b).map fun b => .scope b b
  | .label l => some (.label l)
  | .goto l => some (.goto l)
  | .ret => some .ret
  | .refuse _ => some .refuse

def cRes (_nt : Nat) : ResultVar → Option ARes
  | .tmp t => some (.tmp t)
  | .cell t ty => (aggOf P ty).map fun g => .cell t g

def cFunc (f : Func) : Option AFunc :=
  match f.body with
  | none => none
  | some b => match cCode P f.ntmps b, mapO (cRes P f.ntmps) f.results.toList with
    | some c, some r => bif f.name == "runtime.NumGoroutine" then none else some ⟨f.ntmps, r, c⟩
    | _, _ => none
end
end Go.AM

/-
  Summaries of functions of Go's library.
-/
namespace Go.AM

/-- slices.Insert -/
def sumInsert (esz : Nat) (args : List Value) (h : H) : Outs (Value × H) :=
  match args with
  | [.slice base len cap, .int _ i, .slice vb m vc] =>
    if 0 ≤ i ∧ i ≤ len then
      bif Nat.beq m 0 then some [(.slice base len cap, h)] else
      match srcCells h esz (.slice base len cap), srcCells h esz (.slice vb m vc) with
      | some (cs, _), some (vs, _) =>
        bif Nat.ble (len + m) lim then
          let h1 := h.new (.row (cs.take (i.toNat * esz) ++ vs ++ cs.drop (i.toNat * esz)) true false)
          some [(.slice (some ⟨h.next, 0, some esz⟩) (len + m) (len + m), match base with | none => h1 | some a => h1.kill a.block)]
        else none
      | _, _ => none
    else none
  | _ => none

end Go.AM

