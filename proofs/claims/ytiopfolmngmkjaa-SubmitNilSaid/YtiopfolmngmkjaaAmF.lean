/-
  What must hold ahead of code, told by its text; words for proofs.
-/
import Derived.Test.YtiopfolmngmkjaaAmE
/-
  More fuel does no harm.
-/
namespace Go.AM

/-- Whatever the one tells the other tells. -/
def Le {α : Type} (x y : Option α) : Prop := ∀ l, x = some l → y = some l

theorem Le.refl {α : Type} (x : Option α) : Le x x := fun _ h => h
theorem Le.trans {α : Type} {x y z : Option α} (h : Le x y) (k : Le y z) : Le x z := fun l e => k l (h l e)
theorem Le.map {α β : Type} {x y : Option α} (h : Le x y) (f : α → β) : Le (x.map f) (y.map f) := by
  intro l e
  obtain ⟨a, h1, h2⟩ := Option.map_eq_some_iff.1 e
  rw [h a h1]; exact congrArg some h2

theorem bindAll_mono {α β : Type} {f g : α → Outs β} (h : ∀ a, Le (f a) (g a)) : ∀ l, Le (bindAll l f) (bindAll l g)
  | [] => Le.refl _
  | [a] => h a
  | a :: b :: rest => by
    intro l e
    simp only [bindAll] at e ⊢
    split at e
    · rename_i x y hx hy
      rw [h a x hx, bindAll_mono h (b :: rest) y hy]
      exact e
    · cases e

theorem bnd_mono {α β : Type} {x y : Outs α} {f g : α → Outs β} (hx : Le x y) (h : ∀ a, Le (f a) (g a)) : Le (Outs.bnd x f) (Outs.bnd y g) := by
  intro l e
  cases x with
  | none => cases e
  | some a => rw [hx a rfl]; exact bindAll_mono h a l e

theorem one_mono {α : Type} {x y : Outs α} (h : Le x y) : Le (one x) (one y) := by
  intro l e
  have := one_some e
  rw [h _ this]; rfl

structure RLe (R S : Rec) : Prop where
  code : ∀ c st, Le (R.code c st) (S.code c st)
  call : ∀ f a h, Le (R.call f a h) (S.call f a h)

section
variable {R S : Rec} (h : RLe R S)
include h

theorem opA_mono (op : AOp) (tm : Tm) (σ : H) : Le (opA R op tm σ) (opA S op tm σ) := by
  unfold opA
  cases op.cls <;> try exact Le.refl _
  cases op <;> first | exact Le.refl _ | exact h.call _ _ _

theorem stepA_mono (o : AOper) (st : St) : Le (stepA R o st) (stepA S o st) := by
  unfold stepA
  split
  · exact bnd_mono (opA_mono h _ _ _) fun _ => Le.refl _
  · exact Le.refl _
  · exact Le.refl _

theorem opsA_mono : ∀ (os : List AOper) (st : St), Le (opsA R os st) (opsA S os st)
  | [], _ => Le.refl _
  | o :: os, st => bnd_mono (stepA_mono h o st) (opsA_mono os)

theorem drawStep_mono (base i : Nat) (o : AOper) (c : Chk) (d : DrawSt) : Le (drawStep R base i o c d) (drawStep S base i o c d) := by
  unfold drawStep
  simp only
  split
  · cases o.op.cls <;> first | exact Le.refl _ | exact Le.map (one_mono (opA_mono h _ _ _)) _
  · exact Le.refl _
  · exact Le.refl _

theorem drawOps_mono (base : Nat) : ∀ (os : List AOper) (cs : List Chk) (i : Nat) (d : DrawSt), Le (drawOps R base i os cs d) (drawOps S base i os cs d)
  | [], _, _, _ => Le.refl _
  | _ :: _, [], _, _ => Le.refl _
  | o :: os, c :: cs, i, d => by
    intro l e
    simp only [drawOps] at e ⊢
    split at e
    · rename_i d' hd
      rw [drawStep_mono h base i o c d d' hd]
      exact drawOps_mono base os cs (i + 1) d' l e
    · cases e

theorem drawA_mono (ops : List AOper) (chk : List Chk) (st : St) : Le (drawA R ops chk st) (drawA S ops chk st) := by
  intro l e
  unfold drawA at e ⊢
  split at e
  · rename_i d hd
    rw [drawOps_mono h _ _ _ _ _ d hd]
    exact e
  · cases e

theorem codeF_mono (c : ACode) (st : St) : Le (codeF R c st) (codeF S c st) := by
  cases c with
  | region ops => exact bnd_mono (opsA_mono h _ _) fun _ => Le.refl _
  | draw ops chk => exact Le.map (drawA_mono h _ _ _) _
  | seq a b =>
    refine bnd_mono (h.code _ _) fun r => ?_
    obtain ⟨x, s⟩ := r
    cases x <;> first | exact Le.refl _ | exact h.code _ _
  | cond o a b =>
    simp only [codeF]
    split
    · exact h.code _ _
    · exact Le.refl _
  | block id b => exact bnd_mono (h.code _ _) fun r => Le.refl _
  | loop b =>
    refine bnd_mono (h.code _ _) fun r => ?_
    obtain ⟨x, s⟩ := r
    cases x <;> first | exact Le.refl _ | exact h.code _ _
  | rangeFunc f ps asg body =>
    simp only [codeF]
    split
    · exact Le.refl _
    · exact bnd_mono (h.call _ _ _) fun r => Le.refl _
  | scope body cur =>
    refine bnd_mono (h.code _ _) fun r => ?_
    obtain ⟨x, s⟩ := r
    cases x <;> try exact Le.refl _
    simp only
    split
    · exact h.code _ _
    · exact Le.refl _
  | _ => exact Le.refl _

theorem funcF_mono (f : AFunc) (args : List Value) (σ : H) : Le (funcF R f args σ) (funcF S f args σ) := by
  unfold funcF
  cases Nat.ble args.length f.ntmps with
  | false => exact Le.refl _
  | true => exact Le.map (bnd_mono (h.code _ _) fun r => Le.refl _) _

theorem roundF_mono (l : Nat) (args : List Value) (σ : H) : Le (roundF R l args σ) (roundF S l args σ) := by
  unfold roundF
  split
  · split
    · exact Le.refl _
    · refine bnd_mono (h.code _ _) fun r => ?_
      split
      · exact bnd_mono (h.code _ _) fun q => Le.refl _
      · exact Le.refl _
  · exact Le.refl _

theorem callF_mono (E : Env) (f : Value) (args : List Value) (σ : H) : Le (callF E R f args σ) (callF E S f args σ) := by
  unfold callF
  split
  · simp only
    split
    · exact Le.refl _
    · split
      · exact funcF_mono h _ _ _
      · exact Le.refl _
  · exact roundF_mono h _ _ _
  · exact Le.refl _
end

theorem runN_succ (E : Env) : ∀ n, RLe (runN E n) (runN E (n + 1))
  | 0 => ⟨fun _ _ _ e => (by cases e), fun _ _ _ _ e => (by cases e)⟩
  | n + 1 => ⟨codeF_mono (runN_succ E n), callF_mono (runN_succ E n) E⟩

theorem runN_le (E : Env) {n m : Nat} (h : n ≤ m) : RLe (runN E n) (runN E m) := by
  induction h with
  | refl => exact ⟨fun _ _ => Le.refl _, fun _ _ _ => Le.refl _⟩
  | step _ ih => exact ⟨fun c st => (ih.code c st).trans ((runN_succ E _).code c st), fun f a h => (ih.call f a h).trans ((runN_succ E _).call f a h)⟩
end Go.AM

/-
  What must hold ahead of a piece of code, so that something holds behind it: told by the code's text.
-/
namespace Go.AM

/-! ### What may come of a run -/
/-- All that may come of it is so; something does come; if 'm': one thing alone. -/
def Res {α : Type} (m : Bool) (x : Outs α) (Q : α → Prop) : Prop := ∃ l, x = some l ∧ l ≠ [] ∧ (m = true → ∃ a, l = [a]) ∧ ∀ a ∈ l, Q a

def CallP (m : Bool) (E : Env) (f : Value) (args : List Value) (h : H) (Q : Value → H → Prop) : Prop := ∃ n, Res m ((runN E n).call f args h) fun r => Q r.1 r.2
def CodeP (m : Bool) (E : Env) (c : ACode) (st : St) (Q : AX → St → Prop) : Prop := ∃ n, Res m ((runN E n).code c st) fun r => Q r.1 r.2

/-! ### Kinds -/
inductive VC where
  | bool | int (k : IntKind) | str | ptr | sl | mp | fn | ifc | any
inductive V1 where
  | bool | int (k : IntKind) | str | ptr | sl | mp | fn | ifc | any
  | agg (ks : List VC)
inductive VK where
  | bool | int (k : IntKind) | str | ptr | sl | mp | fn | ifc | any
  | agg (ks : List VC) | tup (ks : List V1)

def dC (k : VC) (K : Value → Prop) : Prop := match k with
  | .bool => ∃ b, K (.bool b)
  | .int k => ∃ n, K (.int k n)
  | .str => ∃ s, K (.string s)
  | .ptr => ∃ p, K (.pointer p)
  | .sl => ∃ p n c, K (.slice p n c)
  | .mp => ∃ p, K (.map p)
  | .fn => ∃ f a c, K (.func f a c)
  | .ifc => K .nilIface ∨ ∃ t v, K (.iface t v)
  | .any => ∃ v, K v
def dCs : List VC → (List Value → Prop) → Prop
  | [], K => K []
  | k :: ks, K => dC k fun v => dCs ks fun vs => K (v :: vs)
def d1 (k : V1) (K : Value → Prop) : Prop := match k with
  | .bool => ∃ b, K (.bool b)
  | .int k => ∃ n, K (.int k n)
  | .str => ∃ s, K (.string s)
  | .ptr => ∃ p, K (.pointer p)
  | .sl => ∃ p n c, K (.slice p n c)
  | .mp => ∃ p, K (.map p)
  | .fn => ∃ f a c, K (.func f a c)
  | .ifc => K .nilIface ∨ ∃ t v, K (.iface t v)
  | .any => ∃ v, K v
  | .agg ks => dCs ks fun vs => K (.agg ⟨vs⟩)
def d1s : List V1 → (List Value → Prop) → Prop
  | [], K => K []
  | k :: ks, K => d1 k fun v => d1s ks fun vs => K (v :: vs)
def dVal (k : VK) (K : Value → Prop) : Prop := match k with
  | .bool => ∃ b, K (.bool b)
  | .int k => ∃ n, K (.int k n)
  | .str => ∃ s, K (.string s)
  | .ptr => ∃ p, K (.pointer p)
  | .sl => ∃ p n c, K (.slice p n c)
  | .mp => ∃ p, K (.map p)
  | .fn => ∃ f a c, K (.func f a c)
  | .ifc => K .nilIface ∨ ∃ t v, K (.iface t v)
  | .any => ∃ v, K v
  | .agg ks => dCs ks fun vs => K (.agg ⟨vs⟩)
  | .tup ks => d1s ks fun vs => K (.tuple ⟨vs⟩)
def dVals : List VK → (List Value → Prop) → Prop
  | [], K => K []
  | k :: ks, K => dVal k fun v => dVals ks fun vs => K (v :: vs)

abbrev VI (n : Int) : Value := .int .i64 n
abbrev VB (b : Bool) : Value := .bool b
abbrev VP (p : Option Addr) : Value := .pointer p
abbrev VS (p : Option Addr) (n c : Nat) : Value := .slice p n c
abbrev VA (l : List Value) : Value := .agg ⟨l⟩
abbrev FN (k : Nat) : Value := .func (.func k) ⟨[]⟩ ⟨[]⟩
abbrev FC (k : Nat) (cap : List Value) : Value := .func (.func k) ⟨[]⟩ ⟨cap⟩
abbrev VT (l : List Value) : Value := .tuple ⟨l⟩

/-- A bool is known from here on. -/
def forkB (v : Value) (Q : Value → Prop) : Prop := match v with
  | .bool b => cond b (Q (.bool true)) (Q (.bool false))
  | v => Q v

def fk (vk : VK) (v : Value) (Q : Value → Prop) : Prop := match vk with
  | .any => Q v
  | _ => forkB v Q

def forkL : List Value → (List Value → Prop) → Prop
  | [], Q => Q []
  | v :: vs, Q => forkB v fun u => forkL vs fun us => Q (u :: us)

def optP {α : Type} (p : Option α) (K : α → Prop) : Prop := match p with
  | some a => K a
  | none => False

def getP (v : Value) (K : Addr → Prop) : Prop := match v with
  | .pointer p => optP p K
  | _ => False

def nilT : NK → Value → Value → Option Bool
  | .ptr, .pointer p, .pointer none => some p.isNone
  | .sl, .slice p _ _, .slice none _ _ => some p.isNone
  | .mp, .map p, .map none => some p.isNone
  | _, _, _ => none

def nilBin (op : BinOp) (ek : EK) (x y : Value) : Option Bool := match op, ek with
  | .eql, .nilable k => nilT k x y
  | .neq, .nilable k => (nilT k x y).map (!·)
  | _, _ => none

/-- An operation whose operands are their values. -/
def opC (tm : Tm) : AOp → AOp
  | .slc k x lo hi mx => .slc k (.const (ev tm x)) (lo.map fun o => .const (ev tm o)) (hi.map fun o => .const (ev tm o)) (mx.map fun o => .const (ev tm o))
  | .bin op ek kc x y => .bin op ek kc (.const (ev tm x)) (.const (ev tm y))
  | .idxArr l e g x i => .idxArr l e g (.const (ev tm x)) (.const (ev tm i))
  | .idxStr x i => .idxStr (.const (ev tm x)) (.const (ev tm i))
  | .tassert t z ok x => .tassert t z ok (.const (ev tm x))
  | .nilCheck x => .nilCheck (.const (ev tm x))
  | .load g x => .load g (.const (ev tm x))
  | .lookup ek z ok m i => .lookup ek z ok (.const (ev tm m)) (.const (ev tm i))
  | .lenMap x => .lenMap (.const (ev tm x))
  | .entry x => .entry (.const (ev tm x))
  | .rd2s k x => .rd2s k (.const (ev tm x))
  | .s2sl k x => .s2sl k (.const (ev tm x))
  | .mapUp ek m k v => .mapUp ek (.const (ev tm m)) (.const (ev tm k)) (.const (ev tm v))
  | .range s x => .range s (.const (ev tm x))
  | .next s x => .next s (.const (ev tm x))
  | .copy e d s => .copy e (.const (ev tm d)) (.const (ev tm s))
  | .clearSl z x => .clearSl z (.const (ev tm x))
  | .clearMp x => .clearMp (.const (ev tm x))
  | .delete ek m k => .delete ek (.const (ev tm m)) (.const (ev tm k))
  | op => op

def pureV (op : AOp) : Option Value := apure .leaf op
def readV (h : H) (op : AOp) : Option Value := aread h .leaf op
def newV (L : Nat) (op : AOp) : Option (AObj × Value) := anew .leaf L op
def actV (h : H) (op : AOp) : Outs (Value × H) := aact h .leaf op

def ld (h : H) (agg : Option Nat) (a : Addr) : Option Value := match agg with
  | some n => (h.read a n).map fun cs => .agg ⟨cs⟩
  | none => match h.get a.block with
    | some (.row cs _ _) => cs[a.off]?
    | _ => none

/-- Whatever it is: told by the operation itself. -/
def gP (vk : VK) (op : AOp) (Q : Value → Prop) : Prop := dVal vk fun v => pureV op = some v ∧ fk vk v Q
def stP (tm : Tm) (op : AOp) (Q : Value → Prop) : Prop := match apure tm op with
  | some v => forkB v Q
  | none => False

def wpBin (vk : VK) (op : BinOp) (ek : EK) (kc : Bool) (x y : Value) (Q : Value → Prop) : Prop :=
  match nilBin op ek x y with
  | some b => forkB (.bool b) Q
  | none => match op, vk with
    | .quo, _ | .rem, _ | .shl, _ | .shr, _ | .add, .str => dVal vk fun v => abin op ek kc x y = some v ∧ forkB v Q
    | _, _ => match abin op ek kc x y with
      | some v => forkB v Q
      | none => False

def wpPure (vk : VK) (op : AOp) (tm : Tm) (Q : Value → Prop) : Prop := match op with
  | .nilCheck x => match ev tm x with
    | .pointer p => optP p fun a => Q (.pointer (some a))
    | v => gP vk (.nilCheck (.const v)) Q
  | .fieldAddr off x => getP (ev tm x) fun a => Q (.pointer (some (addOff a off)))
  | .idxAddrArr len esz x i => getP (ev tm x) fun a => match ev tm i with
    | .int _ i => (0 ≤ i ∧ i < len) ∧ Q (.pointer (some (addOff a (i.toNat * esz))))
    | _ => False
  | .idxAddrSl esz x i => match ev tm x, ev tm i with
    | .slice p len _, .int _ i => optP p fun a => (0 ≤ i ∧ i < len) ∧ Q (.pointer (some ⟨a.block, a.off + i.toNat * esz, none⟩))
    | _, _ => False
  | .bin op ek kc x y => wpBin vk op ek kc (ev tm x) (ev tm y) Q
  | .slc .. | .idxArr .. | .idxStr .. | .tassert .. => gP vk (opC tm op) Q
  | _ => stP tm op Q

def wpRead (vk : VK) (op : AOp) (tm : Tm) (h : H) (Q : Value → Prop) : Prop := match op with
  | .load agg x => getP (ev tm x) fun a => dVal vk fun v => ld h agg a = some v ∧ fk vk v Q
  | op => dVal vk fun v => readV h (opC tm op) = some v ∧ fk vk v Q

def wpNew (op : AOp) (tm : Tm) (L : Nat) (Q : Value → AObj → Prop) : Prop := match op with
  | .mkSlice zero l c => match ev tm l, ev tm c with
    | .int _ l, .int _ c => (0 ≤ l ∧ l ≤ c ∧ c ≤ lim) ∧ Q (.slice (some ⟨L, 0, none⟩) l.toNat c.toNat) (.row (repeatL zero c.toNat) false false)
    | _, _ => False
  | .s2sl k x => ∃ p n c o, newV L (.s2sl k (.const (ev tm x))) = some (o, .slice p n c) ∧ Q (.slice p n c) o
  | op => match anew tm L op with
    | some r => Q r.2 r.1
    | none => False

def wpAct (m : Bool) (E : Env) (vk : VK) (op : AOp) (tm : Tm) (h : H) (Q : Value → H → Prop) : Prop := match op with
  | .store size a v => getP (ev tm a) fun a => cond (Nat.beq (cellsOf (ev tm v)).length size) (∃ h', h.write a (cellsOf (ev tm v)) = some h' ∧ Q undef h') False
  | .append esz zero mk s x => ∃ p n c h', aappend h esz zero mk (ev tm s) (ev tm x) = some (.slice p n c, h') ∧ Q (.slice p n c) h'
  | .call f args => CallP m E (ev tm f) (args.map (ev tm)) h fun v h' => dVal vk fun u => v = u ∧ fk vk u fun u => Q u h'
  | .next str x => Res m (actV h (.next str (.const (ev tm x)))) fun r => (r.1 = .tuple ⟨[.bool false]⟩ ∧ Q (.tuple ⟨[.bool false]⟩) r.2) ∨ match vk with
      | .tup ks => d1s ks fun us => r.1 = .tuple ⟨.bool true :: us⟩ ∧ Q (.tuple ⟨.bool true :: us⟩) r.2
      | _ => False
  | op => Res m (actV h (opC tm op)) fun r => dVal vk fun u => r.1 = u ∧ fk vk u fun u => Q u r.2

abbrev Kinds := Tmp → VK
def dk (vk : Kinds) (d : Option Tmp) : VK := match d with
  | some d => vk d
  | none => .any

def wpOp (m : Bool) (E : Env) (vk : VK) (op : AOp) (tm : Tm) (h : H) (Q : Value → H → Prop) : Prop := match op.cls with
  | .pure => wpPure vk op tm fun v => Q v h
  | .read => wpRead vk op tm h fun v => Q v h
  | .alloc => wpNew op tm h.next fun v o => ∀ h1, h1 = h.new o → Q v h1
  | .act => wpAct m E vk op tm h Q

def wpStep (m : Bool) (E : Env) (vk : Kinds) (o : AOper) (st : St) (Q : St → Prop) : Prop := match wantedA st.tm o.guard with
  | some true => wpOp m E (dk vk o.dst) o.op st.tm st.h fun v h => Q ⟨putDst st.tm o.dst v, st.ds, st.rnd, h⟩
  | some false => Q ⟨putDst st.tm o.dst undef, st.ds, st.rnd, st.h⟩
  | none => False

def wpOps (m : Bool) (E : Env) (vk : Kinds) : List AOper → St → (St → Prop) → Prop
  | [], st, Q => Q st
  | o :: os, st, Q => wpStep m E vk o st fun st => wpOps m E vk os st Q

/-! ### Regions that draw -/
abbrev Rd := List (AOp × Value × List Nat)

def addRd (op : AOp) (v : Value) (js : List Nat) (r : Rd) : Rd := match js with
  | [] => r
  | j :: js => (op, v, j :: js) :: r

/-- What was hidden is given back. -/
def gb (old h : H) (base : Nat) (l : List Nat) : H := match l with
  | [] => h
  | i :: l => giveBack old h base (i :: l)

def wpDrawStep (E : Env) (vk : Kinds) (base i : Nat) (o : AOper) (c : Chk) (st : St) (hist : List H) (rds : Rd) (K : St → List H → Rd → Prop) : Prop :=
  match wantedA st.tm o.guard with
  | some true => match o.op.cls with
    | .pure => wpPure (dk vk o.dst) o.op st.tm fun v => K ⟨putDst st.tm o.dst v, st.ds, st.rnd, st.h⟩ hist rds
    | .read => wpRead (dk vk o.dst) o.op st.tm (killAll st.h base c.hide) fun v => K ⟨putDst st.tm o.dst v, st.ds, st.rnd, st.h⟩ hist (addRd (opC st.tm o.op) v c.again rds)
    | .alloc => wpNew o.op st.tm (base + i) fun v ob => ∀ h1, h1 = st.h.put (base + i) ob → K ⟨putDst st.tm o.dst v, st.ds, st.rnd, h1⟩ hist rds
    | .act => wpAct true E (dk vk o.dst) o.op st.tm (killAll st.h base c.hide) fun v h' => K ⟨putDst st.tm o.dst v, st.ds, st.rnd, gb st.h h' base c.hide⟩ (h' :: hist) rds
  | some false => match o.op.cls with
    | .act => K ⟨putDst st.tm o.dst undef, st.ds, st.rnd, gb st.h (killAll st.h base c.hide) base c.hide⟩ (killAll st.h base c.hide :: hist) rds
    | _ => K ⟨putDst st.tm o.dst undef, st.ds, st.rnd, st.h⟩ hist rds
  | none => False

def wpDrawOps (E : Env) (vk : Kinds) (base : Nat) : Nat → List AOper → List Chk → St → List H → Rd → (St → List H → Rd → Prop) → Prop
  | _, [], _, st, hist, rds, K => K st hist rds
  | i, o :: os, c :: cs, st, hist, rds, K => wpDrawStep E vk base i o c st hist rds fun st hist rds => wpDrawOps E vk base (i + 1) os cs st hist rds K
  | _, _ :: _, [], _, _, _, _ => False

def againJ (hist : List H) (op : AOp) (v : Value) : List Nat → Prop → Prop
  | [], P => P
  | j :: js, P => match getH hist j with
    | some h => (∃ u, readV h op = some u ∧ veq u v = true) ∧ againJ hist op v js P
    | none => False

def againP (hist : List H) : Rd → Prop → Prop
  | [], P => P
  | (op, v, js) :: r, P => againJ hist op v js (againP hist r P)

def wpDraw (E : Env) (vk : Kinds) (ops : List AOper) (chk : List Chk) (st : St) (Q : St → Prop) : Prop :=
  ∀ h1, h1 = st.h.skipTo (st.h.next + ops.length) → wpDrawOps E vk st.h.next 0 ops chk ⟨st.tm, st.ds, st.rnd, h1⟩ [h1] [] fun st hist rds => againP hist.reverse rds (Q st)

/-! ### Code -/
/-- Of a loop: what lives at its head; where it may leave to, and what lives there. -/
structure LAnn where
  hd : List Tmp
  outs : List (AX × List (Tmp × VK))

abbrev Anns := Nat → Option LAnn

def eqAX : AX → AX → Bool
  | .nrm, .nrm => true
  | .ret, .ret => true
  | .ext a, .ext b => Nat.beq a b
  | .gto a, .gto b => Nat.beq a b
  | _, _ => false

def getAll (tm : Tm) : List Tmp → Option (List Value)
  | [] => some []
  | t :: ts => match Trie.get tm t, getAll tm ts with
    | some v, some vs => some (v :: vs)
    | _, _ => none

def ovl (tm : Tm) : List Tmp → List Value → Tm
  | t :: ts, v :: vs => Trie.set (ovl tm ts vs) t v
  | _, _ => tm

def outT (x : AX) : List (AX × List (Tmp × VK)) → Option (List (Tmp × VK))
  | [] => none
  | (y, l) :: r => bif eqAX x y then some l else outT x r

/-- What is told of the state behind a round. -/
def leaf (hd : List Tmp) (outs : List (AX × List (Tmp × VK))) (ds : List Nat) (rnd : Option Nat) (Q : AX → List Value → H → Prop) (x : AX) (st : St) : Prop :=
  match (match x with | .nrm => some hd | x => (outT x outs).map fun l => l.map Prod.fst) with
  | some ts => match getAll st.tm ts with
    | some vs => st.ds = ds ∧ st.rnd = rnd ∧ Q x vs st.h
    | none => False
  | none => False

def LoopV (m : Bool) (E : Env) (body : ACode) (a : LAnn) (vals : List Value) (ds : List Nat) (rnd : Option Nat) (h : H) (Q : AX → List Value → H → Prop) : Prop :=
  ∀ tm, getAll tm a.hd = some vals → CodeP m E (.loop body) ⟨tm, ds, rnd, h⟩ fun x st => x ≠ .nrm ∧ leaf a.hd a.outs ds rnd Q x st

def exitsP (x : AX) (vs : List Value) (K : AX → List Tmp → List Value → Prop) : List (AX × List (Tmp × VK)) → Prop
  | [] => False
  | [(y, l)] => x = y ∧ dVals (l.map Prod.snd) fun us => vs = us ∧ forkL us fun us => K y (l.map Prod.fst) us
  | (y, l) :: r => (x = y ∧ dVals (l.map Prod.snd) fun us => vs = us ∧ forkL us fun us => K y (l.map Prod.fst) us) ∨ exitsP x vs K r

/-- A loop over a function's yields. -/
def RangeV (m : Bool) (E : Env) (f : Operand) (ps : List Tmp) (asg body : ACode) (hd : List Tmp) (vals : List Value) (ds : List Nat) (rnd : Option Nat) (h : H) (Q : AX → H → Prop) : Prop :=
  ∀ tm, getAll tm hd = some vals → CodeP m E (.rangeFunc f ps asg body) ⟨tm, ds, rnd, h⟩ fun x st => st.tm = tm ∧ st.ds = (match rnd with | none => h.next :: ds | some _ => ds) ∧ st.rnd = rnd ∧ Q x st.h

def hasX (y : AX) : List (AX × List (Tmp × VK)) → Bool
  | [] => false
  | (z, _) :: r => bif eqAX y z then true else hasX y r
def distinctX : List (AX × List (Tmp × VK)) → Bool
  | [] => true
  | (y, _) :: r => bif hasX y r then false else distinctX r

def anyX (x : AX) (K : AX → Prop) : List (AX × List (Tmp × VK)) → Prop
  | [] => False
  | [(y, _)] => x = y ∧ K y
  | (y, _) :: r => (x = y ∧ K y) ∨ anyX x K r

def wpC (m : Bool) (E : Env) (vk : Kinds) (ann : Anns) : Nat → ACode → St → (AX → St → Prop) → Prop
  | _, .skip, st, Q => Q .nrm st
  | _, .label _, st, Q => Q .nrm st
  | _, .region ops, st, Q => wpOps m E vk ops st fun st => Q .nrm st
  | _, .draw ops chk, st, Q => wpDraw E vk ops chk st fun st => Q .nrm st
  | cur, .seq a b, st, Q => wpC m E vk ann cur a st fun x st => match x with
    | .nrm => wpC m E vk ann cur b st Q
    | x => Q x st
  | cur, .cond o a b, st, Q => match ev st.tm o with
    | .bool t => cond t (wpC m E vk ann cur a st Q) (wpC m E vk ann cur b st Q)
    | _ => False
  | _, .block id b, st, Q => wpC m E vk ann id b st fun x st => match x with
    | .ext j => bif Nat.beq j id then Q .nrm st else Q (.ext j) st
    | x => Q x st
  | cur, .loop b, st, Q => match ann cur with
    | some a => match getAll st.tm a.hd with
      | some vals => cond (distinctX a.outs) (LoopV m E b a vals st.ds st.rnd st.h fun x vs h => ∀ tm : Tm, exitsP x vs (fun y ts us => Q y ⟨ovl tm ts us, st.ds, st.rnd, h⟩) a.outs) False
      | none => False
    | none => CodeP m E (.loop b) st Q
  | _, .rangeFunc f ps asg body, st, Q => match ann (100000 + ps.headD 0) with
    | some a => match getAll st.tm a.hd with
      | some vals => RangeV m E f ps asg body a.hd vals st.ds st.rnd st.h fun x h => anyX x (fun y => Q y ⟨st.tm, match st.rnd with | none => st.h.next :: st.ds | some _ => st.ds, st.rnd, h⟩) a.outs
      | none => False
    | none => CodeP m E (.rangeFunc f ps asg body) st Q
  | _, .exit id, st, Q => Q (.ext id) st
  | _, .goto l, st, Q => Q (.gto l) st
  | _, .ret, st, Q => Q .ret st
  | _, .scope body cur, st, Q => CodeP m E (.scope body cur) st Q
  | _, .refuse, _, _ => False

/-! ### Tables -/
def kz : List (Tmp × VK) → Kinds
  | [], _ => .any
  | (t, k) :: r, u => bif Nat.beq t u then k else kz r u
def az : List (Nat × LAnn) → Anns
  | [], _ => none
  | (t, a) :: r, u => bif Nat.beq t u then some a else az r u
def lann (l : List (Nat × LAnn)) (k : Nat) : LAnn := match az l k with
  | some a => a
  | none => ⟨[], []⟩
/-- The loops of a function, as they stand. -/
def loops : ACode → List ACode
  | .seq a b | .cond _ a b => loops a ++ loops b
  | .block _ b | .scope b _ => loops b
  | .loop b => b :: loops b
  | .rangeFunc _ _ a b => loops a ++ loops b
  | _ => []
def rngs : ACode → List (ACode × ACode)
  | .seq a b | .cond _ a b => rngs a ++ rngs b
  | .block _ b | .scope b _ => rngs b
  | .loop b => rngs b
  | .rangeFunc _ _ a b => (a, b) :: (rngs a ++ rngs b)
  | _ => []
def loopAt (f : AFunc) (i : Nat) : ACode := match (loops f.body)[i]? with
  | some c => c
  | none => .skip
def rngAt (f : AFunc) (i : Nat) : ACode × ACode := match (rngs f.body)[i]? with
  | some c => c
  | none => (.skip, .skip)

/-- One round of a loop. -/
def wpBody (m : Bool) (E : Env) (vk : Kinds) (ann : Anns) (cur : Nat) (body : ACode) (a : LAnn) (vals : List Value) (tm : Tm) (ds : List Nat) (rnd : Option Nat) (h : H) (Q : AX → List Value → H → Prop) : Prop :=
  forkL vals fun vs => wpC m E vk ann cur body ⟨ovl tm a.hd vs, ds, rnd, h⟩ (leaf a.hd a.outs ds rnd Q)

/-! ### Functions -/
def wpRes (tm : Tm) (h : H) : List ARes → (List Value → Prop) → Prop
  | [], K => K []
  | .tmp t :: r, K => wpRes tm h r fun vs => K (tm.g t :: vs)
  | .cell t agg :: r, K => getP (tm.g t) fun a => ∃ v, ld h agg a = some v ∧ wpRes tm h r fun vs => K (v :: vs)

def wpMarks (ds : List Nat) (h : H) (K : H → Prop) : Prop := match ds with
  | [] => K h
  | d :: ds => ∃ h', takeMarks (d :: ds) h = some h' ∧ K h'

def wpEnd (res : List ARes) (N : Value → H → Prop) (x : AX) (st : St) : Prop := match x with
  | .nrm | .ret => wpMarks st.ds st.h fun h => wpRes st.tm h res fun vs => N (pack vs) h
  | _ => False

/-- The memory in which a function's code begins. -/
def H.enter (h : H) : H := h.withLow h.next

def wpF (m : Bool) (E : Env) (vk : Kinds) (ann : Anns) (f : AFunc) (args : List Value) (h : H) (N : Value → H → Prop) : Prop :=
  cond (Nat.ble args.length f.ntmps) (forkL args fun as => ∀ h1, h1 = h.enter → wpC m E vk ann 0 f.body ⟨argTm 0 as .leaf, [], none, h1⟩ (wpEnd f.res N)) False

/-- What the caller sees. -/
def NormP (h0 : H) (Q : Value → H → Prop) (v : Value) (h : H) : Prop := Q (outOf h0 (normOut h0 (v, h))).1 (outOf h0 (normOut h0 (v, h))).2
end Go.AM

/-
  What is told by the code's text is so.
-/
namespace Go.AM

/-! ### Outcomes -/
section
variable {α β : Type} {m : Bool}

theorem Res.one' {a : α} {Q : α → Prop} (h : Q a) : Res m (some [a]) Q := ⟨[a], rfl, by simp, fun _ => ⟨a, rfl⟩, fun b hb => by simp at hb; subst hb; exact h⟩

theorem Res.mono {x : Outs α} {Q Q' : α → Prop} (h : Res m x Q) (hq : ∀ a, Q a → Q' a) : Res m x Q' := by
  obtain ⟨l, h1, h2, h3, h4⟩ := h
  exact ⟨l, h1, h2, h3, fun a ha => hq a (h4 a ha)⟩

theorem Res.le {x y : Outs α} {Q : α → Prop} (h : Res m x Q) (hxy : Le x y) : Res m y Q := by
  obtain ⟨l, h1, h2, h3, h4⟩ := h
  exact ⟨l, hxy l h1, h2, h3, h4⟩

theorem Res.weaken {x : Outs α} {Q : α → Prop} (h : Res true x Q) : Res m x Q := by
  obtain ⟨l, h1, h2, h3, h4⟩ := h
  exact ⟨l, h1, h2, fun _ => h3 rfl, h4⟩

theorem Res.single {x : Outs α} {Q : α → Prop} (h : Res true x Q) : ∃ a, x = some [a] ∧ Q a := by
  obtain ⟨l, h1, h2, h3, h4⟩ := h
  obtain ⟨a, rfl⟩ := h3 rfl
  exact ⟨a, h1, h4 a (by simp)⟩

theorem res_bindAll {g : α → Outs β} {Q : β → Prop} : ∀ {m : Bool} {l : List α}, l ≠ [] → (m = true → ∃ a, l = [a]) → (∀ a ∈ l, Res m (g a) Q) → Res m (bindAll l g) Q
  | _, [], h, _, _ => absurd rfl h
  | _, [a], _, _, h => h a (by simp)
  | m, a :: b :: rest, _, hm, h => by
    have hmf : m = false := by
      cases m with
      | false => rfl
      | true => obtain ⟨c, hc⟩ := hm rfl; simp at hc
    subst hmf
    obtain ⟨x, x1, x2, _, x4⟩ := h a (by simp)
    obtain ⟨y, y1, y2, _, y4⟩ := res_bindAll (m := false) (l := b :: rest) (by simp) (by simp) (fun c hc => h c (by simp [hc]))
    refine ⟨x ++ y, ?_, by simp [x2], by simp, fun c hc => ?_⟩
    · simp only [bindAll, x1, y1]
    · rcases List.mem_append.1 hc with hc | hc
      · exact x4 c hc
      · exact y4 c hc

theorem all_max {P : α → Nat → Prop} (hP : ∀ a i j, i ≤ j → P a i → P a j) : ∀ (l : List α), (∀ a ∈ l, ∃ n, P a n) → ∃ n, ∀ a ∈ l, P a n
  | [], _ => ⟨0, fun a ha => by cases ha⟩
  | a :: l, h => by
    obtain ⟨n1, h1⟩ := h a (by simp)
    obtain ⟨n2, h2⟩ := all_max hP l (fun b hb => h b (by simp [hb]))
    refine ⟨max n1 n2, fun b hb => ?_⟩
    rcases List.mem_cons.1 hb with rfl | hb
    · exact hP _ _ _ (Nat.le_max_left _ _) h1
    · exact hP _ _ _ (Nat.le_max_right _ _) (h2 b hb)

theorem Res.bndN {x : Nat → Outs α} {f : Nat → α → Outs β} {Q : β → Prop} (hx : ∀ i j, i ≤ j → Le (x i) (x j)) (hf : ∀ i j, i ≤ j → ∀ a, Le (f i a) (f j a))
    (h : ∃ n, Res m (x n) fun a => ∃ k, Res m (f k a) Q) : ∃ n, Res m (Outs.bnd (x n) (f n)) Q := by
  obtain ⟨n, l, h1, h2, h3, h4⟩ := h
  obtain ⟨k, h5⟩ := all_max (P := fun a k => Res m (f k a) Q) (fun a i j hij hi => hi.le (hf i j hij a)) l h4
  refine ⟨max n k, ?_⟩
  rw [hx n _ (Nat.le_max_left _ _) l h1]
  exact res_bindAll h2 h3 fun a ha => (h5 a ha).le (hf k _ (Nat.le_max_right _ _) a)
end

section
variable {m : Bool} {E : Env}

theorem CallP.mono {f : Value} {args : List Value} {h : H} {Q Q' : Value → H → Prop} (hc : CallP m E f args h Q) (hq : ∀ v h', Q v h' → Q' v h') : CallP m E f args h Q' := by
  obtain ⟨n, hn⟩ := hc
  exact ⟨n, hn.mono fun r hr => hq _ _ hr⟩
theorem CallP.weaken {f : Value} {args : List Value} {h : H} {Q : Value → H → Prop} (hc : CallP true E f args h Q) : CallP m E f args h Q := by
  obtain ⟨n, hn⟩ := hc
  exact ⟨n, hn.weaken⟩
theorem CodeP.mono {c : ACode} {st : St} {Q Q' : AX → St → Prop} (hc : CodeP m E c st Q) (hq : ∀ x s, Q x s → Q' x s) : CodeP m E c st Q' := by
  obtain ⟨n, hn⟩ := hc
  exact ⟨n, hn.mono fun r hr => hq _ _ hr⟩

theorem code_le {i j : Nat} (h : i ≤ j) (c : ACode) (st : St) : Le ((runN E i).code c st) ((runN E j).code c st) := (runN_le E h).code c st
theorem call_le {i j : Nat} (h : i ≤ j) (f : Value) (args : List Value) (σ : H) : Le ((runN E i).call f args σ) ((runN E j).call f args σ) := (runN_le E h).call f args σ

theorem CodeP.now {c : ACode} {st : St} {Q : AX → St → Prop} (h : ∃ n, Res m (codeF (runN E n) c st) fun r => Q r.1 r.2) : CodeP m E c st Q := by
  obtain ⟨n, hn⟩ := h
  exact ⟨n + 1, hn⟩

theorem CodeP.seq {a b : ACode} {st : St} {Q : AX → St → Prop} (h : CodeP m E a st fun x s => match x with | .nrm => CodeP m E b s Q | x => Q x s) : CodeP m E (.seq a b) st Q := by
  refine CodeP.now (Res.bndN (x := fun n => (runN E n).code a st) (fun i j hij => code_le hij _ _) (fun i j hij r => ?_) ?_)
  · obtain ⟨x, s⟩ := r
    cases x <;> first | exact Le.refl _ | exact code_le hij _ _
  · obtain ⟨n, hn⟩ := h
    refine ⟨n, hn.mono fun r hr => ?_⟩
    obtain ⟨x, s⟩ := r
    cases x with
    | nrm => exact hr
    | _ => exact ⟨0, Res.one' hr⟩

theorem CodeP.block {id : Nat} {b : ACode} {st : St} {Q : AX → St → Prop} (h : CodeP m E b st fun x s => match x with | .ext j => bif Nat.beq j id then Q .nrm s else Q (.ext j) s | x => Q x s) : CodeP m E (.block id b) st Q := by
  refine CodeP.now (Res.bndN (x := fun n => (runN E n).code b st) (fun i j hij => code_le hij _ _) (fun i j hij r => Le.refl _) ?_)
  obtain ⟨n, hn⟩ := h
  refine ⟨n, hn.mono fun r hr => ⟨0, ?_⟩⟩
  obtain ⟨x, s⟩ := r
  cases x with
  | ext j =>
    simp only at hr ⊢
    cases hj : Nat.beq j id <;> rw [hj] at hr <;> exact Res.one' hr
  | _ => exact Res.one' hr

theorem CodeP.loop {b : ACode} {st : St} {Q : AX → St → Prop} (h : CodeP m E b st fun x s => match x with | .nrm => CodeP m E (.loop b) s Q | x => Q x s) : CodeP m E (.loop b) st Q := by
  refine CodeP.now (Res.bndN (x := fun n => (runN E n).code b st) (fun i j hij => code_le hij _ _) (fun i j hij r => ?_) ?_)
  · obtain ⟨x, s⟩ := r
    cases x <;> first | exact Le.refl _ | exact code_le hij _ _
  · obtain ⟨n, hn⟩ := h
    refine ⟨n, hn.mono fun r hr => ?_⟩
    obtain ⟨x, s⟩ := r
    cases x with
    | nrm => exact hr
    | _ => exact ⟨0, Res.one' hr⟩

theorem CodeP.scope {body cur : ACode} {st : St} {Q : AX → St → Prop} (h : CodeP m E cur st fun x s => match x with | .gto l => (match findLabelA body l with | some rest => CodeP m E (.scope body rest) s Q | none => Q (.gto l) s) | x => Q x s) : CodeP m E (.scope body cur) st Q := by
  refine CodeP.now (Res.bndN (x := fun n => (runN E n).code cur st) (fun i j hij => code_le hij _ _) (fun i j hij r => ?_) ?_)
  · obtain ⟨x, s⟩ := r
    cases x <;> try exact Le.refl _
    simp only
    split
    · exact code_le hij _ _
    · exact Le.refl _
  · obtain ⟨n, hn⟩ := h
    refine ⟨n, hn.mono fun r hr => ?_⟩
    obtain ⟨x, s⟩ := r
    cases x with
    | gto l =>
      simp only at hr ⊢
      cases hl : findLabelA body l with
      | some rest => rw [hl] at hr; exact hr
      | none => rw [hl] at hr; exact ⟨0, Res.one' hr⟩
    | _ => exact ⟨0, Res.one' hr⟩

theorem CodeP.cond {o : Operand} {a b : ACode} {st : St} {t : Bool} {Q : AX → St → Prop} (ht : ev st.tm o = .bool t) (h : CodeP m E (bif t then a else b) st Q) : CodeP m E (.cond o a b) st Q := by
  obtain ⟨n, hn⟩ := h
  refine ⟨n + 1, ?_⟩
  show Res m (codeF (runN E n) (.cond o a b) st) fun r => Q r.1 r.2
  simp only [codeF, ht]
  exact hn

theorem CodeP.atom {c : ACode} {st : St} {Q : AX → St → Prop} {x : AX} (hc : ∀ R, codeF R c st = some [(x, st)]) (h : Q x st) : CodeP m E c st Q := by
  refine ⟨1, ?_⟩
  show Res m (codeF (runN E 0) c st) fun r => Q r.1 r.2
  rw [hc]
  exact Res.one' h
end

/-! ### Kinds -/
theorem dC_ex {k : VC} {K : Value → Prop} (h : dC k K) : ∃ v, K v := by
  cases k with
  | sl => obtain ⟨p, n, c, h⟩ := h; exact ⟨_, h⟩
  | fn => obtain ⟨p, n, c, h⟩ := h; exact ⟨_, h⟩
  | ifc =>
    rcases h with h | ⟨t, v, h⟩
    · exact ⟨_, h⟩
    · exact ⟨_, h⟩
  | _ => obtain ⟨b, h⟩ := h; exact ⟨_, h⟩
theorem dCs_ex : ∀ {ks : List VC} {K : List Value → Prop}, dCs ks K → ∃ vs, K vs
  | [], _, h => ⟨[], h⟩
  | k :: ks, _, h => by
    obtain ⟨v, h⟩ := dC_ex (k := k) h
    obtain ⟨vs, h⟩ := dCs_ex (ks := ks) h
    exact ⟨_, h⟩
theorem d1_ex {k : V1} {K : Value → Prop} (h : d1 k K) : ∃ v, K v := by
  cases k with
  | sl => obtain ⟨p, n, c, h⟩ := h; exact ⟨_, h⟩
  | fn => obtain ⟨p, n, c, h⟩ := h; exact ⟨_, h⟩
  | ifc =>
    rcases h with h | ⟨t, v, h⟩
    · exact ⟨_, h⟩
    · exact ⟨_, h⟩
  | agg ks => obtain ⟨vs, h⟩ := dCs_ex (ks := ks) h; exact ⟨_, h⟩
  | _ => obtain ⟨b, h⟩ := h; exact ⟨_, h⟩
theorem d1s_ex : ∀ {ks : List V1} {K : List Value → Prop}, d1s ks K → ∃ vs, K vs
  | [], _, h => ⟨[], h⟩
  | k :: ks, _, h => by
    obtain ⟨v, h⟩ := d1_ex (k := k) h
    obtain ⟨vs, h⟩ := d1s_ex (ks := ks) h
    exact ⟨_, h⟩
theorem dVal_ex (k : VK) {K : Value → Prop} (h : dVal k K) : ∃ v, K v := by
  cases k with
  | sl => obtain ⟨p, n, c, h⟩ := h; exact ⟨_, h⟩
  | fn => obtain ⟨p, n, c, h⟩ := h; exact ⟨_, h⟩
  | ifc =>
    rcases h with h | ⟨t, v, h⟩
    · exact ⟨_, h⟩
    · exact ⟨_, h⟩
  | agg ks => obtain ⟨vs, h⟩ := dCs_ex (ks := ks) h; exact ⟨_, h⟩
  | tup ks => obtain ⟨vs, h⟩ := d1s_ex (ks := ks) h; exact ⟨_, h⟩
  | _ => obtain ⟨b, h⟩ := h; exact ⟨_, h⟩
theorem dVals_ex : ∀ (ks : List VK) {K : List Value → Prop}, dVals ks K → ∃ vs, K vs
  | [], _, h => ⟨[], h⟩
  | k :: ks, _, h => by
    obtain ⟨v, h⟩ := dVal_ex k h
    obtain ⟨vs, h⟩ := dVals_ex ks h
    exact ⟨_, h⟩

theorem forkB_ok {v : Value} {Q : Value → Prop} (h : forkB v Q) : Q v := by
  cases v with
  | bool b => cases b <;> exact h
  | _ => exact h

theorem fk_ok {vk : VK} {v : Value} {Q : Value → Prop} (h : fk vk v Q) : Q v := by
  unfold fk at h
  split at h
  · exact h
  · exact forkB_ok h

theorem forkL_ok : ∀ {vs : List Value} {Q : List Value → Prop}, forkL vs Q → Q vs
  | [], _, h => h
  | v :: vs, _, h => forkL_ok (vs := vs) (forkB_ok (v := v) h)

theorem optP_ok {α : Type} {p : Option α} {K : α → Prop} (h : optP p K) : ∃ a, p = some a ∧ K a := by
  cases p with
  | none => exact h.elim
  | some a => exact ⟨a, rfl, h⟩

theorem getP_ok {v : Value} {K : Addr → Prop} (h : getP v K) : ∃ a, v = .pointer (some a) ∧ K a := by
  unfold getP at h
  split at h
  · obtain ⟨a, rfl, h⟩ := optP_ok h; exact ⟨a, rfl, h⟩
  · exact h.elim

/-! ### Operations -/
theorem nilT_ok {k : NK} {x y : Value} {b : Bool} (h : nilT k x y = some b) : nilEq k x y = some b := by
  unfold nilT at h
  split at h
  · rename_i p
    cases h
    cases p <;> rfl
  · rename_i p _ _ _ _
    cases h
    cases p <;> rfl
  · rename_i p
    cases h
    cases p <;> rfl
  · cases h

theorem nilBin_ok {op : BinOp} {ek : EK} {kc : Bool} {x y : Value} {b : Bool} (h : nilBin op ek x y = some b) : abin op ek kc x y = some (.bool b) := by
  have key : ∀ k b, nilT k x y = some b → aeqG (.nilable k) kc x y = some b := by
    intro k b hb
    unfold aeqG
    split
    · exfalso
      unfold nilT at hb
      split at hb <;> simp_all
    · exact nilT_ok hb
  unfold nilBin at h
  split at h
  · rename_i k
    simp only [abin, key _ _ h, Option.map_some]
  · rename_i k
    obtain ⟨c, h1, h2⟩ := Option.map_eq_some_iff.1 h
    subst h2
    simp only [abin, key _ _ h1, Option.map_some]
  · cases h

theorem gP_ok {vk : VK} {op : AOp} {Q : Value → Prop} (h : gP vk op Q) : ∃ v, pureV op = some v ∧ Q v := by
  obtain ⟨v, h1, h2⟩ := dVal_ex _ h
  exact ⟨v, h1, fk_ok h2⟩

theorem stP_ok {tm : Tm} {op : AOp} {Q : Value → Prop} (h : stP tm op Q) : ∃ v, apure tm op = some v ∧ Q v := by
  unfold stP at h
  split at h
  · rename_i v hv; exact ⟨v, hv, forkB_ok h⟩
  · exact h.elim

theorem wpBin_ok {vk : VK} {op : BinOp} {ek : EK} {kc : Bool} {x y : Value} {Q : Value → Prop} (h : wpBin vk op ek kc x y Q) : ∃ v, abin op ek kc x y = some v ∧ Q v := by
  unfold wpBin at h
  split at h
  · rename_i b hb
    exact ⟨_, nilBin_ok hb, forkB_ok h⟩
  · split at h
    case h_6 =>
      split at h
      · rename_i v hv; exact ⟨v, hv, forkB_ok h⟩
      · exact h.elim
    all_goals
      obtain ⟨v, h1, h2⟩ := dVal_ex _ h
      exact ⟨v, h1, forkB_ok h2⟩

theorem opC_opt (tm : Tm) (x : Option Operand) : (x.map fun o => Operand.const (ev tm o)).map (ev .leaf) = x.map (ev tm) := by cases x <;> rfl

theorem wpPure_ok {vk : VK} {op : AOp} {tm : Tm} {Q : Value → Prop} (h : wpPure vk op tm Q) : ∃ v, apure tm op = some v ∧ Q v := by
  cases op with
  | nilCheck x =>
    simp only [wpPure] at h
    split at h
    · rename_i p hp
      obtain ⟨a, rfl, h⟩ := optP_ok h
      exact ⟨.pointer (some a), by simp only [apure, hp], h⟩
    · exact gP_ok h
  | fieldAddr off x =>
    obtain ⟨a, h1, h2⟩ := getP_ok h
    exact ⟨.pointer (some (addOff a off)), by simp only [apure, h1], h2⟩
  | idxAddrArr len esz x i =>
    obtain ⟨a, h1, h2⟩ := getP_ok h
    split at h2
    · rename_i k i' hi
      obtain ⟨h3, h4⟩ := h2
      exact ⟨.pointer (some (addOff a (i'.toNat * esz))), by simp only [apure, h1, hi, if_pos h3], h4⟩
    · exact h2.elim
  | idxAddrSl esz x i =>
    simp only [wpPure] at h
    split at h
    · rename_i p len c k i' hx hi
      obtain ⟨a, rfl, h3, h4⟩ := optP_ok h
      exact ⟨_, by simp only [apure, hx, hi, if_pos h3], h4⟩
    · exact h.elim
  | bin op ek kc x y => exact wpBin_ok h
  | slc k x lo hi mx =>
    obtain ⟨v, h1, h2⟩ := gP_ok h
    refine ⟨v, ?_, h2⟩
    have h3 : aslice k (ev tm x) ((lo.map fun o => Operand.const (ev tm o)).map (ev .leaf)) ((hi.map fun o => Operand.const (ev tm o)).map (ev .leaf)) ((mx.map fun o => Operand.const (ev tm o)).map (ev .leaf)) = some v := h1
    rw [opC_opt, opC_opt, opC_opt] at h3
    exact h3
  | idxArr l e g x i => exact gP_ok h
  | idxStr x i => exact gP_ok h
  | tassert t z ok x => exact gP_ok h
  | _ => exact stP_ok h

theorem ld_load {h : H} {agg : Option Nat} {tm : Tm} {x : Operand} {a : Addr} (hx : ev tm x = .pointer (some a)) : aread h tm (.load agg x) = ld h agg a := by
  cases agg <;> simp only [aread, hx, ld] <;> try rfl

theorem wpRead_ok {vk : VK} {op : AOp} {tm : Tm} {h : H} {Q : Value → Prop} (hc : op.cls = .read) (hw : wpRead vk op tm h Q) : ∃ v, aread h tm op = some v ∧ Q v := by
  cases op <;> simp only [AOp.cls, reduceCtorEq] at hc
  case load agg x =>
    obtain ⟨a, h1, h2⟩ := getP_ok hw
    obtain ⟨v, h3, h4⟩ := dVal_ex _ h2
    exact ⟨v, by rw [ld_load h1]; exact h3, fk_ok h4⟩
  all_goals
    obtain ⟨v, h3, h4⟩ := dVal_ex vk (K := fun v => readV h (opC tm _) = some v ∧ fk vk v Q) hw
    exact ⟨v, h3, fk_ok h4⟩

theorem readC {op : AOp} {tm : Tm} {h : H} (hc : op.cls = .read) : readV h (opC tm op) = aread h tm op := by
  cases op <;> simp only [AOp.cls, reduceCtorEq] at hc <;> rfl

theorem wpNew_ok {op : AOp} {tm : Tm} {L : Nat} {Q : Value → AObj → Prop} (hw : wpNew op tm L Q) : ∃ r, anew tm L op = some r ∧ Q r.2 r.1 := by
  unfold wpNew at hw
  split at hw
  · split at hw
    · rename_i h1 h2
      obtain ⟨h3, h4⟩ := hw
      exact ⟨(.row (repeatL _ _) false false, .slice _ _ _), by simp only [anew, h1, h2, if_pos h3], h4⟩
    · exact hw.elim
  · obtain ⟨p, n, c, o, h1, h2⟩ := hw
    exact ⟨(o, .slice p n c), h1, h2⟩
  · split at hw
    · rename_i r hr; exact ⟨r, hr, hw⟩
    · exact hw.elim

theorem actC {op : AOp} {tm : Tm} {h : H} (hc : op.cls = .act) (h1 : ∀ s a v, op ≠ .store s a v) (h2 : ∀ e z k s x, op ≠ .append e z k s x) : actV h (opC tm op) = aact h tm op := by
  cases op <;> simp only [AOp.cls, reduceCtorEq] at hc <;> first | rfl | exact absurd rfl (h1 _ _ _) | exact absurd rfl (h2 _ _ _ _ _)

theorem wpAct_ok {m : Bool} {E : Env} {vk : VK} {op : AOp} {tm : Tm} {h : H} {Q : Value → H → Prop} (hc : op.cls = .act) (hw : wpAct m E vk op tm h Q) : ∃ n, Res m (opA (runN E n) op tm h) fun r => Q r.1 r.2 := by
  have gen : ∀ (o : AOp), Res m (actV h o) (fun r => dVal vk fun u => r.1 = u ∧ fk vk u fun u => Q u r.2) → Res m (actV h o) fun r => Q r.1 r.2 := by
    intro o ho
    refine ho.mono fun r hr => ?_
    obtain ⟨u, rfl, h2⟩ := dVal_ex _ hr
    exact fk_ok h2
  cases op <;> simp only [AOp.cls, reduceCtorEq] at hc
  case store size a v =>
    refine ⟨0, ?_⟩
    obtain ⟨a', h1, h2⟩ := getP_ok hw
    cases hn : Nat.beq (cellsOf (ev tm v)).length size with
    | false => rw [hn] at h2; exact h2.elim
    | true =>
      rw [hn] at h2
      obtain ⟨h', h3, h4⟩ := h2
      have : opA (runN E 0) (.store size a v) tm h = some [(undef, h')] := by
        simp only [opA, AOp.cls, aact, h1, hn, cond_true, h3, Option.map_some]
      rw [this]; exact Res.one' h4
  case append esz zero mk s x =>
    refine ⟨0, ?_⟩
    obtain ⟨p, n, c, h', h1, h2⟩ := hw
    have : opA (runN E 0) (.append esz zero mk s x) tm h = some [(.slice p n c, h')] := by
      simp only [opA, AOp.cls, aact, h1, Option.map_some]
    rw [this]; exact Res.one' h2
  case call f args =>
    obtain ⟨n, hn⟩ := hw
    refine ⟨n, hn.mono fun r hr => ?_⟩
    obtain ⟨u, h1, h2⟩ := dVal_ex _ hr
    rw [h1]; exact fk_ok h2
  case next str x =>
    refine ⟨0, Res.mono hw fun r hr => ?_⟩
    rcases hr with ⟨h1, h2⟩ | hr
    · rw [h1]; exact h2
    · split at hr
      · obtain ⟨us, h1, h2⟩ := d1s_ex hr
        rw [h1]; exact h2
      · exact hr.elim
  all_goals exact ⟨0, gen _ hw⟩

theorem wpOp_ok {m : Bool} {E : Env} {vk : VK} {op : AOp} {tm : Tm} {h : H} {Q : Value → H → Prop} (hw : wpOp m E vk op tm h Q) : ∃ n, Res m (opA (runN E n) op tm h) fun r => Q r.1 r.2 := by
  unfold wpOp at hw
  split at hw
  · rename_i hc
    obtain ⟨v, h1, h2⟩ := wpPure_ok hw
    refine ⟨0, ?_⟩
    simp only [opA, hc, h1, Option.map_some]
    exact Res.one' h2
  · rename_i hc
    obtain ⟨v, h1, h2⟩ := wpRead_ok hc hw
    refine ⟨0, ?_⟩
    simp only [opA, hc, h1, Option.map_some]
    exact Res.one' h2
  · rename_i hc
    obtain ⟨r, h1, h2⟩ := wpNew_ok hw
    refine ⟨0, ?_⟩
    simp only [opA, hc, h1, Option.map_some]
    exact Res.one' (h2 _ rfl)
  · rename_i hc
    exact wpAct_ok hc hw

theorem wpStep_ok {m : Bool} {E : Env} {vk : Kinds} {o : AOper} {st : St} {Q : St → Prop} (hw : wpStep m E vk o st Q) : ∃ n, Res m (stepA (runN E n) o st) Q := by
  unfold wpStep at hw
  split at hw
  · rename_i hg
    obtain ⟨n, hn⟩ := wpOp_ok hw
    obtain ⟨k, hk⟩ := Res.bndN (x := fun _ => opA (runN E n) o.op st.tm st.h) (f := fun _ r => some [{ st with tm := putDst st.tm o.dst r.1, h := r.2 }]) (Q := Q) (m := m) (fun _ _ _ => Le.refl _) (fun _ _ _ _ => Le.refl _) ⟨0, hn.mono fun r hr => ⟨0, Res.one' hr⟩⟩
    exact ⟨n, by simp only [stepA, hg]; exact hk⟩
  · rename_i hg
    exact ⟨0, by simp only [stepA, hg]; exact Res.one' hw⟩
  · exact hw.elim

theorem wpOps_ok {m : Bool} {E : Env} {vk : Kinds} : ∀ {ops : List AOper} {st : St} {Q : St → Prop}, wpOps m E vk ops st Q → ∃ n, Res m (opsA (runN E n) ops st) Q
  | [], _, _, hw => ⟨0, Res.one' hw⟩
  | o :: os, st, Q, hw => by
    obtain ⟨n, hn⟩ := wpStep_ok hw
    exact Res.bndN (x := fun n => stepA (runN E n) o st) (f := fun n => opsA (runN E n) os) (fun i j hij => stepA_mono (runN_le E hij) _ _) (fun i j hij a => opsA_mono (runN_le E hij) _ _) ⟨n, hn.mono fun s hs => wpOps_ok hs⟩

/-! ### Draws -/
inductive RdRel : Rd → List (Tm × AOp × Value × List Nat) → Prop
  | nil : RdRel [] []
  | skip {r l tm op v} : RdRel r l → RdRel r ((tm, op, v, []) :: l)
  | cons {r l tm op v j js} : op.cls = .read → RdRel r l → RdRel ((opC tm op, v, j :: js) :: r) ((tm, op, v, j :: js) :: l)

theorem RdRel.add {r : Rd} {l : List (Tm × AOp × Value × List Nat)} {tm : Tm} {op : AOp} {v : Value} (hc : op.cls = .read) (h : RdRel r l) : ∀ js, RdRel (addRd (opC tm op) v js r) ((tm, op, v, js) :: l)
  | [] => .skip h
  | _ :: _ => .cons hc h

theorem againJ_ok {hist : List H} {op : AOp} {v : Value} {tm : Tm} (hc : op.cls = .read) : ∀ {js : List Nat} {P : Prop}, againJ hist (opC tm op) v js P → (js.all fun j => match getH hist j with
      | some h => match aread h tm op with
        | some u => veq u v
        | none => false
      | none => false) = true ∧ P
  | [], P, h => ⟨rfl, h⟩
  | j :: js, P, h => by
    simp only [againJ] at h
    simp only [List.all_cons, Bool.and_eq_true]
    split at h
    · rename_i σ hσ
      obtain ⟨⟨u, h1, h2⟩, h3⟩ := h
      rw [readC hc] at h1
      obtain ⟨h4, h5⟩ := againJ_ok hc h3
      refine ⟨⟨?_, h4⟩, h5⟩
      simp only [hσ, h1, h2]
    · exact h.elim

theorem againP_ok {hist : List H} {r : Rd} {l : List (Tm × AOp × Value × List Nat)} (h : RdRel r l) : ∀ {P : Prop}, againP hist r P → againOk hist l = true ∧ P := by
  induction h with
  | nil => intro P h; exact ⟨rfl, h⟩
  | skip _ ih =>
    intro P h
    obtain ⟨h1, h2⟩ := ih h
    exact ⟨by simp [againOk, h1], h2⟩
  | cons hc _ ih =>
    intro P h
    obtain ⟨h1, h2⟩ := againJ_ok hc h
    obtain ⟨h3, h4⟩ := ih h2
    exact ⟨by simp only [againOk, Bool.and_eq_true]; exact ⟨h1, h3⟩, h4⟩

theorem gb_eq (old h : H) (base : Nat) (l : List Nat) : gb old h base l = giveBack old h base l := by cases l <;> rfl

theorem wpDrawStep_ok {E : Env} {vk : Kinds} {base i : Nat} {o : AOper} {c : Chk} {st : St} {hist : List H} {rds : Rd} {rr : List (Tm × AOp × Value × List Nat)} {K : St → List H → Rd → Prop} (hr : RdRel rds rr) (hw : wpDrawStep E vk base i o c st hist rds K) :
    ∃ n d', drawStep (runN E n) base i o c ⟨st, hist, rr⟩ = some d' ∧ ∃ rds', RdRel rds' d'.reads ∧ K d'.st d'.hist rds' := by
  unfold wpDrawStep at hw
  split at hw
  · rename_i hg
    split at hw
    · rename_i hc
      obtain ⟨v, h1, h2⟩ := wpPure_ok hw
      exact ⟨0, ⟨⟨putDst st.tm o.dst v, st.ds, st.rnd, st.h⟩, hist, rr⟩, by simp only [drawStep, hg, hc, h1, Option.map_some], rds, hr, h2⟩
    · rename_i hc
      obtain ⟨v, h1, h2⟩ := wpRead_ok hc hw
      exact ⟨0, ⟨⟨putDst st.tm o.dst v, st.ds, st.rnd, st.h⟩, hist, (st.tm, o.op, v, c.again) :: rr⟩, by simp only [drawStep, hg, hc, h1, Option.map_some], _, hr.add hc _, h2⟩
    · rename_i hc
      obtain ⟨r, h1, h2⟩ := wpNew_ok hw
      exact ⟨0, ⟨⟨putDst st.tm o.dst r.2, st.ds, st.rnd, st.h.put (base + i) r.1⟩, hist, rr⟩, by simp only [drawStep, hg, hc, h1, Option.map_some], rds, hr, h2 _ rfl⟩
    · rename_i hc
      obtain ⟨n, hn⟩ := wpAct_ok hc hw
      obtain ⟨r, h1, h2⟩ := hn.single
      rw [gb_eq] at h2
      exact ⟨n, ⟨⟨putDst st.tm o.dst r.1, st.ds, st.rnd, giveBack st.h r.2 base c.hide⟩, r.2 :: hist, rr⟩, by simp only [drawStep, hg, hc, h1, one, Option.map_some], rds, hr, h2⟩
  · rename_i hg
    split at hw
    · rename_i hc
      rw [gb_eq] at hw
      exact ⟨0, ⟨⟨putDst st.tm o.dst undef, st.ds, st.rnd, giveBack st.h (killAll st.h base c.hide) base c.hide⟩, killAll st.h base c.hide :: hist, rr⟩, by simp only [drawStep, hg, hc], rds, hr, hw⟩
    · rename_i hc
      refine ⟨0, ⟨⟨putDst st.tm o.dst undef, st.ds, st.rnd, st.h⟩, hist, rr⟩, ?_, rds, hr, hw⟩
      simp only [drawStep, hg]
      try split <;> first | rfl | exact absurd ‹_› hc
  · exact hw.elim

theorem wpDrawOps_ok {E : Env} {vk : Kinds} {base : Nat} : ∀ {ops : List AOper} {cs : List Chk} {i : Nat} {st : St} {hist : List H} {rds : Rd} {rr : List (Tm × AOp × Value × List Nat)} {K : St → List H → Rd → Prop}, RdRel rds rr → wpDrawOps E vk base i ops cs st hist rds K →
    ∃ n d', drawOps (runN E n) base i ops cs ⟨st, hist, rr⟩ = some d' ∧ ∃ rds', RdRel rds' d'.reads ∧ K d'.st d'.hist rds'
  | [], _, _, _, _, rds, _, _, hr, hw => ⟨0, _, rfl, rds, hr, by simpa only [wpDrawOps] using hw⟩
  | _ :: _, [], _, _, _, _, _, _, _, hw => by simp [wpDrawOps] at hw
  | o :: os, c :: cs, i, st, hist, rds, rr, K, hr, hw => by
    simp only [wpDrawOps] at hw
    obtain ⟨n, d1, h1, rds1, h2, h3⟩ := wpDrawStep_ok hr hw
    obtain ⟨k, d2, h4, h5⟩ := wpDrawOps_ok (ops := os) (cs := cs) (st := d1.st) (hist := d1.hist) (rr := d1.reads) h2 h3
    refine ⟨max n k, d2, ?_, h5⟩
    simp only [drawOps]
    rw [drawStep_mono (runN_le E (Nat.le_max_left n k)) _ _ _ _ _ d1 h1]
    exact drawOps_mono (runN_le E (Nat.le_max_right n k)) _ _ _ _ _ d2 h4

theorem wpDraw_ok {m : Bool} {E : Env} {vk : Kinds} {ops : List AOper} {chk : List Chk} {st : St} {Q : St → Prop} (hw : wpDraw E vk ops chk st Q) : ∃ n, Res m ((drawA (runN E n) ops chk st).map fun s => [s]) Q := by
  obtain ⟨n, d, h1, rds, h2, h3⟩ := wpDrawOps_ok .nil (hw _ rfl)
  obtain ⟨h4, h5⟩ := againP_ok h2 h3
  refine ⟨n, ?_⟩
  have : drawA (runN E n) ops chk st = some d.st := by
    simp only [drawA]
    rw [h1]
    simp only [h4, cond_true]
  rw [this]
  exact Res.one' h5

/-! ### Loops -/
theorem eqAX_eq {x y : AX} (h : eqAX x y = true) : x = y := by
  cases x <;> cases y <;> simp [eqAX] at h <;> first | rfl | simp_all
theorem eqAX_self (x : AX) : eqAX x x = true := by cases x <;> simp [eqAX]

theorem Trie.setF_same {α : Type} : ∀ (f : Nat) (t : Trie α) (n : Nat) (a : α), n < f → t.get n = some a → Trie.setF f t n a = t
  | 0, _, _, _, h, _ => absurd h (by omega)
  | f + 1, .leaf, n, a, _, h => by simp at h
  | f + 1, .node l v r, 0, a, _, h => by
    have : v = some a := h
    subst this; rfl
  | f + 1, .node l v r, k + 1, a, hn, h => by
    simp only [Trie.setF, Trie.left, Trie.mid, Trie.right]
    rw [Trie.get_succ] at h
    by_cases hk : k % 2 = 0
    · rw [if_pos hk] at h
      have hb : Nat.beq (k % 2) 0 = true := by simp [hk]
      rw [hb]
      simp only [cond_true]
      rw [Trie.setF_same f l (k / 2) a (by omega) h]
    · rw [if_neg hk] at h
      rw [Trie.beq_zero_of_ne hk]
      simp only [cond_false]
      rw [Trie.setF_same f r (k / 2) a (by omega) h]

theorem Trie.set_same {α : Type} {t : Trie α} {n : Nat} {a : α} (h : t.get n = some a) : t.set n a = t := Trie.setF_same _ _ _ _ (by omega) h

theorem ovl_same {tm : Tm} : ∀ {ts : List Tmp} {vs : List Value}, getAll tm ts = some vs → ovl tm ts vs = tm
  | [], vs, _ => by cases vs <;> rfl
  | t :: ts, vs, h => by
    simp only [getAll] at h
    split at h
    · rename_i v us h1 h2
      simp only [Option.some.injEq] at h
      subst h
      simp only [ovl]
      rw [ovl_same h2]
      exact Trie.set_same h1
    · cases h

theorem hasX_mem {y : AX} {l : List (Tmp × VK)} : ∀ {r : List (AX × List (Tmp × VK))}, (y, l) ∈ r → hasX y r = true
  | (z, lz) :: r, h => by
    simp only [hasX]
    rcases List.mem_cons.1 h with h | h
    · cases h; rw [eqAX_self]; rfl
    · cases eqAX y z with
      | true => rfl
      | false => exact hasX_mem h

theorem outT_of {y : AX} {l : List (Tmp × VK)} : ∀ {outs : List (AX × List (Tmp × VK))}, distinctX outs = true → (y, l) ∈ outs → outT y outs = some l
  | (z, lz) :: r, hd, h => by
    simp only [distinctX] at hd
    cases hx : hasX z r with
    | true => rw [hx] at hd; cases hd
    | false =>
      rw [hx] at hd
      simp only [outT]
      rcases List.mem_cons.1 h with h2 | h2
      · cases h2
        rw [eqAX_self]; rfl
      · have : eqAX y z = false := by
          cases hq : eqAX y z with
          | false => rfl
          | true =>
            have := eqAX_eq hq
            subst this
            rw [hasX_mem h2] at hx; cases hx
        rw [this]
        exact outT_of hd h2

theorem exitsP_ok {x : AX} {vs : List Value} {K : AX → List Tmp → List Value → Prop} : ∀ {outs : List (AX × List (Tmp × VK))}, exitsP x vs K outs → ∃ l, (x, l) ∈ outs ∧ K x (l.map Prod.fst) vs
  | [], h => h.elim
  | [(y, l)], h => by
    obtain ⟨rfl, h⟩ := h
    obtain ⟨us, rfl, h⟩ := dVals_ex _ h
    exact ⟨l, by simp, forkL_ok h⟩
  | (y, l) :: z :: r, h => by
    rcases h with ⟨rfl, h⟩ | h
    · obtain ⟨us, rfl, h⟩ := dVals_ex _ h
      exact ⟨l, by simp, forkL_ok h⟩
    · obtain ⟨l', h1, h2⟩ := exitsP_ok h
      exact ⟨l', List.mem_cons_of_mem _ h1, h2⟩

theorem anyX_ok {x : AX} {K : AX → Prop} : ∀ {outs : List (AX × List (Tmp × VK))}, anyX x K outs → K x
  | [], h => h.elim
  | [(_, _)], ⟨h1, h2⟩ => h1 ▸ h2
  | (_, _) :: _ :: _, h => by
    rcases h with ⟨rfl, h⟩ | h
    · exact h
    · exact anyX_ok h

/-! ### Code -/
theorem wpC_ok {m : Bool} {E : Env} {vk : Kinds} {ann : Anns} : ∀ {c : ACode} {cur : Nat} {st : St} {Q : AX → St → Prop}, wpC m E vk ann cur c st Q → CodeP m E c st Q := by
  intro c
  induction c with
  | skip => intro cur st Q h; exact CodeP.atom (fun _ => rfl) h
  | label l => intro cur st Q h; exact CodeP.atom (fun _ => rfl) h
  | exit id => intro cur st Q h; exact CodeP.atom (fun _ => rfl) h
  | goto l => intro cur st Q h; exact CodeP.atom (fun _ => rfl) h
  | ret => intro cur st Q h; exact CodeP.atom (fun _ => rfl) h
  | refuse => intro cur st Q h; exact h.elim
  | region ops =>
    intro cur st Q h
    obtain ⟨n, hn⟩ := wpOps_ok h
    refine CodeP.now ⟨n, ?_⟩
    obtain ⟨k, hk⟩ := Res.bndN (x := fun _ => opsA (runN E n) ops st) (f := fun _ s => some [(AX.nrm, s)]) (Q := fun r => Q r.1 r.2) (m := m) (fun _ _ _ => Le.refl _) (fun _ _ _ _ => Le.refl _) ⟨0, hn.mono fun r hr => ⟨0, Res.one' hr⟩⟩
    exact hk
  | draw ops chk =>
    intro cur st Q h
    obtain ⟨n, hn⟩ := wpDraw_ok (m := m) h
    refine CodeP.now ⟨n, ?_⟩
    simp only [codeF]
    cases hd : drawA (runN E n) ops chk st with
    | none => rw [hd] at hn; obtain ⟨l, h1, _⟩ := hn; cases h1
    | some s =>
      rw [hd] at hn
      obtain ⟨l, h1, _, _, h2⟩ := hn
      cases h1
      exact Res.one' (h2 s (by simp))
  | seq a b iha ihb =>
    intro cur st Q h
    refine CodeP.seq ((iha (cur := cur) h).mono fun x s hx => ?_)
    cases x with
    | nrm => exact ihb (cur := cur) hx
    | _ => exact hx
  | cond o a b iha ihb =>
    intro cur st Q h
    simp only [wpC] at h
    split at h
    · rename_i t ht
      refine CodeP.cond ht ?_
      cases t with
      | true => exact iha (cur := cur) h
      | false => exact ihb (cur := cur) h
    · exact h.elim
  | block id b ih =>
    intro cur st Q h
    refine CodeP.block ((ih (cur := id) h).mono fun x s hx => ?_)
    cases x <;> exact hx
  | loop b _ =>
    intro cur st Q h
    simp only [wpC] at h
    split at h
    · rename_i a ha
      split at h
      · rename_i vals hv
        cases hd : distinctX a.outs with
        | false => rw [hd] at h; exact h.elim
        | true =>
          rw [hd] at h
          refine (h st.tm hv).mono fun x s hx => ?_
          obtain ⟨hne, hx⟩ := hx
          unfold leaf at hx
          split at hx
          · rename_i ts hts
            split at hx
            · rename_i vs hvs
              obtain ⟨rfl', rfr, hq⟩ := hx
              obtain ⟨l, h1, h2⟩ := exitsP_ok (hq s.tm)
              have h3 := outT_of hd h1
              have : ts = l.map Prod.fst := by
                cases x <;> first | exact absurd rfl hne | (simp only [h3, Option.map_some, Option.some.injEq] at hts; exact hts.symm)
              subst this
              rw [ovl_same hvs] at h2
              rw [← rfl', ← rfr] at h2
              exact h2
            · exact hx.elim
          · exact hx.elim
      · exact h.elim
    · exact h
  | rangeFunc f ps asg body _ _ =>
    intro cur st Q h
    simp only [wpC] at h
    split at h
    · rename_i a ha
      split at h
      · rename_i vals hv
        refine (h st.tm hv).mono fun x s hx => ?_
        obtain ⟨h1, h2, h3, h4⟩ := hx
        have := anyX_ok h4
        rw [← h2, ← h3, ← h1] at this
        exact this
      · exact h.elim
    · exact h
  | scope body cur' _ _ => intro cur st Q h; exact h

/-! ### Functions -/
theorem wpRes_ok {tm : Tm} {h : H} : ∀ {res : List ARes} {K : List Value → Prop}, wpRes tm h res K → ∃ vs, resAll tm h res = some vs ∧ K vs
  | [], _, hw => ⟨[], rfl, hw⟩
  | .tmp t :: r, _, hw => by
    obtain ⟨vs, h1, h2⟩ := wpRes_ok (res := r) hw
    exact ⟨_, by simp only [resAll, resOne, h1], h2⟩
  | .cell t agg :: r, _, hw => by
    obtain ⟨a, h1, v, h2, h3⟩ := getP_ok hw
    obtain ⟨vs, h4, h5⟩ := wpRes_ok (res := r) h3
    refine ⟨v :: vs, ?_, h5⟩
    simp only [resAll, resOne, h4]
    rw [ld_load (tm := tm) (x := .tmp t) h1, h2]

theorem wpMarks_ok {ds : List Nat} {h : H} {K : H → Prop} (hw : wpMarks ds h K) : ∃ h', takeMarks ds h = some h' ∧ K h' := by
  unfold wpMarks at hw
  split at hw
  · exact ⟨h, rfl, hw⟩
  · exact hw

theorem wpF_body {m : Bool} {E : Env} {vk : Kinds} {ann : Anns} {f : AFunc} {args : List Value} {h : H} {N : Value → H → Prop} (hw : wpF m E vk ann f args h N) :
    Nat.ble args.length f.ntmps = true ∧ ∃ n, Res m (Outs.bnd ((runN E n).code f.body ⟨argTm 0 args .leaf, [], none, h.withLow h.next⟩) fun r => match r.1 with
      | .nrm | .ret => match takeMarks r.2.ds r.2.h with
        | some h' => (resAll r.2.tm h' f.res).map fun vs => [(pack vs, h')]
        | none => none
      | _ => none) fun r => N r.1 r.2 := by
  unfold wpF at hw
  cases hb : Nat.ble args.length f.ntmps with
  | false => rw [hb] at hw; exact hw.elim
  | true =>
    rw [hb] at hw
    refine ⟨rfl, ?_⟩
    obtain ⟨n, hn⟩ := wpC_ok (forkL_ok hw _ rfl)
    refine Res.bndN (x := fun n => (runN E n).code f.body ⟨argTm 0 args .leaf, [], none, h.withLow h.next⟩) (fun i j hij => code_le hij _ _) (fun _ _ _ _ => Le.refl _) ⟨n, hn.mono fun r hr => ⟨0, ?_⟩⟩
    obtain ⟨x, st⟩ := r
    have fin : wpMarks st.ds st.h (fun h => wpRes st.tm h f.res fun vs => N (pack vs) h) → Res m (match takeMarks st.ds st.h with
        | some h' => (resAll st.tm h' f.res).map fun vs => [(pack vs, h')]
        | none => none) fun r => N r.1 r.2 := by
      intro hr
      obtain ⟨h', h1, h2⟩ := wpMarks_ok hr
      obtain ⟨vs, h3, h4⟩ := wpRes_ok h2
      simp only [h1, h3, Option.map_some]
      exact Res.one' h4
    cases x with
    | nrm => exact fin hr
    | ret => exact fin hr
    | ext => exact hr.elim
    | gto => exact hr.elim

theorem dedup_sub {o : NOut} : ∀ (os acc : List NOut), o ∈ dedup acc os → o ∈ acc ∨ o ∈ os
  | [], acc, h => by simp only [dedup, List.mem_reverse] at h; exact .inl h
  | x :: os, acc, h => by
    rw [dedup] at h
    cases ha : acc.any (eqOut x) with
    | true =>
      rw [ha] at h
      rcases dedup_sub os acc h with h | h
      · exact .inl h
      · exact .inr (List.mem_cons_of_mem _ h)
    | false =>
      rw [ha] at h
      rcases dedup_sub os (x :: acc) h with h | h
      · rcases List.mem_cons.1 h with rfl | h
        · exact .inr (by simp)
        · exact .inl h
      · exact .inr (List.mem_cons_of_mem _ h)

theorem normAll_res {m : Bool} {h : H} {x : Outs (Value × H)} {Q : Value → H → Prop} (hx : Res m x fun r => NormP h Q r.1 r.2) : Res m (x.map (normAll h)) fun r => Q r.1 r.2 := by
  obtain ⟨l, rfl, h2, h3, h4⟩ := hx
  refine ⟨normAll h l, rfl, ?_, ?_, ?_⟩
  · cases l with
    | nil => exact absurd rfl h2
    | cons a l =>
      have : normOut h a ∈ dedup [] ((a :: l).map (normOut h)) := dedup_mem _ _ (.inr (by simp))
      intro hn
      have h5 : (dedup [] ((a :: l).map (normOut h))).map (outOf h) = [] := hn
      rw [List.map_eq_nil_iff] at h5
      rw [h5] at this; cases this
  · intro hm
    obtain ⟨a, rfl⟩ := h3 hm
    exact ⟨outOf h (normOut h a), rfl⟩
  · intro r hr
    obtain ⟨o, h5, rfl⟩ := List.mem_map.1 hr
    rcases dedup_sub _ _ h5 with h5 | h5
    · cases h5
    · obtain ⟨a, h6, rfl⟩ := List.mem_map.1 h5
      exact h4 a h6

section
variable {m : Bool} {E : Env} {vk : Kinds} {ann : Anns} {f : AFunc} {k : Nat} {first cap : Array Value} {args : List Value} {h : H} {Q : Value → H → Prop}

theorem callP_now {f : Value} (hc : ∃ n, Res m (callF E (runN E n) f args h) fun r => Q r.1 r.2) : CallP m E f args h Q := by
  obtain ⟨n, hn⟩ := hc
  exact ⟨n + 1, hn⟩

theorem callP_of (hs : E.sum k = none) (hf : E.fn k = some f) (hw : wpF m E vk ann f (first.toList ++ args ++ cap.toList) h (NormP h Q)) : CallP m E (.func (.func k) first cap) args h Q := by
  obtain ⟨h1, n, hn⟩ := wpF_body hw
  refine callP_now ⟨n, ?_⟩
  simp only [callF, hs, hf, funcF, h1, cond_true]
  exact normAll_res hn

theorem callP_sum {s : List Value → H → Outs (Value × H)} (hs : E.sum k = some s) (hr : Res m (s (first.toList ++ args ++ cap.toList) h) fun r => Q r.1 r.2) : CallP m E (.func (.func k) first cap) args h Q := by
  refine callP_now ⟨0, ?_⟩
  simp only [callF, hs]
  exact hr

theorem dedup_same {o : NOut} (ho : eqOut o o = true) : ∀ (l : List NOut), (∀ x ∈ l, x = o) → dedup [o] l = [o]
  | [], _ => rfl
  | x :: l, h => by
    have : x = o := h x (by simp)
    subst this
    rw [dedup]
    simp only [List.any_cons, ho, List.any_nil, Bool.or_false, cond_true]
    exact dedup_same ho l fun y hy => h y (by simp [hy])

/-- All outcomes look the same from outside: so there is one. -/
theorem callP_same {o : NOut} (hs : E.sum k = none) (hf : E.fn k = some f) (ho : eqOut o o = true) (hw : wpF false E vk ann f (first.toList ++ args ++ cap.toList) h fun v h' => normOut h (v, h') = o) (hQ : Q (outOf h o).1 (outOf h o).2) :
    CallP m E (.func (.func k) first cap) args h Q := by
  obtain ⟨h1, n, l, h2, h3, _, h4⟩ := wpF_body hw
  refine callP_now ⟨n, ?_⟩
  have : normAll h l = [outOf h o] := by
    unfold normAll
    cases l with
    | nil => exact absurd rfl h3
    | cons a l =>
      have h5 : ∀ x ∈ (a :: l).map (normOut h), x = o := by
        intro x hx
        obtain ⟨b, hb, rfl⟩ := List.mem_map.1 hx
        exact h4 b hb
      have h6 : normOut h a = o := h5 _ (by simp)
      rw [List.map_cons, h6, dedup]
      simp only [List.any_nil, cond_false]
      rw [dedup_same ho _ fun x hx => h5 x (by simp only [List.map_cons, List.mem_cons]; exact .inr hx)]
      rfl
  have key : ∀ x : Outs (Value × H), x = some l → Res m (x.map (normAll h)) fun r => Q r.1 r.2 := by
    intro x hx
    rw [hx, Option.map_some, this]
    exact Res.one' hQ
  simp only [callF, hs, hf, funcF, h1, cond_true]
  exact key _ h2
end
end Go.AM

/-
  Words for proofs about code.
-/
namespace Go.AM

theorem cond_intro {c : Bool} {A B : Prop} (ht : c = true → A) (hf : c = false → B) : cond c A B := by
  cases c
  · exact hf rfl
  · exact ht rfl

/-! ### Memory -/
@[simp] theorem get_enter (h : H) (K : Nat) : h.enter.get K = h.get K := rfl
@[simp] theorem next_enter (h : H) : h.enter.next = h.next := rfl
@[simp] theorem low_enter (h : H) : h.enter.low = h.next := rfl
@[simp] theorem low_new (h : H) (o : AObj) : (h.new o).low = h.low := rfl
theorem minN_eq (a b : Nat) : minN a b = min a b := by
  unfold minN
  cases hb : Nat.ble a b with
  | true => simp [Nat.min_eq_left (Nat.le_of_ble_eq_true hb)]
  | false =>
    have : ¬ a ≤ b := fun h => by rw [Nat.ble_eq_true_of_le h] at hb; cases hb
    simp; omega
@[simp] theorem low_put (h : H) (L : Nat) (o : AObj) : (h.put L o).low = min h.low L := minN_eq _ _
@[simp] theorem low_kill (h : H) (L : Nat) : (h.kill L).low = min h.low L := minN_eq _ _
@[simp] theorem low_skipTo (h : H) (n : Nat) : (h.skipTo n).low = h.low := rfl
@[simp] theorem low_withLow (h : H) (n : Nat) : (h.withLow n).low = n := rfl

theorem get_new_lt {h : H} {o : AObj} {K : Nat} (hK : K < h.next) : (h.new o).get K = h.get K := by
  rw [H.get_new, if_neg (by omega)]
theorem get_put_ne {h : H} {o : AObj} {L K : Nat} (hK : K ≠ L) : (h.put L o).get K = h.get K := by
  rw [H.get_put, if_neg hK]

theorem takeAt_if (cs : List Value) (off n : Nat) : takeAt cs off n = if ((cs.drop off).take n).length = n then some ((cs.drop off).take n) else none := by
  unfold takeAt
  simp only
  cases hb : Nat.beq ((cs.drop off).take n).length n with
  | true => rw [if_pos (Nat.eq_of_beq_eq_true hb)]; rfl
  | false => rw [if_neg (fun e => by rw [e, Nat.beq_refl] at hb; cases hb)]; rfl

theorem write_if (h : H) (a : Addr) (vs : List Value) : h.write a vs = match h.get a.block with
    | some (.row cs opn false) => if a.off + vs.length ≤ cs.length then some (h.put a.block (.row (setMany cs a.off vs) opn false)) else none
    | _ => none := by
  unfold H.write
  cases h.get a.block with
  | none => rfl
  | some o =>
    cases o with
    | row cs opn ro =>
      cases ro with
      | true => rfl
      | false =>
        simp only
        cases hb : Nat.ble (a.off + vs.length) cs.length with
        | true => rw [if_pos (Nat.le_of_ble_eq_true hb)]; rfl
        | false => rw [if_neg (fun e => by rw [Nat.ble_eq_true_of_le e] at hb; cases hb)]; rfl
    | _ => rfl

theorem ld_cell (h : H) (a : Addr) : ld h none a = match h.get a.block with
    | some (.row cs _ _) => cs[a.off]?
    | _ => none := rfl

/-- What a function leaves behind: a value without addresses; nothing that was there is written. -/
theorem NormP.plain {h0 h : H} {Q : Value → H → Prop} {v : Value} (hv : plain2 v = true) (hl : h0.next ≤ h.low) (hq : Q v h0) : NormP h0 Q v h := by
  have h1 : normOut h0 (v, h) = .pl v := by
    unfold normOut
    simp only [Nat.ble_eq_true_of_le hl, hv, cond_true]
  unfold NormP
  rw [h1]
  exact hq
theorem NormP_plain {h0 h : H} {Q : Value → H → Prop} {v : Value} (hv : plain2 v = true) (hl : decide (h0.next ≤ h.low) = true) : NormP h0 Q v h = Q v h0 := by
  have h1 : normOut h0 (v, h) = .pl v := by
    unfold normOut
    simp only [Nat.ble_eq_true_of_le (of_decide_eq_true hl), hv, cond_true]
  unfold NormP
  rw [h1]
  rfl

section
@[simp] theorem plain0_int (k : IntKind) (n : Int) : plain0 (.int k n) = true := rfl
@[simp] theorem plain0_bool (b : Bool) : plain0 (.bool b) = true := rfl
@[simp] theorem plain0_string (b : ByteArray) : plain0 (.string b) = true := rfl
@[simp] theorem plain0_ptr (p : Option Addr) : plain0 (.pointer p) = p.isNone := by cases p <;> rfl
@[simp] theorem plain0_slice (p : Option Addr) (n c : Nat) : plain0 (.slice p n c) = p.isNone := by cases p <;> rfl
@[simp] theorem plain0_map (p : Option Nat) : plain0 (.map p) = p.isNone := by cases p <;> rfl
@[simp] theorem plainV_int (k : IntKind) (n : Int) : plainV (.int k n) = true := rfl
@[simp] theorem plainV_bool (b : Bool) : plainV (.bool b) = true := rfl
@[simp] theorem plainV_string (b : ByteArray) : plainV (.string b) = true := rfl
@[simp] theorem plainV_ptr (p : Option Addr) : plainV (.pointer p) = p.isNone := by cases p <;> rfl
@[simp] theorem plainV_slice (p : Option Addr) (n c : Nat) : plainV (.slice p n c) = p.isNone := by cases p <;> rfl
@[simp] theorem plainV_map (p : Option Nat) : plainV (.map p) = p.isNone := by cases p <;> rfl
@[simp] theorem plainV_agg (l : List Value) : plainV (.agg ⟨l⟩) = l.all plain0 := rfl
@[simp] theorem plainV_tuple (l : List Value) : plainV (.tuple ⟨l⟩) = l.all plain0 := rfl
@[simp] theorem plain2_int (k : IntKind) (n : Int) : plain2 (.int k n) = true := rfl
@[simp] theorem plain2_bool (b : Bool) : plain2 (.bool b) = true := rfl
@[simp] theorem plain2_string (b : ByteArray) : plain2 (.string b) = true := rfl
@[simp] theorem plain2_ptr (p : Option Addr) : plain2 (.pointer p) = p.isNone := by cases p <;> rfl
@[simp] theorem plain2_slice (p : Option Addr) (n c : Nat) : plain2 (.slice p n c) = p.isNone := by cases p <;> rfl
@[simp] theorem plain2_map (p : Option Nat) : plain2 (.map p) = p.isNone := by cases p <;> rfl
@[simp] theorem plain2_agg (l : List Value) : plain2 (.agg ⟨l⟩) = l.all plain0 := rfl
@[simp] theorem plain2_tuple (l : List Value) : plain2 (.tuple ⟨l⟩) = l.all plainV := rfl
end

def isSl : Value → Bool
  | .slice .. => true
  | _ => false

theorem NormP_raw {h0 h : H} {Q : Value → H → Prop} {v : Value} (hv : plain2 v = false) (hs : isSl v = false) : NormP h0 Q v h = Q v (h.withLow (min h0.low h.low)) := by
  have h1 : normOut h0 (v, h) = .raw v h := by
    unfold normOut
    cases hb : Nat.ble h0.next h.low with
    | false => rfl
    | true =>
      simp only [hv, cond_true, cond_false]
      cases v <;> first | rfl | (simp [isSl] at hs)
  unfold NormP
  rw [h1]
  simp only [outOf, minN_eq]

/-! ### Loops -/
def stepQ (J : Nat → List Value → H → Prop) (k : Nat) (Q : AX → List Value → H → Prop) (x : AX) (vs : List Value) (h : H) : Prop := match x with
  | .nrm => ∃ k', k' < k ∧ J k' vs h
  | x => Q x vs h
@[simp] theorem stepQ_nrm (J : Nat → List Value → H → Prop) (k : Nat) (Q : AX → List Value → H → Prop) (vs : List Value) (h : H) : stepQ J k Q .nrm vs h = ∃ k', k' < k ∧ J k' vs h := rfl
@[simp] theorem stepQ_ext (J : Nat → List Value → H → Prop) (k : Nat) (Q : AX → List Value → H → Prop) (i : Nat) (vs : List Value) (h : H) : stepQ J k Q (.ext i) vs h = Q (.ext i) vs h := rfl
@[simp] theorem stepQ_ret (J : Nat → List Value → H → Prop) (k : Nat) (Q : AX → List Value → H → Prop) (vs : List Value) (h : H) : stepQ J k Q .ret vs h = Q .ret vs h := rfl

theorem LoopV.ind {m : Bool} {E : Env} {vk : Kinds} {ann : Anns} {cur : Nat} {body : ACode} {a : LAnn} {ds : List Nat} {rnd : Option Nat} {Q : AX → List Value → H → Prop} (J : Nat → List Value → H → Prop)
    (hb : ∀ k vals h, J k vals h → ∀ tm, wpBody m E vk ann cur body a vals tm ds rnd h (stepQ J k Q)) {k : Nat} {vals : List Value} {h : H} (h0 : J k vals h) : LoopV m E body a vals ds rnd h Q := by
  induction k using Nat.strongRecOn generalizing vals h with
  | _ k ih =>
    intro tm htm
    have h1 := wpC_ok (forkL_ok (hb k vals h h0 tm))
    rw [ovl_same htm] at h1
    refine CodeP.loop (h1.mono fun x s hx => ?_)
    unfold leaf at hx
    cases x with
    | nrm =>
      simp only at hx
      split at hx
      · rename_i vs hvs
        obtain ⟨h2, h3, k', hk, hj⟩ := hx
        have := ih k' hk hj s.tm hvs
        rw [← h2, ← h3] at this ⊢
        exact this
      · exact hx.elim
    | _ => exact ⟨by simp, hx⟩
end Go.AM

/-
  What came in is laid into the abstract memory; a law's answer.
-/
namespace Go.AM
open Go.RowKit

/-- A piece of memory that came in: a block, from where on, what is known of its cells. -/
structure Seg where
  blk : Nat
  off : Nat
  cells : List Value

def segH (N : Nat) : List Seg → H
  | l => l.foldl (fun h s => h.new (.row s.cells false true)) (emptyH N)

def segMu (P : Program) (N : Nat) (segs : List Seg) : Mu := muWith P N (segs.map fun s => some ⟨s.blk, s.off, none⟩)

theorem segH_from : ∀ (l : List Seg) (h : H), (l.foldl (fun h s => h.new (.row s.cells false true)) h).next = h.next + l.length ∧
    ∀ K, (l.foldl (fun h s => h.new (.row s.cells false true)) h).get K = if h.next ≤ K then (match l[K - h.next]? with | some s => some (.row s.cells false true) | none => h.get K) else h.get K
  | [], h => by simp
  | s :: l, h => by
    obtain ⟨h1, h2⟩ := segH_from l (h.new (.row s.cells false true))
    simp only [List.foldl_cons, List.length_cons]
    refine ⟨by rw [h1]; simp; omega, fun K => ?_⟩
    rw [h2]
    simp only [H.next_new, H.get_new]
    by_cases hK : h.next ≤ K
    · rw [if_pos hK]
      by_cases hK2 : K = h.next
      · subst hK2
        rw [if_neg (by omega), if_pos rfl]; simp
      · have h3 : h.next + 1 ≤ K := by omega
        rw [if_pos h3, if_neg hK2]
        have : K - h.next = (K - (h.next + 1)) + 1 := by omega
        rw [this, List.getElem?_cons_succ]
    · rw [if_neg (by omega), if_neg hK, if_neg (by omega)]

theorem segH_next (N : Nat) (l : List Seg) : (segH N l).next = N + l.length := (segH_from l (emptyH N)).1
theorem segH_get (N : Nat) (l : List Seg) (i : Nat) {s : Seg} (h : l[i]? = some s) : (segH N l).get (N + i) = some (.row s.cells false true) := by
  have := (segH_from l (emptyH N)).2 (N + i)
  unfold segH
  rw [this]
  have hn : (emptyH N).next = N := rfl
  rw [hn, if_pos (by omega), Nat.add_sub_cancel_left, h]
theorem segH_some {N : Nat} {l : List Seg} {K : Nat} {o : AObj} (h : (segH N l).get K = some o) : ∃ i s, K = N + i ∧ l[i]? = some s ∧ o = .row s.cells false true := by
  have := (segH_from l (emptyH N)).2 K
  unfold segH at h
  rw [this] at h
  have hn : (emptyH N).next = N := rfl
  have he : (emptyH N).get K = none := by simp [emptyH, H.get]
  rw [hn, he] at h
  split at h
  · rename_i hK
    split at h
    · rename_i s hs
      cases h
      exact ⟨K - N, s, by omega, hs, rfl⟩
    · cases h
  · cases h

theorem segMu_at {P : Program} {N : Nat} (hN : P.globals.size ≤ N) {segs : List Seg} {i : Nat} {s : Seg} (h : segs[i]? = some s) : segMu P N segs (N + i) = some ⟨s.blk, s.off, none⟩ := by
  unfold segMu
  rw [muWith_at hN]
  simp [h]

/-- The cells lie there. -/
def Seg.Lies (μ : Mu) (W : World) (s : Seg) : Prop := ∃ (pre mid post : List Value) (e : TypeId) (fz : Nat × Nat), W.heap[s.blk]? = some (.cells ⟨pre ++ (mid ++ post)⟩ e fz) ∧ pre.length = s.off ∧ All2 (VRel μ) s.cells mid ∧ ∀ v ∈ s.cells, oc v = true

theorem seg_sim {P : Program} {N : Nat} {W : World} (hN : P.globals.size ≤ N) {segs : List Seg} (h : ∀ s ∈ segs, s.Lies (segMu P N segs) W) : Sim P (segMu P N segs) (segH N segs) W where
  obj L o hL := by
    obtain ⟨i, s, rfl, hs, rfl⟩ := segH_some hL
    refine ⟨⟨s.blk, s.off, none⟩, segMu_at hN hs, ?_⟩
    obtain ⟨pre, mid, post, e, fz, h1, h2, h3, h4⟩ := h s (List.mem_of_getElem? hs)
    exact ⟨pre, mid, post, e, fz, h1, h2, h3, h4, fun h => by simp at h, rfl⟩
  inj A B oA oB lA lB hA hB _ _ _ hro := by
    obtain ⟨_, _, _, _, rfl⟩ := segH_some hA
    obtain ⟨_, _, _, _, rfl⟩ := segH_some hB
    simp [roOf] at hro
  nxt L hL := by
    rw [segH_next] at hL
    unfold segMu muWith
    rw [if_neg (by omega), if_pos (by omega), List.getElem?_eq_none (by simp; omega)]
    rfl

theorem seg_own {μ : Mu} {N : Nat} {segs : List Seg} {b : Nat} : ¬ Own μ (segH N segs) b := by
  rintro ⟨L, o, l, h, hro, _⟩
  obtain ⟨_, _, _, _, rfl⟩ := segH_some h
  simp [roOf] at hro

/-- The law answers true, so the call does, and turns nothing. -/
theorem law_of_callP {P : Program} {E : Env} (hE : EnvOk P E) (hm : P.follows .mixedOrders = true) {m : Bool} {f : FuncId} {F : Func} {af : AFunc} (hF : P.funcs[f]? = some F) (hcf : cFunc P F = some af) (hs0 : E.sum f = none) (hf0 : E.fn f = some af)
    {args args' : List Value} {h : H} {μ : Mu} {W : World} (hc : CallP m E (FN f) args h fun v _ => v = VB true) (hg : Glb P μ) (hs : Sim P μ h W) (hown : ∀ b, ¬ Own μ h b) (ha : All2 (VRel μ) args args') :
    Calls P f ⟨args'⟩ W fun e W' => e = .returned (.bool true) ∧ RowKit.Below W.heap.size W W' := by
  obtain ⟨n, l, h1, h2, _, h4⟩ := hc
  cases n with
  | zero => cases h1
  | succ n =>
    have h5 : callF E (runN E n) (FN f) args h = some l := h1
    simp only [callF, hs0, hf0, List.nil_append, List.append_nil] at h5
    refine calls_of hE hm hF hcf h5 hg hs ha fun r hr μ' W' v' s hv => ?_
    rw [h4 r hr] at hv
    have : v' = .bool true := by cases hv; rfl
    exact ⟨by rw [this], s.below hown⟩

/-- Numbers that lie in memory. -/
def Ints (h : H) (p : Option Addr) (l : List Int) : Prop := ∀ (i : Nat) (z : Int), l[i]? = some z → ∃ a, p = some a ∧ ld h none ⟨a.block, a.off + i, none⟩ = some (VI z)

/-! ### Slices that came in -/
section
variable {H : Type} {enc : TypeId × Value → H} {P : Program} {W : World} {base : Nat} {spare : Nat → Bool} {held : Bool}

theorem cell?_some {w : World} {a : Addr} {v : Value} (h : w.cell? a = some v) : ∃ (arr : Array Value) (e : TypeId) (fz : Nat × Nat), w.heap[a.block]? = some (.cells arr e fz) ∧ arr[a.off]? = some v := by
  unfold World.cell? at h
  split at h
  · rename_i cs e fz hh
    split at h
    · cases h
    · exact ⟨cs, e, fz, hh, h⟩
  · cases h

/-- Cells that lie one behind the other. -/
theorem lies_row {μ : Mu} {blk off : Nat} {cs cs' : List Value} (hlen : cs'.length = cs.length) (hne : cs ≠ []) (hc : ∀ i v, cs'[i]? = some v → W.cell? ⟨blk, off + i, none⟩ = some v) (hr : All2 (VRel μ) cs cs') (ho : ∀ v ∈ cs, oc v = true) : Seg.Lies μ W ⟨blk, off, cs⟩ := by
  cases hcs : cs' with
  | nil =>
    rw [hcs] at hlen
    have : cs = [] := List.length_eq_zero_iff.1 hlen.symm
    exact absurd this hne
  | cons v0 r =>
    obtain ⟨arr, e, fz, h1, _⟩ := cell?_some (hc 0 v0 (by rw [hcs]; rfl))
    have hall : ∀ i v, cs'[i]? = some v → arr[off + i]? = some v := by
      intro i v hv
      obtain ⟨arr', e', fz', h3, h4⟩ := cell?_some (hc i v hv)
      simp only at h1 h3
      rw [h1] at h3
      cases h3
      exact h4
    have hsz : off + cs'.length ≤ arr.size := by
      have hl : cs'.length - 1 < cs'.length := by rw [hcs]; simp
      have := hall (cs'.length - 1) _ (List.getElem?_eq_getElem hl)
      have := (Array.getElem?_eq_some_iff.1 this).1
      omega
    refine ⟨arr.toList.take off, cs', arr.toList.drop (off + cs'.length), e, fz, ?_, ?_, hr, ho⟩
    · rw [h1]
      congr 2
      apply Array.ext'
      simp only
      have hmid : (arr.toList.drop off).take cs'.length = cs' := by
        apply List.ext_getElem?
        intro i
        by_cases hi : i < cs'.length
        · rw [List.getElem?_take, if_pos hi, List.getElem?_drop]
          have := hall i _ (List.getElem?_eq_getElem hi)
          rw [List.getElem?_eq_getElem hi]
          simpa using this
        · rw [List.getElem?_eq_none (by simp; omega), List.getElem?_eq_none (by omega)]
      calc arr.toList = arr.toList.take off ++ arr.toList.drop off := (List.take_append_drop _ _).symm
        _ = _ := by
          congr 1
          rw [← List.take_append_drop cs'.length (arr.toList.drop off), hmid, List.drop_drop]
    · simp only [List.length_take, Array.length_toList]; omega
end
end Go.AM

/-
  What is known of arguments' memory: cells by their kinds.
-/
namespace Go.AM
open Go.RowKit Go.ChangeShapes

inductive CT where
  | bool | int (k : IntKind) | str
  | sl (e : List CT)

/-- The cells of a type, one behind the other. -/
def fieldsCT (P : Program) (rec : TypeId → Option (List CT)) : List Field → Nat → Option (List CT)
  | [], _ => some []
  | f :: fs, off => match rec f.type with
    | some ks => bif Nat.beq f.offset off && Nat.beq (P.cellsOf f.type) ks.length then (fieldsCT P rec fs (off + ks.length)).map (ks ++ ·) else none
    | none => none

def kindsCT (P : Program) : Nat → TypeId → Option (List CT)
  | 0, _ => none
  | d + 1, t => match P.underlying t with
    | some .bool => some [.bool]
    | some (.int k) => some [.int k]
    | some .string => some [.str]
    | some (.slice e) => match kindsCT P d e with
      | some ks => bif Nat.beq (P.cellsOf e) ks.length then some [.sl ks] else none
      | none => none
    | some (.struct fs) => match fieldsCT P (kindsCT P d) fs.toList 0 with
      | some ks => bif Nat.beq (P.cellsOf t) ks.length then some ks else none
      | none => none
    | _ => none

/-- A cell of a kind; what it names lies in memory. -/
def CellOk (W : World) : Nat → CT → Value → Prop
  | 0, _, _ => False
  | d + 1, k, v => match k with
    | .bool => ∃ b, v = .bool b
    | .int k => ∃ n, v = .int k n ∧ (Lit.int k n).wf = true
    | .str => ∃ s, v = .string s ∧ s.size ≤ maxLen
    | .sl e => v = .slice none 0 0 ∨ ∃ a len cap, v = .slice (some a) len cap ∧ len ≤ cap ∧ cap ≤ maxLen ∧ ∀ i, i < cap → ∃ cs, All2 (CellOk W d) e cs ∧ ∀ j c, cs[j]? = some c → (i * e.length + j = 0 → a.spot = none) ∧ W.cell? ⟨a.block, a.off + (i * e.length + j), none⟩ = some c

theorem CellOk.succ {W : World} : ∀ {d : Nat} {k : CT} {v : Value}, CellOk W d k v → CellOk W (d + 1) k v
  | 0, _, _, h => h.elim
  | d + 1, .bool, _, h => h
  | d + 1, .int _, _, h => h
  | d + 1, .str, _, h => h
  | d + 1, .sl e, v, h => by
    rcases h with h | ⟨a, len, cap, h1, h2, h3, h4⟩
    · exact .inl h
    · refine .inr ⟨a, len, cap, h1, h2, h3, fun i hi => ?_⟩
      obtain ⟨cs, h5, h6⟩ := h4 i hi
      exact ⟨cs, h5.imp fun _ _ x => CellOk.succ x, h6⟩

theorem cell_add {W : World} {a : Addr} {x j : Nat} {c : Value} (h : W.cell? ((a.add x).add j) = some c) : (x + j = 0 → a.spot = none) ∧ W.cell? ⟨a.block, a.off + (x + j), none⟩ = some c := by
  have hs : ((a.add x).add j).spot = none := by
    unfold World.cell? at h
    split at h
    · split at h
      · cases h
      · rename_i hn
        simpa using hn
    · cases h
  by_cases hj : j = 0
  · subst hj
    by_cases hx : x = 0
    · subst hx
      simp only [Addr.add, if_true] at h hs
      refine ⟨fun _ => hs, ?_⟩
      obtain ⟨b, o, s⟩ := a
      simp only at hs
      subst hs
      exact h
    · simp only [Addr.add, if_true, if_neg hx] at h
      exact ⟨fun e => absurd e hx, h⟩
  · refine ⟨fun e => by omega, ?_⟩
    by_cases hx : x = 0
    · subst hx
      simp only [Addr.add, if_true, if_neg hj] at h
      simpa using h
    · simp only [Addr.add, if_neg hx, if_neg hj] at h
      simpa [Nat.add_assoc] using h

section
variable {H : Type} {enc : TypeId × Value → H} {P : Program} {W : World} {held : Bool}

theorem fields_ok {rec : TypeId → Option (List CT)} {d : Nat} {cs : List Value} (hrec : ∀ t ks cs', rec t = some ks → (∃ n x, DataW.trod enc P W 0 (fun _ => true) held n t cs' = some x) → All2 (CellOk W d) ks cs') : ∀ (fs : List Field) (off : Nat) (ks : List CT), fieldsCT P rec fs off = some ks →
    (∀ f ∈ fs, ∃ n x, DataW.trod enc P W 0 (fun _ => true) held n f.type ((cs.drop f.offset).take (P.cellsOf f.type)) = some x) → All2 (CellOk W d) ks ((cs.drop off).take ks.length)
  | [], off, ks, h, _ => by
    simp only [fieldsCT, Option.some.injEq] at h
    subst h
    simpa using All2.nil
  | f :: fs, off, ks, h, hf => by
    simp only [fieldsCT] at h
    split at h
    · rename_i ks1 h1
      cases hb : (Nat.beq f.offset off && Nat.beq (P.cellsOf f.type) ks1.length) with
      | false => rw [hb] at h; cases h
      | true =>
        rw [hb] at h
        simp only [cond_true, Option.map_eq_some_iff] at h
        obtain ⟨ks2, h2, rfl⟩ := h
        simp only [Bool.and_eq_true] at hb
        have e1 := Nat.eq_of_beq_eq_true hb.1
        have e2 := Nat.eq_of_beq_eq_true hb.2
        have q1 := hrec _ _ _ h1 (hf f (by simp))
        rw [e1, e2] at q1
        have q2 := fields_ok hrec fs _ _ h2 fun g hg => hf g (by simp [hg])
        have := q1.append q2
        rw [List.length_append, List.take_add, List.drop_drop]
        exact this
    · cases h

theorem cells_ok : ∀ (d : Nat) (t : TypeId) (ks : List CT) (cs : List Value), kindsCT P d t = some ks → (∃ n x, DataW.trod enc P W 0 (fun _ => true) held n t cs = some x) → All2 (CellOk W d) ks cs
  | 0, _, _, _, h, _ => by cases h
  | d + 1, t, ks, cs, h, ⟨n, x, hx⟩ => by
    unfold kindsCT at h
    split at h
    · rename_i hu
      cases h
      obtain ⟨b, rfl, _⟩ := DataW.trod_bool hu hx
      exact .cons ⟨b, rfl⟩ .nil
    · rename_i k hu
      cases h
      obtain ⟨m, rfl, _, hw⟩ := DataW.trod_int hu hx
      exact .cons ⟨m, rfl, hw⟩ .nil
    · rename_i hu
      cases h
      obtain ⟨s, rfl, _, hs⟩ := DataW.trod_string hu hx
      exact .cons ⟨s, rfl, hs⟩ .nil
    · rename_i e hu
      split at h
      · rename_i ke he
        cases hb : Nat.beq (P.cellsOf e) ke.length with
        | false => rw [hb] at h; cases h
        | true =>
          rw [hb] at h
          cases h
          have hlen := Nat.eq_of_beq_eq_true hb
          rcases DataW.trod_slice hu hx with ⟨rfl, _⟩ | ⟨a, len, cap, elems, rest, m, _, rfl, _, _, h1, h2, h3, h4, h5, _⟩
          · exact .cons (.inl rfl) .nil
          · obtain ⟨h6, h7⟩ := h5 rfl
            refine .cons (.inr ⟨a, len, cap, rfl, h1, h2, fun i hi => ?_⟩) .nil
            have hel : ∃ y, (W.cells? 0 (a.add (i * P.cellsOf e)) (P.cellsOf e)).bind (DataW.trod enc P W 0 (fun _ => true) held m e) = some y := by
              by_cases hi2 : i < len
              · exact ⟨elems[i]'(by omega), by rw [h4 i hi2]; exact List.getElem?_eq_getElem _⟩
              · have h8 := h7 (i - len) (by omega)
                rw [show len + (i - len) = i by omega] at h8
                exact ⟨rest[i - len]'(by omega), by rw [h8]; exact List.getElem?_eq_getElem _⟩
            obtain ⟨y, hy⟩ := hel
            obtain ⟨cs', h8, h9⟩ := Option.bind_eq_some_iff.1 hy
            refine ⟨cs', cells_ok d e ke cs' he ⟨m, y, h9⟩, fun j c hj => ?_⟩
            obtain ⟨_, h10, h11⟩ := World.cells?_some h8
            have hjl : j < P.cellsOf e := by rw [← h10]; exact (List.getElem?_eq_some_iff.1 hj).1
            have h12 := h11 j hjl
            rw [hj] at h12
            rw [← hlen]
            exact cell_add h12
      · cases h
    · rename_i fs hu
      split at h
      · rename_i k1 hf
        cases hb : Nat.beq (P.cellsOf t) k1.length with
        | false => rw [hb] at h; cases h
        | true =>
          rw [hb] at h
          cases h
          have hlen := Nat.eq_of_beq_eq_true hb
          obtain ⟨xs, m, _, _, h1, h2, h3⟩ := DataW.trod_struct hu hx
          have h4 := fields_ok (d := d) (cs := cs) (fun t ks cs' q1 q2 => cells_ok d t ks cs' q1 q2) fs.toList 0 _ hf fun f hfm => by
            obtain ⟨i, hi⟩ := List.getElem?_of_mem hfm
            have h5 := h3 i f (by simpa using hi)
            have hil : i < xs.length := by rw [h2]; simpa using (List.getElem?_eq_some_iff.1 hi).1
            rw [List.getElem?_eq_getElem hil] at h5
            exact ⟨m, _, h5⟩
          rw [List.drop_zero, ← hlen, ← h1, List.take_length] at h4
          exact h4.imp fun _ _ x => x.succ
      · cases h
    · cases h

theorem choose_list {α : Type} {Q : Nat → α → Prop} : ∀ (n : Nat), (∀ i, i < n → ∃ a, Q i a) → ∃ l : List α, l.length = n ∧ ∀ i a, l[i]? = some a → Q i a
  | 0, _ => ⟨[], rfl, fun i a h => by simp at h⟩
  | n + 1, h => by
    obtain ⟨l, h1, h2⟩ := choose_list n fun i hi => h i (by omega)
    obtain ⟨a, ha⟩ := h n (by omega)
    refine ⟨l ++ [a], by simp [h1], fun i b hb => ?_⟩
    by_cases hi : i < n
    · rw [List.getElem?_append_left (by omega)] at hb
      exact h2 i b hb
    · have : i = n := by
        have := (List.getElem?_eq_some_iff.1 hb).1
        simp at this; omega
      subst this
      rw [List.getElem?_append_right (by omega), h1] at hb
      simp at hb
      subst hb; exact ha

/-- A slice of numbers. -/
theorem ints_in {d : Nat} {v : Value} (hv : CellOk W (d + 2) (.sl [.int .i64]) v) {N : Nat} (hN : P.globals.size ≤ N) (hN0 : 0 < N) : ∃ (segs : List Seg) (p : Option Addr) (n c : Nat) (l : List Int), (∀ s ∈ segs, s.Lies (segMu P N segs) W) ∧ VRel (segMu P N segs) (VS p n c) v ∧
    l.length = n ∧ Ints (segH N segs) p l ∧ (∀ a, p = some a → a.block < (segH N segs).next) ∧ ∀ z ∈ l, (Lit.int .i64 z).wf = true := by
  rcases hv with rfl | ⟨a, len, cap, rfl, h1, h2, h3⟩
  · exact ⟨[], none, 0, 0, [], by simp, .sliceNil _ _, rfl, fun i z h => by simp at h, by simp, by simp⟩
  · by_cases hcap : cap = 0
    · subst hcap
      obtain rfl : len = 0 := by omega
      refine ⟨[], some ⟨0, 0, none⟩, 0, 0, [], by simp, .sliceZ _ _, rfl, fun i z h => by simp at h, ?_, by simp⟩
      intro a' ha
      cases ha
      rw [segH_next]; simpa using hN0
    · obtain ⟨zs, hz1, hz2⟩ := choose_list (Q := fun i z => (Lit.int .i64 z).wf = true ∧ (i = 0 → a.spot = none) ∧ W.cell? ⟨a.block, a.off + i, none⟩ = some (.int .i64 z)) cap fun i hi => by
        obtain ⟨cs, h4, h5⟩ := h3 i hi
        cases h4 with
        | cons h6 h7 =>
          cases h7
          obtain ⟨z, rfl, hw⟩ := h6
          obtain ⟨h8, h9⟩ := h5 0 _ rfl
          refine ⟨z, hw, fun e => h8 (by simpa using e), ?_⟩
          simpa using h9
      have hspot : a.spot = none := by
        obtain ⟨_, h4, _⟩ := hz2 0 _ (List.getElem?_eq_getElem (by omega))
        exact h4 rfl
      let segs : List Seg := [⟨a.block, a.off, zs.map VI⟩]
      have hat : segMu P N segs (N + 0) = some ⟨a.block, a.off, none⟩ := segMu_at (s := ⟨a.block, a.off, zs.map VI⟩) hN rfl
      refine ⟨segs, some ⟨N, 0, none⟩, len, cap, zs.take len, ?_, ?_, by simp; omega, ?_, ?_, ?_⟩
      · intro s hs
        simp only [segs, List.mem_singleton] at hs
        subst hs
        refine lies_row (cs' := zs.map VI) rfl ?_ ?_ (All2.refl fun v hv => ?_) ?_
        · intro e
          have e2 := congrArg List.length e
          simp only [List.length_map, List.length_nil] at e2
          omega
        · intro i v hv
          simp only [List.getElem?_map, Option.map_eq_some_iff] at hv
          obtain ⟨z, hz, rfl⟩ := hv
          exact (hz2 i z hz).2.2
        · obtain ⟨z, _, rfl⟩ := List.mem_map.1 hv
          exact .int _ _
        · intro v hv
          obtain ⟨z, _, rfl⟩ := List.mem_map.1 hv
          rfl
      · obtain ⟨b, o, sp⟩ := a
        simp only at hspot hat
        subst hspot
        have := VRel.slice (i := 0) (n := len) (c := cap) hat
        simpa using this
      · intro i z hz
        refine ⟨_, rfl, ?_⟩
        have hz' : zs[i]? = some z := by
          rw [List.getElem?_take] at hz
          split at hz
          · exact hz
          · cases hz
        have hg := segH_get N segs 0 (s := ⟨a.block, a.off, zs.map VI⟩) rfl
        simp only [Nat.add_zero] at hg
        rw [ld_cell]
        simp only [hg, Nat.zero_add, List.getElem?_map, hz', Option.map_some]
      · intro a' ha
        cases ha
        rw [segH_next]; simp [segs]
      · intro z hz
        obtain ⟨i, hi⟩ := List.getElem?_of_mem (List.mem_of_mem_take hz)
        exact (hz2 i z hi).1
end
end Go.AM

