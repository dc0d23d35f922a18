/-
  The abstract machine: values, memory, operations without writing are sound.
-/
import Derived.Laws.Sem
import Derived.Laws.Cells
import Derived.Below
import Derived.Laws.StructEq
import Derived.ChangeKeysEq
import Derived.Test.YtiopfolmngmkjaaAmA
/-
  The relation between the abstract memory and the world.
-/
namespace Go.AM

/-! ### Lists, element by element -/
inductive All2 {α β : Type} (R : α → β → Prop) : List α → List β → Prop
  | nil : All2 R [] []
  | cons {a b as bs} : R a b → All2 R as bs → All2 R (a :: as) (b :: bs)

namespace All2
variable {α β : Type} {R S : α → β → Prop}

theorem length_eq {as : List α} {bs : List β} (h : All2 R as bs) : as.length = bs.length := by
  induction h with
  | nil => rfl
  | cons _ _ ih => simp [ih]

theorem get {as : List α} {bs : List β} (h : All2 R as bs) : ∀ {i : Nat} {a : α}, as[i]? = some a → ∃ b, bs[i]? = some b ∧ R a b := by
  induction h with
  | nil => intro i a h; simp at h
  | cons h1 _ ih =>
    intro i a h
    cases i with
    | zero => simp at h; subst h; exact ⟨_, by simp, h1⟩
    | succ i => simp at h; obtain ⟨b, hb, hr⟩ := ih h; exact ⟨b, by simpa using hb, hr⟩

theorem of_idx : ∀ {as : List α} {bs : List β}, as.length = bs.length → (∀ (i : Nat) a b, as[i]? = some a → bs[i]? = some b → R a b) → All2 R as bs
  | [], [], _, _ => .nil
  | [], b :: bs, h, _ => by simp at h
  | a :: as, [], h, _ => by simp at h
  | a :: as, b :: bs, h, hr => .cons (hr 0 a b (by simp) (by simp)) (of_idx (by simpa using h) fun i x y hx hy => hr (i + 1) x y (by simpa using hx) (by simpa using hy))

theorem imp {as : List α} {bs : List β} (h : All2 R as bs) (f : ∀ a b, R a b → S a b) : All2 S as bs := by
  induction h with
  | nil => exact .nil
  | cons h1 _ ih => exact .cons (f _ _ h1) ih

theorem append {as cs : List α} {bs ds : List β} (h : All2 R as bs) (k : All2 R cs ds) : All2 R (as ++ cs) (bs ++ ds) := by
  induction h with
  | nil => exact k
  | cons h1 _ ih => exact .cons h1 ih

theorem take {as : List α} {bs : List β} (h : All2 R as bs) : ∀ n, All2 R (as.take n) (bs.take n) := by
  induction h with
  | nil => intro n; simpa using All2.nil
  | cons h1 _ ih => intro n; cases n with
    | zero => simpa using All2.nil
    | succ n => simpa using All2.cons h1 (ih n)

theorem drop {as : List α} {bs : List β} (h : All2 R as bs) : ∀ n, All2 R (as.drop n) (bs.drop n) := by
  induction h with
  | nil => intro n; simpa using All2.nil
  | cons h1 h2 ih => intro n; cases n with
    | zero => simpa using All2.cons h1 h2
    | succ n => simpa using ih n

theorem set {as : List α} {bs : List β} (h : All2 R as bs) {a : α} {b : β} (hab : R a b) : ∀ n, All2 R (as.set n a) (bs.set n b) := by
  induction h with
  | nil => intro n; simpa using All2.nil
  | cons h1 h2 ih => intro n; cases n with
    | zero => exact .cons hab h2
    | succ n => exact .cons h1 (ih n)

theorem map {γ δ : Type} {T : γ → δ → Prop} {f : α → γ} {g : β → δ} {as : List α} {bs : List β} (h : All2 R as bs) (hfg : ∀ a b, R a b → T (f a) (g b)) : All2 T (as.map f) (bs.map g) := by
  induction h with
  | nil => exact .nil
  | cons h1 _ ih => exact .cons (hfg _ _ h1) ih

theorem refl {R : α → α → Prop} : ∀ {as : List α}, (∀ a ∈ as, R a a) → All2 R as as
  | [], _ => .nil
  | a :: as, h => .cons (h a (by simp)) (refl fun x hx => h x (by simp [hx]))
end All2

/-! ### Values -/
structure Loc where
  blk : Nat
  sh : Nat
  opn : Option Nat

abbrev Mu := Nat → Option Loc

def oc : Value → Bool
  | .agg _ | .tuple _ => false
  | _ => true

theorem oc_eq (v : Value) : v.oneCell' = oc v := by cases v <;> rfl

inductive VRel (μ : Mu) : Value → Value → Prop
  | junk {v} : oc v = true → VRel μ junk v
  | bool (b) : VRel μ (.bool b) (.bool b)
  | int (k n) : VRel μ (.int k n) (.int k n)
  | string (s) : VRel μ (.string s) (.string s)
  | ptrNil : VRel μ (.pointer none) (.pointer none)
  | ptr {L i b s o} : μ L = some ⟨b, s, o⟩ → VRel μ (.pointer (some ⟨L, i, none⟩)) (.pointer (some ⟨b, s + i, none⟩))
  | sliceNil (n c) : VRel μ (.slice none n c) (.slice none n c)
  | slice {L i b s n c} : μ L = some ⟨b, s, none⟩ → VRel μ (.slice (some ⟨L, i, none⟩) n c) (.slice (some ⟨b, s + i, none⟩) n c)
  | sliceO {L i b s N e n c c'} : μ L = some ⟨b, s, some N⟩ → c ≤ c' → s + i + c' * e ≤ N → VRel μ (.slice (some ⟨L, i, some e⟩) n c) (.slice (some ⟨b, s + i, none⟩) n c')
  | sliceZ (a a') : VRel μ (.slice (some a) 0 0) (.slice (some a') 0 0)
  | mapNil : VRel μ (.map none) (.map none)
  | map {L b o} : μ L = some ⟨b, 0, o⟩ → VRel μ (.map (some L)) (.map (some b))
  | nilFunc : VRel μ .nilFunc .nilFunc
  | func (f) {xs xs' ys ys' : Array Value} : xs.size = xs'.size → ys.size = ys'.size → (∀ (i : Nat) v v', xs.toList[i]? = some v → xs'.toList[i]? = some v' → VRel μ v v') →
      (∀ (i : Nat) v v', ys.toList[i]? = some v → ys'.toList[i]? = some v' → VRel μ v v') → VRel μ (.func (.func f) xs ys) (.func (.func f) xs' ys')
  | yield {L b o} : μ L = some ⟨b, 0, o⟩ → VRel μ (.func (.yield L) #[] #[]) (.func (.yield b) #[] #[])
  | nilIface : VRel μ .nilIface .nilIface
  | iface (t) {v v'} : VRel μ v v' → VRel μ (.iface t v) (.iface t v')
  | agg {xs xs' : Array Value} : xs.size = xs'.size → (∀ v ∈ xs.toList, oc v = true) → (∀ (i : Nat) v v', xs.toList[i]? = some v → xs'.toList[i]? = some v' → VRel μ v v') → VRel μ (.agg xs) (.agg xs')
  | tuple {xs xs' : Array Value} : xs.size = xs'.size → (∀ (i : Nat) v v', xs.toList[i]? = some v → xs'.toList[i]? = some v' → VRel μ v v') → VRel μ (.tuple xs) (.tuple xs')

def Ext (μ μ' : Mu) : Prop := ∀ L l, μ L = some l → μ' L = some l
theorem Ext.refl (μ : Mu) : Ext μ μ := fun _ _ h => h
theorem Ext.trans {a b c : Mu} (h : Ext a b) (k : Ext b c) : Ext a c := fun L l x => k L l (h L l x)

theorem VRel.mono {μ μ' : Mu} (he : Ext μ μ') {v v' : Value} (h : VRel μ v v') : VRel μ' v v' := by
  induction h with
  | junk h => exact .junk h
  | bool b => exact .bool b
  | int k n => exact .int k n
  | string s => exact .string s
  | ptrNil => exact .ptrNil
  | ptr h => exact .ptr (he _ _ h)
  | sliceNil n c => exact .sliceNil n c
  | slice h => exact .slice (he _ _ h)
  | sliceO h h1 h2 => exact .sliceO (he _ _ h) h1 h2
  | sliceZ a a' => exact .sliceZ a a'
  | mapNil => exact .mapNil
  | map h => exact .map (he _ _ h)
  | nilFunc => exact .nilFunc
  | func f h1 h2 _ _ ih1 ih2 => exact .func f h1 h2 ih1 ih2
  | yield h => exact .yield (he _ _ h)
  | nilIface => exact .nilIface
  | iface t _ ih => exact .iface t ih
  | agg h1 h2 _ ih => exact .agg h1 h2 ih
  | tuple h1 _ ih => exact .tuple h1 ih

theorem VRel.one {μ : Mu} {v v' : Value} (h : VRel μ v v') : oc v' = oc v := by
  cases h <;> first | rfl | (rename_i h; exact h)

theorem plain0_rel (μ : Mu) {v : Value} (h : plain0 v = true) : VRel μ v v := by
  cases v <;> simp [plain0] at h
  · exact .bool _
  · exact .int _ _
  · exact .string _
  · rename_i a; cases a <;> simp at h; exact .ptrNil
  · rename_i a n c; cases a <;> simp at h; exact .sliceNil _ _
  · rename_i a; cases a <;> simp at h; exact .mapNil
  · exact .nilFunc
  · exact .nilIface

theorem plain0_oc {v : Value} (h : plain0 v = true) : oc v = true := by cases v <;> simp [plain0] at h <;> rfl

theorem plainV_rel (μ : Mu) {v : Value} (h : plainV v = true) : VRel μ v v := by
  cases v with
  | agg cs =>
    simp only [plainV, List.all_eq_true] at h
    exact .agg rfl (fun v hv => plain0_oc (h v hv)) (fun i v v' h1 h2 => by rw [h1] at h2; cases h2; exact plain0_rel μ (h v (List.mem_of_getElem? h1)))
  | tuple cs =>
    simp only [plainV, List.all_eq_true] at h
    exact .tuple rfl (fun i v v' h1 h2 => by rw [h1] at h2; cases h2; exact plain0_rel μ (h v (List.mem_of_getElem? h1)))
  | _ => exact plain0_rel μ (by simpa [plainV] using h)

/-! What is plain is related to itself alone. -/
theorem rel_plain0 {μ : Mu} {v v' : Value} (h : VRel μ v v') (hp : plain0 v = true) : v' = v := by
  cases h <;> simp [plain0, junk] at hp <;> rfl

theorem rel_plainV {μ : Mu} {v v' : Value} (h : VRel μ v v') (hp : plainV v = true) : v' = v := by
  cases h with
  | @agg xs xs' h1 h2 h3 =>
    simp only [plainV, List.all_eq_true] at hp
    congr 1
    apply Array.ext'
    apply List.ext_getElem?
    intro i
    cases hx : xs.toList[i]? with
    | none => rw [List.getElem?_eq_none_iff] at hx ⊢; simpa [← h1] using hx
    | some v =>
      have hl : i < xs'.toList.length := by
        have := (List.getElem?_eq_some_iff.1 hx).1
        simpa [← h1] using this
      have hx' := List.getElem?_eq_getElem hl
      rw [hx']
      congr 1
      exact rel_plain0 (h3 i v _ hx hx') (hp v (List.mem_of_getElem? hx))
  | @tuple xs xs' h1 h3 =>
    simp only [plainV, List.all_eq_true] at hp
    congr 1
    apply Array.ext'
    apply List.ext_getElem?
    intro i
    cases hx : xs.toList[i]? with
    | none => rw [List.getElem?_eq_none_iff] at hx ⊢; simpa [← h1] using hx
    | some v =>
      have hl : i < xs'.toList.length := by
        have := (List.getElem?_eq_some_iff.1 hx).1
        simpa [← h1] using this
      have hx' := List.getElem?_eq_getElem hl
      rw [hx']
      congr 1
      exact rel_plain0 (h3 i v _ hx hx') (hp v (List.mem_of_getElem? hx))
  | junk _ => simp [plainV, plain0, AM.junk] at hp
  | _ => exact rel_plain0 (μ := μ) (by constructor <;> assumption) (by simpa [plainV] using hp)

theorem VRel.agg2 {μ : Mu} {xs xs' : Array Value} (h : VRel μ (.agg xs) (.agg xs')) : All2 (VRel μ) xs.toList xs'.toList := by
  cases h with
  | agg h1 _ h3 => exact All2.of_idx (by simpa using h1) h3

theorem VRel.tuple2 {μ : Mu} {xs xs' : Array Value} (h : VRel μ (.tuple xs) (.tuple xs')) : All2 (VRel μ) xs.toList xs'.toList := by
  cases h with
  | tuple h1 h3 => exact All2.of_idx (by simpa using h1) h3

theorem All2.idx {μ : Mu} {as bs : List Value} (h : All2 (VRel μ) as bs) (i : Nat) (v v' : Value) (h1 : as[i]? = some v) (h2 : bs[i]? = some v') : VRel μ v v' := by
  obtain ⟨b, hb, hr⟩ := h.get h1
  rw [hb] at h2; cases h2; exact hr

theorem VRel.aggOf {μ : Mu} {as bs : List Value} (h : All2 (VRel μ) as bs) (ho : ∀ v ∈ as, oc v = true) : VRel μ (.agg ⟨as⟩) (.agg ⟨bs⟩) :=
  .agg (by simpa using h.length_eq) (by simpa using ho) (by simpa using h.idx)

theorem VRel.tupleOf {μ : Mu} {as bs : List Value} (h : All2 (VRel μ) as bs) : VRel μ (.tuple ⟨as⟩) (.tuple ⟨bs⟩) :=
  .tuple (by simpa using h.length_eq) (by simpa using h.idx)

theorem VRel.funcOf {μ : Mu} (f : FuncId) {as bs cs ds : List Value} (h : All2 (VRel μ) as bs) (k : All2 (VRel μ) cs ds) : VRel μ (.func (.func f) ⟨as⟩ ⟨cs⟩) (.func (.func f) ⟨bs⟩ ⟨ds⟩) :=
  .func f (by simpa using h.length_eq) (by simpa using k.length_eq) (by simpa using h.idx) (by simpa using k.idx)

/-- The cells of related values. -/
theorem VRel.cells {μ : Mu} {v v' : Value} (h : VRel μ v v') : (∃ t, v = .tuple t) ∨ (All2 (VRel μ) (cellsOf v) v'.cells.toList ∧ ∀ u ∈ cellsOf v, oc u = true) := by
  cases h with
  | tuple => exact .inl ⟨_, rfl⟩
  | @agg xs xs' h1 h2 h3 => exact .inr ⟨All2.of_idx (by simpa [cellsOf, Value.cells] using h1) (by simpa [cellsOf, Value.cells] using h3), by simpa [cellsOf] using h2⟩
  | @junk v' ho =>
    refine .inr ⟨?_, by simp [cellsOf, AM.junk, oc]⟩
    have : v'.cells.toList = [v'] := by cases v' <;> first | rfl | simp [oc] at ho
    rw [this]
    exact .cons (.junk ho) .nil
  | _ => exact .inr ⟨.cons (by constructor <;> assumption) .nil, by simp [cellsOf, oc]⟩

end Go.AM

/-
  The abstract memory and the world, block by block; how a step of the one goes with a step of the other.
-/
namespace Go.AM

def TmRel (μ : Mu) (tm : Tm) (t : Array Value) : Prop := ∀ i, VRel μ (tm.g i) (t.getD i undef)

theorem TmRel.mono {μ μ' : Mu} (he : Ext μ μ') {tm : Tm} {t : Array Value} (h : TmRel μ tm t) : TmRel μ' tm t := fun i => (h i).mono he

theorem undef_rel (μ : Mu) : VRel μ undef undef := .tuple rfl (by simp)

theorem TmRel.set {μ : Mu} {tm : Tm} {t : Array Value} (h : TmRel μ tm t) {d : Nat} (hd : d < t.size) {v v' : Value} (hv : VRel μ v v') : TmRel μ (Trie.set tm d v) (t.setIfInBounds d v') := by
  intro i
  have h1 : Tm.g (Trie.set tm d v) i = if i = d then v else tm.g i := by
    unfold Tm.g; rw [Trie.get_set]; split <;> simp
  have h2 : (t.setIfInBounds d v').getD i undef = if i = d then v' else t.getD i undef := by
    by_cases e : i = d
    · subst e; simp [Array.getD, hd]
    · by_cases hi : i < t.size
      · simp [Array.getD, hi, e, Ne.symm e]
      · simp [Array.getD, hi, e]
  rw [h1, h2]
  split
  · exact hv
  · exact h i

def jumpCode : AJump → Code
  | .ret => .ret
  | .exit id => .exit id
  | .goto l => .goto l

def ORel (P : Program) (μ : Mu) (W : World) (o : AObj) (l : Loc) : Prop :=
  match o with
  | .row cs opn ro => ∃ (pre mid post : List Value) (e : TypeId) (fz : Nat × Nat), W.heap[l.blk]? = some (.cells ⟨pre ++ (mid ++ post)⟩ e fz) ∧ pre.length = l.sh ∧
      All2 (VRel μ) cs mid ∧ (∀ v ∈ cs, oc v = true) ∧ (ro = false → ∀ i, i < (pre ++ (mid ++ post)).length → ¬ (fz.1 ≤ i ∧ i < fz.2)) ∧
      (if opn then ro = false ∧ l.opn = some (pre ++ (mid ++ post)).length else l.opn = none)
  | .map es clock => l.sh = 0 ∧ ∃ es' : Array MapEntry, W.heap[l.blk]? = some (.map es' clock) ∧ All2 (fun (x : Value × Value × Nat) (y : MapEntry) => VRel μ x.1 y.key ∧ VRel μ x.2.1 y.val ∧ x.2.2 = y.born) es es'.toList
  | .iter m since seen last => l.sh = 0 ∧ ∃ m', W.heap[l.blk]? = some (.mapIter m' since ⟨seen⟩ last) ∧ VRel μ (.map m) (.map m')
  | .sit s pos => l.sh = 0 ∧ W.heap[l.blk]? = some (.stringIter s pos)
  | .loop st pend tm ps asg body dfs => l.sh = 0 ∧ ∃ (fn : FuncId) (tmps : Array Value) (ca cb : Code) (d : Nat) (nt : Nat),
      W.heap[l.blk]? = some (.loop { state := st, pending := pend.map jumpCode, fn := fn, tmps := tmps, params := ⟨ps⟩, assign := ca, body := cb, defers := d }) ∧
      TmRel μ tm tmps ∧ tmps.size = nt ∧ (∀ p ∈ ps, p < nt) ∧ cCode P nt ca = some asg ∧ cCode P nt cb = some body ∧ (∃ o, μ dfs = some ⟨d, 0, o⟩)
  | .dfd taken => l.sh = 0 ∧ W.heap[l.blk]? = some (.deferred (if taken then none else some []))

theorem ORel.mono {P : Program} {μ μ' : Mu} {W W' : World} {o : AObj} {l : Loc} (h : ORel P μ W o l) (he : Ext μ μ') (hw : W'.heap[l.blk]? = W.heap[l.blk]?) : ORel P μ' W' o l := by
  cases o with
  | row cs opn ro =>
    obtain ⟨pre, mid, post, e, fz, h1, h2, h3, h4, h5, h6⟩ := h
    exact ⟨pre, mid, post, e, fz, hw.trans h1, h2, h3.imp fun _ _ x => x.mono he, h4, h5, h6⟩
  | map es clock =>
    obtain ⟨hs, es', h1, h2⟩ := h
    exact ⟨hs, es', hw.trans h1, h2.imp fun _ _ x => ⟨x.1.mono he, x.2.1.mono he, x.2.2⟩⟩
  | iter m since seen last =>
    obtain ⟨hs, m', h1, h2⟩ := h
    exact ⟨hs, m', hw.trans h1, h2.mono he⟩
  | sit s pos => exact ⟨h.1, hw.trans h.2⟩
  | loop st pend tm ps asg body dfs =>
    obtain ⟨hs, fn, tmps, ca, cb, d, nt, h1, h2, h3, h4, h5, h6, o, h7⟩ := h
    exact ⟨hs, fn, tmps, ca, cb, d, nt, hw.trans h1, h2.mono he, h3, h4, h5, h6, o, he _ _ h7⟩
  | dfd taken => exact ⟨h.1, hw.trans h.2⟩

theorem ORel.some {P : Program} {μ : Mu} {W : World} {o : AObj} {l : Loc} (h : ORel P μ W o l) : l.blk < W.heap.size := by
  have : ∃ x, W.heap[l.blk]? = Option.some x := by
    cases o with
    | row => obtain ⟨pre, mid, post, e, fz, h1, _⟩ := h; exact ⟨_, h1⟩
    | map => obtain ⟨_, _, h1, _⟩ := h; exact ⟨_, h1⟩
    | iter => obtain ⟨_, _, h1, _⟩ := h; exact ⟨_, h1⟩
    | sit => exact ⟨_, h.2⟩
    | loop => obtain ⟨_, _, _, _, _, _, _, h1, _⟩ := h; exact ⟨_, h1⟩
    | dfd => exact ⟨_, h.2⟩
  obtain ⟨x, hx⟩ := this
  exact (Array.getElem?_eq_some_iff.1 hx).1

def roOf : AObj → Bool
  | .row _ _ ro => ro
  | _ => false

structure Sim (P : Program) (μ : Mu) (σ : H) (W : World) : Prop where
  obj : ∀ L o, σ.get L = some o → ∃ l, μ L = some l ∧ ORel P μ W o l
  inj : ∀ L K oL oK lL lK, σ.get L = some oL → σ.get K = some oK → L ≠ K → μ L = some lL → μ K = some lK → (roOf oL = false ∨ roOf oK = false) → lL.blk ≠ lK.blk
  nxt : ∀ L, σ.next ≤ L → μ L = none

/-- A block that may be written. -/
def Own (μ : Mu) (σ : H) (b : Nat) : Prop := ∃ L o l, σ.get L = some o ∧ roOf o = false ∧ μ L = some l ∧ l.blk = b

structure Step (P : Program) (μ : Mu) (σ : H) (W : World) (μ' : Mu) (σ' : H) (W' : World) : Prop where
  sim : Sim P μ' σ' W'
  ext : Ext μ μ'
  fresh : ∀ L, L < σ.next → μ' L = μ L
  next : σ.next ≤ σ'.next
  size : W.heap.size ≤ W'.heap.size
  own : ∀ b, Own μ' σ' b → W.heap.size ≤ b ∨ Own μ σ b
  frame : ∀ b, b < W.heap.size → ¬ Own μ σ b → W'.heap[b]? = W.heap[b]?
  os : W'.os = W.os
  tape : W'.tape = W.tape
  output : W'.output = W.output
  low : σ'.low ≤ σ.low
  kept : ∀ L o l, L < σ'.low → σ.get L = some o → μ L = some l → σ'.get L = some o ∧ W'.heap[l.blk]? = W.heap[l.blk]?
  ro : ∀ L o, σ'.get L = some o → roOf o = true → σ.get L = some o
  back : ∀ L o, L < σ.next → σ'.get L = some o → ∃ o', σ.get L = some o'

theorem minN_left (a b : Nat) : minN a b ≤ a := by
  unfold minN
  cases h : Nat.ble a b with
  | true => simp
  | false =>
    have : ¬ a ≤ b := fun h' => by rw [Nat.ble_eq_true_of_le h'] at h; cases h
    simp; omega

theorem minN_right (a b : Nat) : minN a b ≤ b := by
  unfold minN
  cases h : Nat.ble a b with
  | true => exact Nat.le_of_ble_eq_true h
  | false => simp

theorem Step.trans {P : Program} {μ μ1 μ2 : Mu} {σ σ1 σ2 : H} {W W1 W2 : World} (h : Step P μ σ W μ1 σ1 W1) (k : Step P μ1 σ1 W1 μ2 σ2 W2) : Step P μ σ W μ2 σ2 W2 where
  sim := k.sim
  ext := h.ext.trans k.ext
  fresh L hL := (k.fresh L (Nat.lt_of_lt_of_le hL h.next)).trans (h.fresh L hL)
  next := Nat.le_trans h.next k.next
  size := Nat.le_trans h.size k.size
  own b hb := by
    rcases k.own b hb with h1 | h1
    · exact .inl (Nat.le_trans h.size h1)
    · exact h.own b h1
  frame b hb ho := by
    rw [k.frame b (Nat.lt_of_lt_of_le hb h.size) (fun x => by
      rcases h.own b x with h1 | h1
      · omega
      · exact ho h1)]
    exact h.frame b hb ho
  os := k.os.trans h.os
  tape := k.tape.trans h.tape
  output := k.output.trans h.output
  low := Nat.le_trans k.low h.low
  kept L o l hL ho hl :=
    let ⟨h1, h2⟩ := h.kept L o l (Nat.lt_of_lt_of_le hL k.low) ho hl
    let ⟨h3, h4⟩ := k.kept L o l hL h1 (h.ext _ _ hl)
    ⟨h3, h4.trans h2⟩
  ro L o hL ho := h.ro L o (k.ro L o hL ho) ho
  back L o hL ho :=
    let ⟨o1, h1⟩ := k.back L o (Nat.lt_of_lt_of_le hL h.next) ho
    h.back L o1 hL h1

/-- The world turns in nothing but its count of draws. -/
theorem Step.same {P : Program} {μ : Mu} {σ : H} {W W' : World} (h : Sim P μ σ W) (hh : W'.heap = W.heap) (ho : W'.os = W.os) (ht : W'.tape = W.tape) (hu : W'.output = W.output) : Step P μ σ W μ σ W' where
  sim := ⟨fun L o hL => let ⟨l, h1, h2⟩ := h.obj L o hL; ⟨l, h1, h2.mono (Ext.refl _) (by rw [hh])⟩, h.inj, h.nxt⟩
  ext := Ext.refl _
  fresh _ _ := rfl
  next := Nat.le_refl _
  size := by rw [hh]; exact Nat.le_refl _
  own b hb := .inr hb
  frame b _ _ := by rw [hh]
  os := ho
  tape := ht
  output := hu
  low := Nat.le_refl _
  kept L o l _ h1 _ := ⟨h1, by rw [hh]⟩
  ro L o h1 _ := h1
  back L o _ h1 := ⟨o, h1⟩

theorem Step.refl {P : Program} {μ : Mu} {σ : H} {W : World} (h : Sim P μ σ W) : Step P μ σ W μ σ W := Step.same h rfl rfl rfl rfl

/-- The abstract memory forgets, or is read by another count. -/
theorem Sim.weaken {P : Program} {μ : Mu} {σ σ' : H} {W : World} (h : Sim P μ σ W) (hs : ∀ L o, σ'.get L = some o → σ.get L = some o) (hn : σ.next ≤ σ'.next) : Sim P μ σ' W where
  obj L o hL := h.obj L o (hs L o hL)
  inj L K oL oK lL lK h1 h2 := h.inj L K oL oK lL lK (hs _ _ h1) (hs _ _ h2)
  nxt L hL := h.nxt L (Nat.le_trans hn hL)

theorem Step.weaken {P : Program} {μ : Mu} {σ σ' : H} {W : World} (h : Sim P μ σ W) (hs : ∀ L o, σ'.get L = some o → σ.get L = some o) (hn : σ.next ≤ σ'.next)
    (hl : σ'.low ≤ σ.low) (hk : ∀ L o, L < σ'.low → σ.get L = some o → σ'.get L = some o) : Step P μ σ W μ σ' W where
  sim := h.weaken hs hn
  ext := Ext.refl _
  fresh _ _ := rfl
  next := hn
  size := Nat.le_refl _
  own _ hb := .inr (let ⟨L, o, l, h1, h2, h3, h4⟩ := hb; ⟨L, o, l, hs _ _ h1, h2, h3, h4⟩)
  frame _ _ _ := rfl
  os := rfl
  tape := rfl
  output := rfl
  low := hl
  kept L o _ h1 h2 _ := ⟨hk L o h1 h2, rfl⟩
  ro L o h1 _ := hs L o h1
  back L o _ h1 := ⟨o, hs L o h1⟩

/-! ### New blocks -/
def Mu.up (μ : Mu) (L : Nat) (l : Loc) : Mu := fun K => if K = L then some l else μ K

theorem Mu.up_ext {μ : Mu} {L : Nat} {l : Loc} (h : μ L = none) : Ext μ (μ.up L l) := by
  intro K k hk
  unfold Mu.up
  split
  · rename_i e; subst e; rw [h] at hk; cases hk
  · exact hk

theorem Mu.up_same (μ : Mu) (L : Nat) (l : Loc) : μ.up L l L = some l := by simp [Mu.up]
theorem Mu.up_ne (μ : Mu) {L K : Nat} (l : Loc) (h : K ≠ L) : μ.up L l K = μ K := by simp [Mu.up, h]

/-- A block is made, and an object of the abstract memory stands for it. -/
theorem Sim.alloc {P : Program} {μ : Mu} {σ σ' : H} {W : World} (h : Sim P μ σ W) {L : Nat} {o : AObj} {ob : Obj} {l : Loc} (hL : μ L = none)
    (hg : ∀ K, σ'.get K = if K = L then some o else σ.get K) (hLn : L < σ'.next) (hn : σ.next ≤ σ'.next) (hb : l.blk = W.heap.size)
    (ho : ORel P (μ.up L l) { W with heap := W.heap.push ob } o l) : Sim P (μ.up L l) σ' { W with heap := W.heap.push ob } where
  obj K oK hK := by
    rw [hg] at hK
    by_cases e : K = L
    · subst e; simp at hK; subst hK; exact ⟨l, Mu.up_same _ _ _, ho⟩
    · rw [if_neg e] at hK
      obtain ⟨k, h1, h2⟩ := h.obj K oK hK
      refine ⟨k, by rw [Mu.up_ne _ _ e]; exact h1, h2.mono (Mu.up_ext hL) ?_⟩
      have := h2.some
      simp [Array.getElem?_push, Nat.ne_of_lt this]
  inj A B oA oB lA lB h1 h2 hne h3 h4 hro := by
    rw [hg] at h1 h2
    by_cases eA : A = L
    · subst eA
      by_cases eB : B = A
      · exact absurd eB.symm hne
      · rw [if_neg eB] at h2
        rw [Mu.up_ne _ _ eB] at h4
        rw [Mu.up_same] at h3
        obtain ⟨k, h5, h6⟩ := h.obj B oB h2
        rw [h4] at h5; cases h5
        cases h3
        have := h6.some
        omega
    · rw [if_neg eA] at h1
      rw [Mu.up_ne _ _ eA] at h3
      by_cases eB : B = L
      · subst eB
        rw [Mu.up_same] at h4
        obtain ⟨k, h5, h6⟩ := h.obj A oA h1
        rw [h3] at h5; cases h5
        cases h4
        have := h6.some
        omega
      · rw [if_neg eB] at h2
        rw [Mu.up_ne _ _ eB] at h4
        exact h.inj A B oA oB lA lB h1 h2 hne h3 h4 hro
  nxt K hK := by
    rw [Mu.up_ne _ _ (by omega)]
    exact h.nxt K (Nat.le_trans hn hK)

theorem Step.alloc {P : Program} {μ : Mu} {σ σ' : H} {W : World} (h : Sim P μ σ W) {o : AObj} {ob : Obj} {l : Loc}
    (hg : ∀ K, σ'.get K = if K = σ.next then some o else σ.get K) (hn : σ'.next = σ.next + 1) (hlow : σ'.low = σ.low) (hro : roOf o = false) (hb : l.blk = W.heap.size)
    (ho : ORel P (μ.up σ.next l) { W with heap := W.heap.push ob } o l) : Step P μ σ W (μ.up σ.next l) σ' { W with heap := W.heap.push ob } where
  sim := h.alloc (h.nxt _ (Nat.le_refl _)) hg (by omega) (by omega) hb ho
  ext := Mu.up_ext (h.nxt _ (Nat.le_refl _))
  fresh L hL := Mu.up_ne _ _ (by omega)
  next := by omega
  size := by simp
  own b hb' := by
    obtain ⟨L, o', l', h1, h2, h3, h4⟩ := hb'
    rw [hg] at h1
    by_cases e : L = σ.next
    · subst e; rw [Mu.up_same] at h3; cases h3; exact .inl (by omega)
    · rw [if_neg e] at h1; rw [Mu.up_ne _ _ e] at h3; exact .inr ⟨L, o', l', h1, h2, h3, h4⟩
  frame b hb' _ := by simp [Array.getElem?_push, Nat.ne_of_lt hb']
  os := rfl
  tape := rfl
  output := rfl
  low := by omega
  kept L oL lL _ h1 h2 := by
    have hne : L ≠ σ.next := fun e => by rw [e, h.nxt _ (Nat.le_refl _)] at h2; cases h2
    refine ⟨by rw [hg, if_neg hne]; exact h1, ?_⟩
    obtain ⟨l', h3, h4⟩ := h.obj L oL h1
    rw [h2] at h3; cases h3
    have := h4.some
    simp [Array.getElem?_push, Nat.ne_of_lt this]
  ro L oL h1 h2 := by
    rw [hg] at h1
    split at h1
    · cases h1; rw [hro] at h2; cases h2
    · exact h1
  back L oL hL h1 := by
    rw [hg, if_neg (by omega)] at h1
    exact ⟨oL, h1⟩

/-! ### An object is replaced in its place -/
theorem Step.replace {P : Program} {μ : Mu} {σ σ' : H} {W W' : World} (h : Sim P μ σ W) {L : Nat} {o o' : AObj} {l : Loc} (hL : σ.get L = some o) (hro : roOf o = false) (hro' : roOf o' = false) (hl : μ L = some l)
    (hg : ∀ K, σ'.get K = if K = L then some o' else σ.get K) (hn : σ'.next = σ.next) (hlow : σ'.low ≤ σ.low ∧ σ'.low ≤ L) (hW : ∀ b, b ≠ l.blk → W'.heap[b]? = W.heap[b]?) (hs : W'.heap.size = W.heap.size)
    (ho : ORel P μ W' o' l) (hos : W'.os = W.os) (ht : W'.tape = W.tape) (hu : W'.output = W.output) : Step P μ σ W μ σ' W' where
  sim := {
    obj := by
      intro K oK hK
      rw [hg] at hK
      by_cases e : K = L
      · subst e; simp at hK; subst hK; exact ⟨l, hl, ho⟩
      · rw [if_neg e] at hK
        obtain ⟨k, h1, h2⟩ := h.obj K oK hK
        exact ⟨k, h1, h2.mono (Ext.refl _) (hW _ (h.inj K L oK o k l hK hL e h1 hl (.inr hro)))⟩
    inj := by
      intro A B oA oB lA lB h1 h2 hne h3 h4 hr
      rw [hg] at h1 h2
      by_cases eA : A = L
      · subst eA
        by_cases eB : B = A
        · exact absurd eB.symm hne
        · rw [if_neg eB] at h2
          exact h.inj A B o oB lA lB hL h2 hne h3 h4 (.inl hro)
      · rw [if_neg eA] at h1
        by_cases eB : B = L
        · subst eB
          exact h.inj A B oA o lA lB h1 hL hne h3 h4 (.inr hro)
        · rw [if_neg eB] at h2
          exact h.inj A B oA oB lA lB h1 h2 hne h3 h4 hr
    nxt := fun K hK => h.nxt K (by omega) }
  ext := Ext.refl _
  fresh _ _ := rfl
  next := by omega
  size := by omega
  own b hb := by
    obtain ⟨K, oK, lK, h1, h2, h3, h4⟩ := hb
    rw [hg] at h1
    by_cases e : K = L
    · subst e; exact .inr ⟨K, o, lK, hL, hro, h3, h4⟩
    · rw [if_neg e] at h1; exact .inr ⟨K, oK, lK, h1, h2, h3, h4⟩
  frame b _ hb := hW b (fun e => hb ⟨L, o, l, hL, hro, hl, e.symm⟩)
  os := hos
  tape := ht
  output := hu
  low := hlow.1
  kept K oK lK h1 h2 h3 := by
    have hne : K ≠ L := by have := hlow.2; omega
    exact ⟨by rw [hg, if_neg hne]; exact h2, hW _ (h.inj K L oK o lK l h2 hL hne h3 hl (.inr hro))⟩
  ro K oK h1 h2 := by
    rw [hg] at h1
    split at h1
    · cases h1; rw [hro'] at h2; cases h2
    · exact h1
  back K oK _ h1 := by
    rw [hg] at h1
    split at h1
    · rename_i e; subst e; exact ⟨o, hL⟩
    · exact ⟨oK, h1⟩

/-- One object that is no row is put in the place of another one. -/
theorem Step.putObj {P : Program} {μ : Mu} {σ : H} {W : World} (h : Sim P μ σ W) {L : Nat} {o o' : AObj} {ob : Obj} {l : Loc} (hL : σ.get L = some o) (hro : roOf o = false) (hro' : roOf o' = false) (hl : μ L = some l)
    (ho : W.heap[l.blk]?.isSome = true → ORel P μ { W with heap := W.heap.setIfInBounds l.blk ob } o' l) : Step P μ σ W μ (σ.put L o') { W with heap := W.heap.setIfInBounds l.blk ob } := by
  obtain ⟨k, h1, h2⟩ := h.obj L o hL
  rw [hl] at h1; cases h1
  have hlt := h2.some
  refine Step.replace h hL hro hro' hl (fun K => H.get_put _ _ _ _) rfl ⟨minN_left _ _, minN_right _ _⟩ (fun b hb => ?_) (by simp) (ho (by simp [hlt])) rfl rfl rfl
  simp [Ne.symm hb]

/-! ### Cells -/
theorem cell_at {W : World} {b : Nat} {pre mid post : List Value} {e : TypeId} {fz : Nat × Nat} (h : W.heap[b]? = some (.cells ⟨pre ++ (mid ++ post)⟩ e fz)) (i : Nat) (hi : i < mid.length) :
    W.cell? ⟨b, pre.length + i, none⟩ = mid[i]? := by
  unfold World.cell?
  simp only [h, Option.isSome_none, Bool.false_eq_true, if_false]
  rw [List.getElem?_toArray, List.getElem?_append_right (by omega), List.getElem?_append_left (by omega)]
  congr 1
  omega

theorem frozen_at {W : World} {b : Nat} {c : Array Value} {e : TypeId} {fz : Nat × Nat} (h : W.heap[b]? = some (.cells c e fz)) (i : Nat) (hi : ¬ (fz.1 ≤ i ∧ i < fz.2)) : W.frozen? ⟨b, i, none⟩ = false := by
  unfold World.frozen?
  simp only [h]
  simp only [Bool.and_eq_false_iff, decide_eq_false_iff_not]
  omega

theorem setMany_length : ∀ (vs cs : List Value) (k : Nat), (setMany cs k vs).length = cs.length
  | [], _, _ => rfl
  | v :: vs, cs, k => by rw [setMany, setMany_length vs, List.length_set]

theorem setMany_mid : ∀ (vs pre mid post : List Value) (k : Nat), k + vs.length ≤ mid.length → setMany (pre ++ (mid ++ post)) (pre.length + k) vs = pre ++ (setMany mid k vs ++ post)
  | [], _, _, _, _, _ => rfl
  | v :: vs, pre, mid, post, k, h => by
    simp only [List.length_cons] at h
    have h1 : (pre ++ (mid ++ post)).set (pre.length + k) v = pre ++ (mid.set k v ++ post) := by
      rw [List.set_append_right _ _ (by omega), List.set_append_left _ _ (by omega)]
      congr 3; omega
    rw [setMany, h1, setMany, Nat.add_assoc, setMany_mid vs pre (mid.set k v) post (k + 1) (by simp; omega)]

theorem setMany_rel {α : Mu} : ∀ {vs vs' : List Value} {cs cs' : List Value} (k : Nat), All2 (VRel α) vs vs' → All2 (VRel α) cs cs' → All2 (VRel α) (setMany cs k vs) (setMany cs' k vs')
  | [], _, _, _, _, .nil, hc => hc
  | _ :: _, _, _, _, k, .cons h1 h2, hc => setMany_rel (k + 1) h2 (hc.set h1 k)

theorem setMany_mem : ∀ {vs cs : List Value} {k : Nat} {Q : Value → Prop}, (∀ v ∈ vs, Q v) → (∀ v ∈ cs, Q v) → ∀ v ∈ setMany cs k vs, Q v
  | [], _, _, _, _, hc => hc
  | v :: vs, cs, k, Q, hv, hc => by
    rw [setMany]
    refine setMany_mem (fun u hu => hv u (by simp [hu])) (fun u hu => ?_)
    rcases List.mem_or_eq_of_mem_set hu with h | h
    · exact hc u h
    · subst h; exact hv u (by simp)

theorem setCell_heap (W : World) (b i : Nat) (v : Value) {c : Array Value} {e : TypeId} {fz : Nat × Nat} (h : W.heap[b]? = some (.cells c e fz)) :
    (W.setCell ⟨b, i, none⟩ v).heap[b]? = some (.cells (c.setIfInBounds i v) e fz) := by
  simp [World.setCell, Array.getElem?_modify, h]

/-- Cells are stored one behind the other. -/
theorem run_storeMany (P : Program) (b o : Nat) (e : TypeId) (fz : Nat × Nat) : ∀ (vs : List Value) (i : Nat) (W : World) (c : List Value), W.heap[b]? = some (.cells ⟨c⟩ e fz) → o + i + vs.length ≤ c.length →
    (∀ k, k < c.length → ¬ (fz.1 ≤ k ∧ k < fz.2)) → (∀ v ∈ vs, oc v = true) →
    ∃ W', (storeCells ⟨b, o, none⟩ vs i).run P W = .ok () W' ∧ W'.heap[b]? = some (.cells ⟨setMany c (o + i) vs⟩ e fz) ∧ (∀ k, k ≠ b → W'.heap[k]? = W.heap[k]?) ∧ W'.heap.size = W.heap.size ∧ W'.os = W.os ∧ W'.tape = W.tape ∧ W'.output = W.output
  | [], _, W, c, h, _, _, _ => ⟨W, rfl, h, fun _ _ => rfl, rfl, rfl, rfl, rfl⟩
  | v :: vs, i, W, c, h, hlen, hf, h1 => by
    simp only [List.length_cons] at hlen
    have hadd : (⟨b, o, none⟩ : Addr).add i = ⟨b, o + i, none⟩ := by unfold Addr.add; split <;> simp_all
    have hcell : W.cell? ⟨b, o + i, none⟩ = some (c[o + i]'(by omega)) := by
      unfold World.cell?
      simp [h, List.getElem?_eq_getElem (show o + i < c.length by omega)]
    have hst : (store ((⟨b, o, none⟩ : Addr).add i) v).run P W = .ok () (W.setCell ⟨b, o + i, none⟩ v) := by
      rw [hadd, run_store P W _ v _ (by rw [oc_eq]; exact h1 v (by simp))]
      simp [hcell, frozen_at h (o + i) (hf _ (by omega))]
    have hh : (W.setCell ⟨b, o + i, none⟩ v).heap[b]? = some (.cells ⟨c.set (o + i) v⟩ e fz) := by
      rw [setCell_heap W b (o + i) v h]; simp
    obtain ⟨W', r1, r2, r3, r4, r5, r6, r7⟩ := run_storeMany P b o e fz vs (i + 1) (W.setCell ⟨b, o + i, none⟩ v) (c.set (o + i) v) hh (by simp; omega) (by simpa using hf) (fun u hu => h1 u (by simp [hu]))
    refine ⟨W', ?_, ?_, fun k hk => ?_, ?_, r5, r6, r7⟩
    · simp only [storeCells, Sem.run_bind, hst, Result.andThen_ok]; exact r1
    · rw [r2, setMany]; rfl
    · rw [r3 k hk]; simp only [World.setCell, Array.getElem?_modify]; rw [if_neg (by omega)]
    · rw [r4]; simp [World.setCell]

/-- A write of the abstract memory, and the stores that go with it. -/
theorem Step.write {P : Program} {μ : Mu} {σ σ' : H} {W : World} (h : Sim P μ σ W) {a : Addr} {b i : Nat} {s : Nat} {op : Option Nat} {vs vs' : List Value} (hw : σ.write a vs = some σ') (ha : μ a.block = some ⟨b, s, op⟩)
    (hi : i = s + a.off) (hv : All2 (VRel μ) vs vs') (ho : ∀ v ∈ vs, oc v = true) : ∃ W', (storeCells ⟨b, i, none⟩ vs').run P W = .ok () W' ∧ Step P μ σ W μ σ' W' := by
  subst hi
  unfold H.write at hw
  split at hw
  · rename_i cs opn hg
    cases hle : Nat.ble (a.off + vs.length) cs.length with
    | false => simp [hle] at hw
    | true =>
      simp only [hle, cond_true, Option.some.injEq] at hw
      have hle' := Nat.le_of_ble_eq_true hle
      obtain ⟨l, h1, pre, mid, post, e, fz, h2, h3, h4, h5, h6, h7⟩ := h.obj _ _ hg
      rw [ha] at h1; cases h1
      simp only at h2 h3 h7
      have hml := h4.length_eq
      have hvl := hv.length_eq
      have hno : ∀ v ∈ vs', oc v = true := by
        intro v' hv'
        obtain ⟨k, hk⟩ := List.getElem?_of_mem hv'
        have hkl := (List.getElem?_eq_some_iff.1 hk).1
        have hk0 : vs[k]? = some vs[k] := List.getElem?_eq_getElem (by omega)
        obtain ⟨v2, h8, h9⟩ := hv.get hk0
        rw [hk] at h8; cases h8
        rw [h9.one]; exact ho _ (List.mem_of_getElem? hk0)
      obtain ⟨W', r1, r2, r3, r4, r5, r6, r7⟩ := run_storeMany P b (s + a.off) e fz vs' 0 W (pre ++ (mid ++ post)) h2 (by simp; omega) (h6 rfl) hno
      refine ⟨W', r1, Step.replace h hg rfl rfl ha (fun K => by rw [← hw, H.get_put]) (by rw [← hw]; rfl) (by rw [← hw]; exact ⟨minN_left _ _, minN_right _ _⟩) (fun k hk => r3 k hk) r4 ?_ r5 r6 r7⟩
      refine ⟨pre, setMany mid a.off vs', post, e, fz, ?_, h3, setMany_rel _ hv h4, setMany_mem ho h5, ?_, ?_⟩
      · rw [r2, ← h3, Nat.add_zero, setMany_mid _ _ _ _ _ (by omega)]
      · intro _ k hk
        exact h6 rfl k (by simpa [setMany_length] using hk)
      · simpa [setMany_length] using h7
  · cases hw

theorem add_eq (b o j : Nat) : (⟨b, o, none⟩ : Addr).add j = ⟨b, o + j, none⟩ := by unfold Addr.add; split <;> simp_all

theorem takeAt_some {cs r : List Value} {off n : Nat} (h : takeAt cs off n = some r) : r = (cs.drop off).take n ∧ r.length = n := by
  unfold takeAt at h
  simp only at h
  cases hb : Nat.beq ((cs.drop off).take n).length n with
  | false => rw [hb] at h; simp at h
  | true => rw [hb] at h; simp at h; subst h; exact ⟨rfl, Nat.eq_of_beq_eq_true hb⟩

/-- A read of the abstract memory, and the loads that go with it. -/
theorem read_runH {P : Program} {μ : Mu} {σ : H} {W : World} (h : Sim P μ σ W) {a : Addr} {b i s n : Nat} {op : Option Nat} {r : List Value} (hr : σ.read a n = some r) (ha : μ a.block = some ⟨b, s, op⟩) (hi : i = s + a.off) :
    ∃ r', (∀ W' : World, W'.heap = W.heap → (loadCells ⟨b, i, none⟩ n).run P W' = .ok ⟨r'⟩ W') ∧ All2 (VRel μ) r r' ∧ (∀ v ∈ r, oc v = true) ∧ r.length = n := by
  subst hi
  unfold H.read at hr
  split at hr
  · rename_i cs opn ro hg
    obtain ⟨hr1, hr2⟩ := takeAt_some hr
    obtain ⟨l, h1, pre, mid, post, e, fz, h2, h3, h4, h5, h6, h7⟩ := h.obj _ _ hg
    rw [ha] at h1; cases h1
    simp only at h2 h3
    have h8 : All2 (VRel μ) r ((mid.drop a.off).take n) := by rw [hr1]; exact (h4.drop _).take _
    refine ⟨(mid.drop a.off).take n, ?_, h8, fun v hv => h5 v ?_, hr2⟩
    · intro W' hW'
      have h2' : W'.heap[b]? = some (.cells ⟨pre ++ (mid ++ post)⟩ e fz) := by rw [hW']; exact h2
      have hl := h8.length_eq
      have := run_loadCells_list (P := P) W' ⟨b, s + a.off, none⟩ ((mid.drop a.off).take n) (fun j v hj => by
        have hjl := (List.getElem?_eq_some_iff.1 hj).1
        rw [List.getElem?_take] at hj
        split at hj
        · rw [List.getElem?_drop] at hj
          have hadd : (⟨b, s + a.off, none⟩ : Addr).add j = ⟨b, pre.length + (a.off + j), none⟩ := by rw [add_eq, h3, Nat.add_assoc]
          rw [hadd, cell_at h2' _ (by have := (List.getElem?_eq_some_iff.1 hj).1; exact this), hj]
        · cases hj)
      rw [← hl, hr2] at this
      exact this
    · rw [hr1] at hv
      exact List.mem_of_mem_drop (List.mem_of_mem_take hv)
  · cases hr

theorem read_run {P : Program} {μ : Mu} {σ : H} {W : World} (h : Sim P μ σ W) {a : Addr} {b i s n : Nat} {op : Option Nat} {r : List Value} (hr : σ.read a n = some r) (ha : μ a.block = some ⟨b, s, op⟩) (hi : i = s + a.off) :
    ∃ r', (loadCells ⟨b, i, none⟩ n).run P W = .ok ⟨r'⟩ W ∧ All2 (VRel μ) r r' ∧ (∀ v ∈ r, oc v = true) ∧ r.length = n := by
  obtain ⟨r', h1, h2⟩ := read_runH (P := P) h hr ha hi
  exact ⟨r', h1 W rfl, h2⟩

end Go.AM

/-
  Equality.
-/
namespace Go.AM

theorem eqBytes_iff : ∀ (x y : List UInt8), eqBytes x y = (x == y)
  | [], [] => rfl
  | [], _ :: _ => rfl
  | _ :: _, [] => rfl
  | a :: x, b :: y => by
    simp only [eqBytes]
    have hc : (a :: x == b :: y) = (a == b && x == y) := rfl
    rw [hc, eqBytes_iff x y]
    by_cases h : a = b
    · subst h; simp
    · have h1 : Nat.beq a.toNat b.toNat = false := by
        cases e : Nat.beq a.toNat b.toNat with
        | false => rfl
        | true => exact absurd (UInt8.toNat_inj.1 (Nat.eq_of_beq_eq_true e)) h
      have h2 : (a == b) = false := by simpa using h
      simp [h1, h2]

theorem eqBytes_toList (a b : ByteArray) : eqBytes a.data.toList b.data.toList = (a.toList == b.toList) := by
  rw [eqBytes_iff, ByteArray.toList_eq, ByteArray.toList_eq]

theorem leafEq_plain {k : LK} {x y : Value} {b : Bool} (h : leafEq k x y = some b) : plain0 x = true ∧ plain0 y = true := by
  cases k <;> cases x <;> cases y <;> simp [leafEq] at h <;> exact ⟨rfl, rfl⟩

theorem flatEq_plain : ∀ {ks : List LK} {xs ys : List Value} {b : Bool}, flatEq ks xs ys = some b → (∀ x ∈ xs, plain0 x = true) ∧ (∀ y ∈ ys, plain0 y = true) ∧ xs.length = ks.length ∧ ys.length = ks.length
  | [], [], [], _, _ => by simp
  | [], [], _ :: _, _, h => by simp [flatEq] at h
  | [], _ :: _, _, _, h => by simp [flatEq] at h
  | _ :: _, [], _, _, h => by simp [flatEq] at h
  | _ :: _, _ :: _, [], _, h => by simp [flatEq] at h
  | k :: ks, x :: xs, y :: ys, b, h => by
    simp only [flatEq] at h
    split at h
    · rename_i a c h1 h2
      obtain ⟨p, q⟩ := leafEq_plain h1
      obtain ⟨r, s, t, u⟩ := flatEq_plain h2
      refine ⟨?_, ?_, by simp [t], by simp [u]⟩
      · intro z hz; rcases List.mem_cons.1 hz with e | e
        · subst e; exact p
        · exact r z e
      · intro z hz; rcases List.mem_cons.1 hz with e | e
        · subst e; exact q
        · exact s z e
    · cases h

theorem flatEq_append : ∀ (k1 k2 : List LK) (xs ys : List Value) (b : Bool), flatEq (k1 ++ k2) xs ys = some b →
    ∃ b1 b2, flatEq k1 (xs.take k1.length) (ys.take k1.length) = some b1 ∧ flatEq k2 (xs.drop k1.length) (ys.drop k1.length) = some b2 ∧ b = (b1 && b2)
  | [], k2, xs, ys, b, h => ⟨true, b, by simp [flatEq], by simpa using h, by simp⟩
  | k :: k1, k2, [], ys, b, h => by simp [flatEq] at h
  | k :: k1, k2, x :: xs, [], b, h => by simp [flatEq] at h
  | k :: k1, k2, x :: xs, y :: ys, b, h => by
    simp only [List.cons_append, flatEq] at h
    split at h
    · rename_i a c h1 h2
      obtain ⟨b1, b2, e1, e2, e3⟩ := flatEq_append k1 k2 xs ys c h2
      simp only [Option.some.injEq] at h
      exact ⟨a && b1, b2, by simp [flatEq, h1, e1], by simpa using e2, by rw [← h, e3, Bool.and_assoc]⟩
    · cases h

section
variable {P : Program}

theorem info_und {t : TypeId} {d : TypeDesc} (h : P.underlying t = some d) : ∃ i, P.info? t = some i := by
  unfold Program.underlying at h
  cases hi : P.info? t with
  | none => rw [hi] at h; simp at h
  | some i => exact ⟨i, rfl⟩

theorem leafEq_run {t : TypeId} {k : LK} (hk : leafK P t = some k) {x y : Value} {b : Bool} (h : leafEq k x y = some b) (d : Nat) (W : World) : (Op.equalIn (d + 1) t x y).run P W = .ok b W := by
  unfold leafK at hk
  split at hk <;> simp only [Option.some.injEq, reduceCtorEq] at hk <;> subst hk
  · rename_i hu
    cases x <;> cases y <;> simp [leafEq] at h
    subst h
    exact run_equalIn_bool' W d t _ _ hu
  · rename_i q hu
    cases x <;> cases y <;> simp [leafEq] at h
    obtain ⟨h1, h2⟩ := h
    subst h1; subst h2
    exact run_equalIn_int W d t _ q _ _ hu
  · rename_i hu
    cases x <;> cases y <;> simp [leafEq] at h
    subst h
    rw [eqBytes_toList]
    exact run_equalIn_string W d t _ _ hu

theorem leaf_part {t : TypeId} {k : LK} (hk : leafK P t = some k) {xs : Array Value} {off : Nat} {v : Value} (hv : xs.toList[off]? = some v) (W : World) : (part t xs off).run P W = .ok v W := by
  have hv' : xs[off]? = some v := by simpa using hv
  unfold leafK at hk
  split at hk <;> first
    | (rename_i hu; simp [part, isAgg, run_underlying hu, hv'])
    | cases hk

theorem run_sizeO {t : TypeId} {i : TypeInfo} (h : P.info? t = some i) (W : World) : (sizeOf t).run P W = .ok i.size W := by
  simp [sizeOf, typeInfo, h]

theorem agg_part {t : TypeId} {fs : Array Field} {i : TypeInfo} (hu : P.underlying t = some (.struct fs)) (hi : P.info? t = some i) (xs : Array Value) (off : Nat) (W : World) :
    (part t xs off).run P W = .ok (.agg ⟨(xs.toList.drop off).take i.size⟩) W := by
  have : xs.extract off (off + i.size) = ⟨(xs.toList.drop off).take i.size⟩ := by
    apply Array.ext'
    rw [Array.toList_extract]
    simp [List.extract]
  simp [part, isAgg, run_underlying hu, run_sizeO hi, this]

/-- What is compared leaf by leaf. -/
theorem flat_run : ∀ (m : Nat) {t : TypeId} {ks : List LK} (fs : Array Field) (_ : P.underlying t = some (.struct fs)) (_ : flatK P m t = some ks) {xs ys : List Value} {b : Bool} (_ : flatEq ks xs ys = some b) (d : Nat) (W : World),
    (Op.equalIn (d + m) t (.agg ⟨xs⟩) (.agg ⟨ys⟩)).run P W = .ok b W
  | 0, t, ks, fs, hu, hk, _, _, _, _, _, _ => by simp [flatK] at hk
  | m + 1, t, ks, fs, hu, hk, xs, ys, b, h, d, W => by
    simp only [flatK, hu] at hk
    cases hs : P.stoodInHeld t with
    | true => rw [hs] at hk; simp at hk
    | false =>
      rw [hs] at hk
      simp only [cond_false] at hk
      have hfs : P.fieldsOf t = fs := by simp [Program.fieldsOf, hu]
      rw [show d + (m + 1) = (d + m) + 1 from rfl, run_equalIn_struct W (d + m) t ⟨xs⟩ ⟨ys⟩ (by rw [hfs]; exact hu) hs, hfs]
      -- field by field
      have key : ∀ (l : List Field) (off : Nat) (kl : List LK) (c : Bool), flatL P (flatK P m) l off = some kl → flatEq kl (xs.drop off) (ys.drop off) = some c → (Op.eqFields (d + m) ⟨xs⟩ ⟨ys⟩ l).run P W = .ok c W := by
        intro l
        induction l with
        | nil =>
          intro off kl c h1 h2
          simp only [flatL, Option.some.injEq] at h1
          subst h1
          have hx : xs.drop off = [] := by
            have := (flatEq_plain h2).2.2.1
            exact List.eq_nil_of_length_eq_zero (by simpa using this)
          have hy : ys.drop off = [] := by
            have := (flatEq_plain h2).2.2.2
            exact List.eq_nil_of_length_eq_zero (by simpa using this)
          rw [hx, hy] at h2
          simp only [flatEq, Option.some.injEq] at h2
          subst h2
          simp [Op.eqFields]
        | cons f l ih =>
          intro off kl c h1 h2
          simp only [flatL] at h1
          cases hn : (f.name == "_") with
          | true => rw [hn] at h1; simp at h1
          | false =>
            rw [hn] at h1
            simp only [cond_false] at h1
            cases ho : Nat.beq f.offset off with
            | false => rw [ho] at h1; simp at h1
            | true =>
              rw [ho] at h1
              simp only [cond_true] at h1
              have hoff := Nat.eq_of_beq_eq_true ho
              cases hkf : flatK P m f.type with
              | none => simp [hkf] at h1
              | some kf =>
                cases hif : P.info? f.type with
                | none => simp [hkf, hif] at h1
                | some i =>
                  simp only [hkf, hif] at h1
                  cases hl : Nat.beq kf.length i.size with
                  | false => rw [hl] at h1; simp at h1
                  | true =>
                    rw [hl] at h1
                    simp only [cond_true, Option.map_eq_some_iff] at h1
                    obtain ⟨kr, h3, rfl⟩ := h1
                    have hlen := Nat.eq_of_beq_eq_true hl
                    obtain ⟨b1, b2, e1, e2, e3⟩ := flatEq_append kf kr _ _ _ h2
                    rw [List.drop_drop, List.drop_drop, hlen] at e2
                    have hrest := ih (off + i.size) kr b2 h3 e2
                    have hn' : f.name ≠ "_" := by simpa using hn
                    -- the field itself
                    have hf : ∃ a c, (part f.type ⟨xs⟩ f.offset).run P W = .ok a W ∧ (part f.type ⟨ys⟩ f.offset).run P W = .ok c W ∧ (Op.equalIn (d + m) f.type a c).run P W = .ok b1 W := by
                      cases m with
                      | zero => simp [flatK] at hkf
                      | succ m =>
                        have hkf0 := hkf
                        simp only [flatK] at hkf
                        have leaf : ∀ k, leafK P f.type = some k → kf = [k] → ∃ a c, (part f.type ⟨xs⟩ f.offset).run P W = .ok a W ∧ (part f.type ⟨ys⟩ f.offset).run P W = .ok c W ∧ (Op.equalIn (d + (m + 1)) f.type a c).run P W = .ok b1 W := by
                          intro k hk1 hk2
                          subst hk2
                          simp only [List.length_singleton] at e1
                          cases hdx : xs.drop off with
                          | nil => rw [hdx] at e1; simp [flatEq] at e1
                          | cons x xr =>
                            cases hdy : ys.drop off with
                            | nil => rw [hdx, hdy] at e1; simp [flatEq] at e1
                            | cons y yr =>
                              rw [hdx, hdy] at e1
                              simp only [List.take_succ_cons, List.take_zero, flatEq] at e1
                              cases hle : leafEq k x y with
                              | none => rw [hle] at e1; simp at e1
                              | some b0 =>
                                rw [hle] at e1
                                simp only [Bool.and_true, Option.some.injEq] at e1
                                subst e1
                                have gx : (⟨xs⟩ : Array Value).toList[f.offset]? = some x := by
                                  rw [hoff]
                                  have : (xs.drop off)[0]? = some x := by rw [hdx]; rfl
                                  simpa using this
                                have gy : (⟨ys⟩ : Array Value).toList[f.offset]? = some y := by
                                  rw [hoff]
                                  have : (ys.drop off)[0]? = some y := by rw [hdy]; rfl
                                  simpa using this
                                exact ⟨x, y, leaf_part hk1 gx W, leaf_part hk1 gy W, leafEq_run hk1 hle (d + m) W⟩
                        cases huf : P.underlying f.type with
                        | none => rw [huf] at hkf; simp at hkf
                        | some dsc =>
                          rw [huf] at hkf
                          cases dsc <;> simp only [Option.some.injEq, reduceCtorEq] at hkf
                          case bool => exact leaf .bool (by simp [leafK, huf]) hkf.symm
                          case int => exact leaf .int (by simp [leafK, huf]) hkf.symm
                          case string => exact leaf .string (by simp [leafK, huf]) hkf.symm
                          case struct gs =>
                            rw [hoff]
                            refine ⟨_, _, agg_part huf hif _ _ W, agg_part huf hif _ _ W, ?_⟩
                            have := flat_run (m + 1) gs huf hkf0 e1 d W
                            rw [hlen] at this
                            exact this
                    obtain ⟨a, c', p1, p2, p3⟩ := hf
                    simp only [Op.eqFields, hn', ne_eq, not_false_eq_true, if_true, Sem.run_bind, p1, p2, p3, Result.andThen_ok]
                    subst e3
                    cases b1
                    · simp
                    · simpa using hrest
      exact key fs.toList 0 ks b hk (by simpa using h)

theorem leaf_rel {μ : Mu} {k : LK} {x y x' y' : Value} {b : Bool} (h : leafEq k x y = some b) (hx : VRel μ x x') (hy : VRel μ y y') : x' = x ∧ y' = y :=
  ⟨rel_plain0 hx (leafEq_plain h).1, rel_plain0 hy (leafEq_plain h).2⟩

theorem flat_rel {μ : Mu} {ks : List LK} {xs ys : Array Value} {x' y' : Value} {b : Bool} (h : flatEq ks xs.toList ys.toList = some b) (hx : VRel μ (.agg xs) x') (hy : VRel μ (.agg ys) y') : x' = .agg xs ∧ y' = .agg ys := by
  obtain ⟨p, q, _, _⟩ := flatEq_plain h
  exact ⟨rel_plainV hx (by unfold plainV; exact List.all_eq_true.2 p), rel_plainV hy (by unfold plainV; exact List.all_eq_true.2 q)⟩

theorem inv_ptr {μ : Mu} {a : Addr} {v' : Value} (h : VRel μ (.pointer (some a)) v') : ∃ b s o, a.spot = none ∧ μ a.block = some ⟨b, s, o⟩ ∧ v' = .pointer (some ⟨b, s + a.off, none⟩) := by
  cases h; exact ⟨_, _, _, rfl, by assumption, rfl⟩

theorem inv_slice {μ : Mu} {a : Addr} {n c : Nat} {v' : Value} (h : VRel μ (.slice (some a) n c) v') : ∃ a' c', v' = .slice (some a') n c' ∧ c ≤ c' := by
  cases h
  · exact ⟨_, _, rfl, Nat.le_refl _⟩
  · exact ⟨_, _, rfl, by assumption⟩
  · exact ⟨_, _, rfl, Nat.le_refl _⟩

theorem inv_func {μ : Mu} {f : Fn} {a b : Array Value} {v' : Value} (h : VRel μ (.func f a b) v') : ∃ g a' b', v' = .func g a' b' := by
  cases h <;> exact ⟨_, _, _, rfl⟩

theorem equal_of {t : TypeId} {x y : Value} {b : Bool} {W : World} (h : ∀ d, (Op.equalIn (d + 1) t x y).run P W = .ok b W) : (Op.equal t x y).run P W = .ok b W := h 9999

/-- The equality of the abstract machine, at related values. -/
theorem aeq_run {μ : Mu} {t : TypeId} {x y x' y' : Value} {b : Bool} (h : aeq (ekOf P t) x y = some b) (hx : VRel μ x x') (hy : VRel μ y y') (W : World) : (Op.equal t x' y').run P W = .ok b W := by
  have leaf : ∀ k, leafK P t = some k → leafEq k x y = some b → (Op.equal t x' y').run P W = .ok b W := by
    intro k hk hl
    obtain ⟨rfl, rfl⟩ := leaf_rel hl hx hy
    exact leafEq_run hk hl 9999 W
  unfold ekOf at h
  cases hu : P.underlying t with
  | none => rw [hu] at h; simp [aeq] at h
  | some d =>
    rw [hu] at h
    cases d <;> simp only at h
    case bool => exact leaf .bool (by simp [leafK, hu]) (by simpa [aeq] using h)
    case int => exact leaf .int (by simp [leafK, hu]) (by simpa [aeq] using h)
    case string => exact leaf .string (by simp [leafK, hu]) (by simpa [aeq] using h)
    case pointer e =>
      cases hi : P.info? e with
      | none => rw [hi] at h; simp [aeq] at h
      | some i =>
        simp only [hi] at h
        cases hz : Nat.beq i.size 0 with
        | true => simp [hz, aeq] at h
        | false =>
          simp only [hz, cond_false, aeq] at h
          have hz' : i.size ≠ 0 := fun e => by rw [e] at hz; simp at hz
          cases x <;> first | (simp [nilEq] at h; done) | skip
          rename_i p
          cases y <;> first | (cases p <;> simp [nilEq] at h; done) | skip
          rename_i q
          cases p with
          | none =>
            cases hx
            simp only [nilEq, Option.some.injEq] at h
            subst h
            cases q with
            | none => cases hy; exact equal_of fun d => by simp [Op.equalIn, run_underlying hu]
            | some q => obtain ⟨_, _, _, _, _, rfl⟩ := inv_ptr hy; exact equal_of fun d => by simp [Op.equalIn, run_underlying hu]
          | some p =>
            obtain ⟨b1, s1, o1, hsp1, hp, rfl⟩ := inv_ptr hx
            cases q with
            | none =>
              cases hy
              simp only [nilEq, Option.some.injEq] at h
              subst h
              exact equal_of fun d => by simp [Op.equalIn, run_underlying hu]
            | some q =>
              obtain ⟨b2, s2, o2, hsp2, hq, rfl⟩ := inv_ptr hy
              simp only [nilEq] at h
              cases hb : Nat.beq p.block q.block && Nat.beq p.off q.off with
              | false => rw [hb] at h; simp at h
              | true =>
                rw [hb] at h
                simp only [cond_true, Option.some.injEq] at h
                subst h
                rw [Bool.and_eq_true] at hb
                have e1 := Nat.eq_of_beq_eq_true hb.1
                have e2 := Nat.eq_of_beq_eq_true hb.2
                rw [← e1, hp] at hq
                cases hq
                rw [e2]
                exact equal_of fun d => by simp [Op.equalIn, run_underlying hu, run_sizeO hi, sameAddr]
    case slice e =>
      simp only [aeq] at h
      cases x <;> first | (simp [nilEq] at h; done) | skip
      rename_i p n c
      cases y <;> first | (cases p <;> simp [nilEq] at h; done) | skip
      rename_i q m c2
      cases p with
      | none =>
        cases hx
        simp only [nilEq, Option.some.injEq] at h
        subst h
        cases q with
        | none => cases hy; exact equal_of fun d => by simp [Op.equalIn, run_underlying hu]
        | some q => obtain ⟨_, _, rfl, _⟩ := inv_slice hy; exact equal_of fun d => by simp [Op.equalIn, run_underlying hu]
      | some p =>
        obtain ⟨_, _, rfl, _⟩ := inv_slice hx
        cases q with
        | none =>
          cases hy
          simp only [nilEq, Option.some.injEq] at h
          subst h
          exact equal_of fun d => by simp [Op.equalIn, run_underlying hu]
        | some q => simp [nilEq] at h
    case map k e =>
      simp only [aeq] at h
      cases x <;> first | (simp [nilEq] at h; done) | skip
      rename_i p
      cases y <;> first | (cases p <;> simp [nilEq] at h; done) | skip
      rename_i q
      cases p with
      | none =>
        cases hx
        simp only [nilEq, Option.some.injEq] at h
        subst h
        cases q <;> cases hy <;> exact equal_of fun d => by simp [Op.equalIn, run_underlying hu]
      | some p =>
        cases q with
        | none =>
          cases hx; cases hy
          simp only [nilEq, Option.some.injEq] at h
          subst h
          exact equal_of fun d => by simp [Op.equalIn, run_underlying hu]
        | some q => simp [nilEq] at h
    case func ps rs v =>
      simp only [aeq] at h
      cases x <;> first | (simp [nilEq] at h; done) | skip
      · rename_i f a c
        cases y <;> first | (simp [nilEq] at h; done) | skip
        obtain ⟨_, _, _, rfl⟩ := inv_func hx
        cases hy
        simp only [nilEq, Option.some.injEq] at h
        subst h
        exact equal_of fun d => by simp [Op.equalIn, run_underlying hu]
      · cases hx
        cases y <;> first | (simp [nilEq] at h; done) | skip
        · obtain ⟨_, _, _, rfl⟩ := inv_func hy
          simp only [nilEq, Option.some.injEq] at h
          subst h
          exact equal_of fun d => by simp [Op.equalIn, run_underlying hu]
        · cases hy
          simp only [nilEq, Option.some.injEq] at h
          subst h
          exact equal_of fun d => by simp [Op.equalIn, run_underlying hu]
    case interface ms =>
      simp only [aeq] at h
      cases x <;> first | (simp [nilEq] at h; done) | skip
      · cases y <;> first | (simp [nilEq] at h; done) | skip
        cases hx; cases hy
        simp only [nilEq, Option.some.injEq] at h
        subst h
        exact equal_of fun d => by simp [Op.equalIn, run_underlying hu]
      · cases y <;> first | (simp [nilEq] at h; done) | skip
        · cases hx; cases hy
          simp only [nilEq, Option.some.injEq] at h
          subst h
          exact equal_of fun d => by simp [Op.equalIn, run_underlying hu]
        · cases hx; cases hy
          simp only [nilEq, Option.some.injEq] at h
          subst h
          exact equal_of fun d => by simp [Op.equalIn, run_underlying hu]
    case struct fs =>
      cases hk : flatK P 12 t with
      | none => rw [hk] at h; simp [aeq] at h
      | some ks =>
        rw [hk] at h
        simp only at h
        cases hg : P.eqGuardType P.depth t with
        | true => simp [hg, aeq] at h
        | false =>
          simp only [hg, cond_false] at h
          cases x <;> cases y <;> simp only [aeq, reduceCtorEq] at h
          obtain ⟨rfl, rfl⟩ := flat_rel h hx hy
          exact flat_run 12 fs hu hk h 9988 W
    all_goals (simp [aeq] at h)
end
end Go.AM

/-
  The operations that touch no memory.
-/
namespace Go.AM

theorem fill_foldl (off : Nat) : ∀ (vs : List Value) (k : Nat) (cs : List Value), (vs.zipIdx k).foldl (fun (cs : Array Value) (p : Value × Nat) => cs.setIfInBounds (off + p.2) p.1) ⟨cs⟩ = ⟨setMany cs (off + k) vs⟩
  | [], _, _ => rfl
  | v :: vs, k, cs => by
    simp only [List.zipIdx_cons, List.foldl_cons]
    have : (⟨cs⟩ : Array Value).setIfInBounds (off + k) v = ⟨cs.set (off + k) v⟩ := by simp
    rw [this, fill_foldl off vs (k + 1) (cs.set (off + k) v)]
    rfl

theorem fill_step (off : Nat) (v : Value) (cs : List Value) : v.cells.zipIdx.foldl (fun cs (c, j) => cs.setIfInBounds (off + j) c) (⟨cs⟩ : Array Value) = ⟨setMany cs off v.cells.toList⟩ := by
  rw [← Array.foldl_toList, Array.toList_zipIdx]
  exact fill_foldl off v.cells.toList 0 cs

inductive FillRel (μ : Mu) (place : Nat → Option (Nat × Nat)) : List (Nat × Nat × Value) → List (Nat × Value) → Prop
  | nil : FillRel μ place [] []
  | cons {off size i v v' r r'} : place i = some (off, size) → VRel μ v v' → size ≠ 0 → FillRel μ place r r' → FillRel μ place ((off, size, v) :: r) ((i, v') :: r')

/-- The parts of an aggregate, laid one by one. -/
theorem fill_rel {μ : Mu} {place : Nat → Option (Nat × Nat)} : ∀ {r : List (Nat × Nat × Value)} {r' : List (Nat × Value)}, FillRel μ place r r' → ∀ {cs cs' out : List Value}, fillA cs r = some out → All2 (VRel μ) cs cs' → (∀ v ∈ cs, oc v = true) →
    ∃ out', Instr.fill place ⟨cs'⟩ r' = some ⟨out'⟩ ∧ All2 (VRel μ) out out' ∧ (∀ v ∈ out, oc v = true) := by
  intro r r' h
  induction h with
  | nil =>
    intro cs cs' out h1 h2 h3
    simp only [fillA, Option.some.injEq] at h1
    subst h1
    exact ⟨cs', rfl, h2, h3⟩
  | @cons off size i v v' r r' hp hv hz _ ih =>
    intro cs cs' out h1 h2 h3
    simp only [fillA] at h1
    cases hb : Nat.beq (cellsOf v).length size && Nat.ble (off + size) cs.length with
    | false => rw [hb] at h1; simp at h1
    | true =>
      rw [hb] at h1
      simp only [cond_true] at h1
      rw [Bool.and_eq_true] at hb
      have e1 := Nat.eq_of_beq_eq_true hb.1
      have e2 := Nat.le_of_ble_eq_true hb.2
      rcases hv.cells with ⟨t, rfl⟩ | ⟨hc, ho⟩
      · exact absurd e1.symm hz
      · obtain ⟨out', g1, g2, g3⟩ := ih h1 (setMany_rel off hc h2) (setMany_mem ho h3)
        refine ⟨out', ?_, g2, g3⟩
        have l1 := hc.length_eq
        have l2 := h2.length_eq
        have s1 : v'.cells.size = size := by rw [← Array.length_toList]; omega
        unfold Instr.fill
        simp only [hp]
        rw [if_neg (by simp [s1]; omega), fill_step]
        exact g1

section
variable {P : Program}

theorem run_mapM_places (W : World) : ∀ (fs : List Field), fs.all (fun f => (P.info? f.type).isSome) = true →
    (fs.mapM (fun f => do pure (f.offset, ← sizeOf f.type) : Field → Sem (Nat × Nat))).run P W = .ok (fs.map fun f => (f.offset, ((P.info? f.type).map (·.size)).getD 0)) W
  | [], _ => by simp
  | f :: fs, h => by
    simp only [List.all_cons, Bool.and_eq_true] at h
    obtain ⟨i, hi⟩ := Option.isSome_iff_exists.1 h.1
    have ih := run_mapM_places W fs h.2
    simp only [List.mapM_cons, Sem.run_bind, run_sizeO hi, Result.andThen_ok, Sem.run_pure, ih, List.map_cons, hi, Option.map_some, Option.getD_some]

theorem plainZ_V {z : Value} (h : plainZ z = true) : plainV z = true := by
  cases z <;> first | exact h | simp [plainZ] at h

theorem run_zeroO {t : TypeId} {z : Value} (h : zeroO P t = some z) (W : World) : (zeroValue t).run P W = .ok z W ∧ plainZ z = true ∧ ∃ i, P.info? t = some i ∧ (cellsOf z).length = i.size := by
  unfold zeroO at h
  cases hi : P.info? t with
  | none => rw [hi] at h; simp at h
  | some i =>
    simp only [hi] at h
    cases hz : i.zero with
    | none => simp [hz] at h
    | some y =>
      simp only [hz] at h
      cases hb : plainZ y && Nat.beq (cellsOf y).length i.size with
      | false => rw [hb] at h; simp at h
      | true =>
        rw [hb] at h
        simp only [cond_true, Option.some.injEq] at h
        subst h
        rw [Bool.and_eq_true] at hb
        exact ⟨by simp [zeroValue, typeInfo, hi, hz], hb.1, i, rfl, Nat.eq_of_beq_eq_true hb.2⟩

theorem cells_plain {z : Value} (h : plainZ z = true) : (∀ v ∈ cellsOf z, plain0 v = true) ∧ z.cells = ⟨cellsOf z⟩ := by
  cases z <;> simp [plainZ, plainV, plain0] at h <;> first
    | (refine ⟨?_, rfl⟩; intro v hv; simp only [cellsOf, List.mem_singleton] at hv; subst hv; first | exact h | rfl | simpa [plain0] using h)
    | (refine ⟨?_, rfl⟩; intro v hv; simp only [cellsOf] at hv; obtain ⟨i, hi, e⟩ := Array.mem_iff_getElem.1 (Array.mem_def.2 hv); rw [← e]; exact h i hi)
    | (refine ⟨?_, rfl⟩; intro v hv; simp only [cellsOf, List.mem_singleton] at hv; subst hv; rfl)

theorem plain_all2 (μ : Mu) {l : List Value} (h : ∀ v ∈ l, plain0 v = true) : All2 (VRel μ) l l := All2.refl fun v hv => plain0_rel μ (h v hv)

variable {μ : Mu} {tm : Tm} {ρ : Operand → Value}

theorem parts_rel_A (place : Nat → Option (Nat × Nat)) (size : Nat) (hz : size ≠ 0) (hp : ∀ i, place i = some (i * size, size)) : ∀ (ps : List (Nat × Operand)), (∀ x ∈ ps, VRel μ (ev tm x.2) (ρ x.2)) →
    FillRel μ place ((partsA size ps).map fun p => (p.1, p.2.1, ev tm p.2.2)) (ps.map fun x => (x.1, ρ x.2))
  | [], _ => .nil
  | (i, x) :: r, h => .cons (hp i) (h (i, x) (by simp)) hz (parts_rel_A place size hz hp r fun y hy => h y (by simp [hy]))

theorem partsA_opds (size : Nat) : ∀ (ps : List (Nat × Operand)), (partsA size ps).map (·.2.2) = ps.map (·.2)
  | [] => rfl
  | (i, x) :: r => by simp [partsA, partsA_opds size r]


theorem parts_rel_F {t : TypeId} {fs : Array Field} (hu : P.underlying t = some (.struct fs)) : ∀ (ps : List (Nat × Operand)) (l : List (Nat × Nat × Operand)), partsF P t ps = some l → (∀ x ∈ l.map (·.2.2), VRel μ (ev tm x) (ρ x)) →
    FillRel μ ((fs.toList.map fun f => (f.offset, ((P.info? f.type).map (·.size)).getD 0))[·]?) (l.map fun p => (p.1, p.2.1, ev tm p.2.2)) (ps.map fun x => (x.1, ρ x.2))
  | [], l, h, _ => by
    simp only [partsF, Option.some.injEq] at h
    subst h; exact .nil
  | (i, x) :: r, l, h, hr => by
    simp only [partsF] at h
    cases hf : fieldO P t i with
    | none => simp [hf] at h
    | some f =>
      cases hp : partsF P t r with
      | none => simp [hf, hp] at h
      | some r' =>
        simp only [hf, hp] at h
        cases hi : P.info? f.type with
        | none => simp [hi] at h
        | some inf =>
          simp only [hi] at h
          cases hz : Nat.beq inf.size 0 with
          | true => simp [hz] at h
          | false =>
            simp only [hz, cond_false, Option.some.injEq] at h
            subst h
            have hff : fs[i]? = some f := by simpa [fieldO, hu] using hf
            refine .cons ?_ (hr x (by simp)) (fun e => by have e' : inf.size = 0 := e; rw [e'] at hz; simp at hz) (parts_rel_F hu r r' hp fun y hy => hr y (by simp only [List.map_cons, List.mem_cons]; exact .inr hy))
            simp [hff, hi]

theorem inv_agg {xs : Array Value} {v' : Value} (h : VRel μ (.agg xs) v') : ∃ xs', v' = .agg xs' ∧ All2 (VRel μ) xs.toList xs'.toList ∧ ∀ v ∈ xs.toList, oc v = true := by
  cases h with
  | agg h1 h2 h3 => exact ⟨_, rfl, All2.of_idx (by simpa using h1) h3, h2⟩

theorem inv_tuple {xs : Array Value} {v' : Value} (h : VRel μ (.tuple xs) v') : ∃ xs', v' = .tuple xs' ∧ All2 (VRel μ) xs.toList xs'.toList := by
  cases h with
  | tuple h1 h3 => exact ⟨_, rfl, All2.of_idx (by simpa using h1) h3⟩

theorem aggOf_run {t : TypeId} {g : Option Nat} (h : aggOf P t = some g) (W : World) : (isAgg t).run P W = .ok g.isSome W ∧ ∃ i, P.info? t = some i ∧ (∀ n, g = some n → n = i.size) ∧ (g = none → i.size = 1) := by
  unfold aggOf at h
  split at h
  · rename_i hu hi; simp only [Option.some.injEq] at h; subst h; exact ⟨by simp [isAgg, run_underlying hu], _, hi, by simp, by simp⟩
  · rename_i hu hi; simp only [Option.some.injEq] at h; subst h; exact ⟨by simp [isAgg, run_underlying hu], _, hi, by simp, by simp⟩
  · rename_i d i h1 h2 hu hi
    cases hb : Nat.beq i.size 1 with
    | false => simp [hb] at h
    | true =>
      simp only [hb, cond_true, Option.some.injEq] at h
      subst h
      refine ⟨?_, i, hi, by simp, fun _ => Nat.eq_of_beq_eq_true hb⟩
      cases d <;> first | (exact (h1 _ rfl).elim) | (exact (h2 _ _ rfl).elim) | simp [isAgg, run_underlying hu]
  · cases h

/-- A part of an aggregate. -/
theorem part_run {t : TypeId} {g : Option Nat} (h : aggOf P t = some g) {xs xs' : List Value} (hx : All2 (VRel μ) xs xs') (ho : ∀ v ∈ xs, oc v = true) {off : Nat} {v : Value}
    (hv : (match g with | some n => some (.agg ⟨(xs.drop off).take n⟩) | none => xs[off]?) = some v) (W : World) : ∃ v', (part t ⟨xs'⟩ off).run P W = .ok v' W ∧ VRel μ v v' := by
  obtain ⟨ha, i, hi, hn, _⟩ := aggOf_run h W
  cases g with
  | some n =>
    have := hn n rfl
    subst this
    simp only [Option.some.injEq] at hv
    subst hv
    have he : (⟨xs'⟩ : Array Value).extract off (off + i.size) = ⟨(xs'.drop off).take i.size⟩ := by
      apply Array.ext'
      rw [Array.toList_extract]
      simp [List.extract]
    refine ⟨.agg ⟨(xs'.drop off).take i.size⟩, ?_, VRel.aggOf ((hx.drop _).take _) (fun v hv => ho v (List.mem_of_mem_drop (List.mem_of_mem_take hv)))⟩
    simp [part, ha, run_sizeO hi]
  | none =>
    simp only at hv
    obtain ⟨v', h1, h2⟩ := hx.get hv
    exact ⟨v', by simp [part, ha, h1], h2⟩

theorem shift_run {op : BinOp} {k l : IntKind} {a b : Int} {v : Value} (h : binShift op k a b = some v) (W : World) : (Op.shift op k a l b).run P W = .ok v W := by
  unfold binShift at h
  split at h
  · cases h
  · rename_i hb
    unfold Op.shift
    rw [if_neg hb]
    cases op <;> simp only [Option.some.injEq, reduceCtorEq] at h <;> subst h <;> rfl

theorem int_run {op : BinOp} {k : IntKind} {a b : Int} {v : Value} (h : binInt op k a b = some v) (t : TypeId) (W : World) : (binOp op t (.int k a) (.int k b)).run P W = .ok v W := by
  cases op <;> simp only [binInt, Option.some.injEq, reduceCtorEq] at h
  case quo =>
    split at h
    · cases h
    · rename_i hb; simp only [Option.some.injEq] at h; subst h; simp [binOp, Op.intDiv, hb]
  case rem =>
    split at h
    · cases h
    · rename_i hb; simp only [Option.some.injEq] at h; subst h; simp [binOp, Op.intDiv, hb]
  all_goals (subst h; simp [binOp, Op.intArith, Op.intBits, Op.intCmp, ltI_eq, ← decide_not, Int.not_lt])

theorem str_run {op : BinOp} {a b : ByteArray} {v : Value} (h : binStr op a b = some v) (t : TypeId) (W : World) : (binOp op t (.string a) (.string b)).run P W = .ok v W := by
  cases op <;> simp only [binStr, Option.some.injEq, reduceCtorEq] at h
  case add =>
    cases hb : Nat.ble (a.size + b.size) 9223372036854775807 with
    | false => simp [hb] at h
    | true =>
      simp only [hb, cond_true, Option.some.injEq] at h
      subst h
      have := Nat.le_of_ble_eq_true hb
      have hk : ¬ (((a.size + b.size : Nat) : Int) > IntKind.i64.max) := by
        have : IntKind.i64.max = 9223372036854775807 := by decide
        omega
      have hab : a ++ b = ⟨⟨a.data.toList ++ b.data.toList⟩⟩ := by
        apply ByteArray.ext
        apply Array.ext'
        simp
      simp only [binOp, Op.stringOp]
      rw [if_neg hk, hab]; rfl
  case eql => subst h; rw [eqBytes_toList]; simp [binOp, Op.stringOp]
  case neq => subst h; rw [eqBytes_toList]; simp [binOp, Op.stringOp]

end
end Go.AM

/-
  The operations that touch no memory: each goes as the program's.
-/
namespace Go.AM

section
variable {P : Program} {μ : Mu} {tm : Tm} {ρ : Operand → Value}

theorem optNat_run {lo : Option Operand} {d l : Nat} (h : optNat (lo.map (ev tm)) d = some l) (hr : ∀ x ∈ lo.toList, VRel μ (ev tm x) (ρ x)) :
    (lo = none ∧ l = d) ∨ ∃ x k i, lo = some x ∧ ρ x = .int k i ∧ 0 ≤ i ∧ l = i.toNat := by
  cases lo with
  | none => simp only [optNat, Option.map_none, Option.some.injEq] at h; exact .inl ⟨rfl, h.symm⟩
  | some x =>
    have hx := hr x (by simp)
    simp only [Option.map_some] at h
    generalize ev tm x = v at h hx
    cases v <;> simp only [optNat, reduceCtorEq] at h
    rename_i k i
    split at h
    · rename_i h0
      simp only [Option.some.injEq] at h
      refine .inr ⟨x, k, i, rfl, ?_, h0, h.symm⟩
      generalize ρ x = w at hx
      cases hx; rfl
    · cases h

theorem sliceBound_run {k : IntKind} {i : Int} {y l : Nat} (h0 : 0 ≤ i) (hl : l = i.toNat) (hy : l ≤ y) (c : BoundsCode) (W : World) : (Instr.sliceBound (.int k i) y c).run P W = .ok l W := by
  subst hl
  unfold Instr.sliceBound
  simp only [asIntOf, Sem.run_bind, Sem.run_pure, Result.andThen_ok]
  rw [if_pos ⟨h0, by omega⟩]
  rfl

/-- The bounds of a slice expression, where the capacity is known in part. -/
theorem sliceBounds_run {lo hi mx : Option Operand} {len cap cap' l h m : Nat} (b : Bool) (h1 : optNat (lo.map (ev tm)) 0 = some l) (h2 : optNat (hi.map (ev tm)) len = some h) (h3 : optNat (mx.map (ev tm)) cap = some m)
    (hr : ∀ x ∈ lo.toList ++ (hi.toList ++ mx.toList), VRel μ (ev tm x) (ρ x)) (hlh : l ≤ h) (hhm : h ≤ m) (hmc : m ≤ cap) (hcc : cap ≤ cap') (hx : mx.isNone = true ∨ hi.isSome = true) (W : World) :
    (Instr.sliceBounds b len cap' (lo.map ρ) (hi.map ρ) (mx.map ρ)).run P W = .ok (l, h, if mx.isNone then cap' else m) W := by
  have r1 := optNat_run h1 (μ := μ) (ρ := ρ) fun x hx => hr x (by simp [Option.mem_toList.1 hx])
  have r2 := optNat_run h2 (μ := μ) (ρ := ρ) fun x hx => hr x (by simp [Option.mem_toList.1 hx])
  have r3 := optNat_run h3 (μ := μ) (ρ := ρ) fun x hx => hr x (by simp [Option.mem_toList.1 hx])
  unfold Instr.sliceBounds
  rcases r3 with ⟨rfl, rfl⟩ | ⟨x3, k3, i3, rfl, e3, p3, q3⟩
  · rcases r2 with ⟨rfl, rfl⟩ | ⟨x2, k2, i2, rfl, e2, p2, q2⟩
    · rcases r1 with ⟨rfl, rfl⟩ | ⟨x1, k1, i1, rfl, e1, p1, q1⟩
      · simp
      · simp [e1, sliceBound_run p1 q1 hlh]
    · rcases r1 with ⟨rfl, rfl⟩ | ⟨x1, k1, i1, rfl, e1, p1, q1⟩
      · simp [e2, sliceBound_run p2 q2 (show h ≤ cap' by omega)]
      · simp [e1, e2, sliceBound_run p1 q1 hlh, sliceBound_run p2 q2 (show h ≤ cap' by omega)]
  · rcases r2 with ⟨rfl, rfl⟩ | ⟨x2, k2, i2, rfl, e2, p2, q2⟩
    · simp at hx
    · rcases r1 with ⟨rfl, rfl⟩ | ⟨x1, k1, i1, rfl, e1, p1, q1⟩
      · simp [e2, e3, sliceBound_run p2 q2 hhm, sliceBound_run p3 q3 (show m ≤ cap' by omega)]
      · simp [e1, e2, e3, sliceBound_run p1 q1 hlh, sliceBound_run p2 q2 hhm, sliceBound_run p3 q3 (show m ≤ cap' by omega)]

theorem inv_slice' {a : Addr} {n c : Nat} {v' : Value} (h : VRel μ (.slice (some a) n c) v') :
    (∃ b s, a.spot = none ∧ μ a.block = some ⟨b, s, none⟩ ∧ v' = .slice (some ⟨b, s + a.off, none⟩) n c) ∨
    (∃ b s N e c', a.spot = some e ∧ μ a.block = some ⟨b, s, some N⟩ ∧ c ≤ c' ∧ s + a.off + c' * e ≤ N ∧ v' = .slice (some ⟨b, s + a.off, none⟩) n c') ∨
    (n = 0 ∧ c = 0 ∧ ∃ a', v' = .slice (some a') 0 0) := by
  cases h
  · exact .inl ⟨_, _, rfl, by assumption, rfl⟩
  · exact .inr (.inl ⟨_, _, _, _, _, rfl, by assumption, by assumption, by assumption, rfl⟩)
  · exact .inr (.inr ⟨rfl, rfl, _, rfl⟩)

theorem slice_run {k : SlK} {t : TypeId} {x : Operand} {lo hi mx : Option Operand} {v : Value} (hk : (P.underlying t = some .string ∧ k = .str) ∨ (∃ e i, P.underlying t = some (.slice e) ∧ P.info? e = some i ∧ k = .sl i.size))
    (hr : ∀ y ∈ x :: (lo.toList ++ hi.toList ++ mx.toList), VRel μ (ev tm y) (ρ y)) (h : aslice k (ev tm x) (lo.map (ev tm)) (hi.map (ev tm)) (mx.map (ev tm)) = some v) (W : World) :
    ∃ v', (Instr.sliceAt t (ρ x) (lo.map ρ) (hi.map ρ) (mx.map ρ)).run P W = .ok v' W ∧ VRel μ v v' := by
  have hx := hr x (by simp)
  have hr' : ∀ y ∈ lo.toList ++ (hi.toList ++ mx.toList), VRel μ (ev tm y) (ρ y) := fun y hy => hr y (by simp only [List.mem_cons, List.append_assoc]; exact .inr hy)
  rcases hk with ⟨hu, rfl⟩ | ⟨e, i, hu, hi', rfl⟩
  · -- a string
    generalize ev tm x = X at h hx
    cases X <;> simp only [aslice, reduceCtorEq] at h
    rename_i s
    split at h
    · rename_i l hh hm hl hh'
      cases hb : Nat.ble l hh && Nat.ble hh s.size with
      | false => simp [hb] at h
      | true =>
        simp only [hb, cond_true, Option.some.injEq] at h
        rw [Bool.and_eq_true] at hb
        have e1 := Nat.le_of_ble_eq_true hb.1
        have e2 := Nat.le_of_ble_eq_true hb.2
        have hmx : mx = none := by cases mx <;> simp_all
        subst hmx
        have hb := sliceBounds_run (P := P) (cap := s.size) (cap' := s.size) (m := s.size) false hl hh' (by simp [optNat] : optNat ((none : Option Operand).map (ev tm)) s.size = some s.size) hr' e1 e2 (Nat.le_refl _) (Nat.le_refl _) (.inl rfl) W
        simp only [Option.map_none, Option.isNone_none, if_true] at hb
        refine ⟨.string (s.extract l hh), ?_, ?_⟩
        · generalize ρ x = X' at hx
          cases hx
          simp [Instr.sliceAt, Instr.slice, run_underlying hu, hb]
        · subst h
          have : s.extract l hh = ⟨⟨(s.data.toList.drop l).take (hh - l)⟩⟩ := by
            apply ByteArray.ext
            apply Array.ext'
            simp [List.extract]
          rw [this]
          exact .string _
    · cases h
  · -- a slice
    generalize ev tm x = X at h hx
    cases X <;> simp only [aslice, reduceCtorEq] at h
    rename_i a len cap
    split at h
    · rename_i l hh m hl hh' hm
      cases hb : Nat.ble l hh && (Nat.ble hh m && Nat.ble m cap) && ((mx.map (ev tm)).isNone || (hi.map (ev tm)).isSome) with
      | false => simp only [hb, cond_false, reduceCtorEq] at h
      | true =>
        simp only [hb, cond_true] at h
        simp only [Bool.and_eq_true, Bool.or_eq_true, Option.isNone_map, Option.isSome_map] at hb
        obtain ⟨⟨q1, q2, q3⟩, q4⟩ := hb
        have e1 := Nat.le_of_ble_eq_true q1
        have e2 := Nat.le_of_ble_eq_true q2
        have e3 := Nat.le_of_ble_eq_true q3
        cases a with
        | none =>
          simp only [Option.some.injEq] at h
          subst h
          have hb := sliceBounds_run (P := P) (cap' := cap) true hl hh' hm hr' e1 e2 e3 (Nat.le_refl _) q4 W
          generalize ρ x = X' at hx
          cases hx
          have hmm : (if mx.isNone then cap else m) = m := by
            cases mx with
            | none => simp only [Option.map_none, optNat, Option.some.injEq] at hm; simp [hm]
            | some _ => simp
          rw [hmm] at hb
          refine ⟨.slice none (hh - l) (m - l), ?_, .sliceNil _ _⟩
          simp [Instr.sliceAt, Instr.slice, run_underlying hu, hb, run_sizeO hi']
        | some a =>
          simp only at h
          -- whatever the address, an empty slice without room
          have hzero : ∀ (A : Addr) (cap' : Nat), cap ≤ cap' → ρ x = .slice (some A) len cap' → m = l → (mx.isNone = true → cap' = cap) →
              ∃ A', (Instr.sliceAt t (ρ x) (lo.map ρ) (hi.map ρ) (mx.map ρ)).run P W = .ok (.slice (some A') 0 0) W := by
            intro A cap' hcc hX hml hcap
            have hb := sliceBounds_run (P := P) (cap' := cap') true hl hh' hm hr' e1 e2 e3 hcc q4 W
            have hmm : (if mx.isNone then cap' else m) = m := by
              cases mx with
              | none => simp only [Option.map_none, optNat, Option.some.injEq] at hm; simp [hm, hcap rfl]
              | some _ => simp
            rw [hmm] at hb
            have hhl : hh = l := by omega
            refine ⟨A, ?_⟩
            rw [hX]
            subst hml
            subst hhl
            simp [Instr.sliceAt, Instr.slice, run_underlying hu, hb, run_sizeO hi']
          cases hz : ((mx.map (ev tm)).isSome && Nat.beq m l) with
          | true =>
            simp only [hz, cond_true, Option.some.injEq] at h
            rw [Bool.and_eq_true] at hz
            have hml := Nat.eq_of_beq_eq_true hz.2
            have hms : mx.isNone = false := by cases mx <;> simp_all
            obtain ⟨A, c', hX, hcc⟩ := inv_slice hx
            obtain ⟨A', hA⟩ := hzero A c' hcc hX hml (by simp [hms])
            refine ⟨_, hA, ?_⟩
            have z1 : hh - l = 0 := by omega
            have z2 : m - l = 0 := by omega
            rw [z1, z2] at h
            subst h
            exact .sliceZ _ _
          | false =>
            simp only [hz, cond_false] at h
            cases hsp : spotOk a.spot i.size with
            | false => simp only [hsp, cond_false, reduceCtorEq] at h
            | true =>
              simp only [hsp, cond_true, Option.some.injEq] at h
              rcases inv_slice' hx with ⟨b, s, hs, hμ, hX⟩ | ⟨b, s, N, e', c', hs, hμ, hcc, hN, hX⟩ | ⟨hn0, hc0, A, hX⟩
              · -- exact
                by_cases hml : m = l
                · obtain ⟨A', hA⟩ := hzero _ cap (Nat.le_refl _) hX hml (fun _ => rfl)
                  refine ⟨_, hA, ?_⟩
                  have z1 : hh - l = 0 := by omega
                  have z2 : m - l = 0 := by omega
                  rw [z1, z2] at h
                  subst h
                  exact .sliceZ _ _
                · have hb := sliceBounds_run (P := P) (cap' := cap) true hl hh' hm hr' e1 e2 e3 (Nat.le_refl _) q4 W
                  have hmm : (if mx.isNone then cap else m) = m := by
                    cases mx with
                    | none => simp only [Option.map_none, optNat, Option.some.injEq] at hm; simp [hm]
                    | some _ => simp
                  rw [hmm] at hb
                  refine ⟨.slice (some ⟨b, s + (a.off + l * i.size), none⟩) (hh - l) (m - l), ?_, ?_⟩
                  · rw [hX]
                    simp [Instr.sliceAt, Instr.slice, run_underlying hu, hb, run_sizeO hi', hml, add_eq, Nat.add_assoc]
                  · subst h
                    rw [hs]
                    exact .slice hμ
              · -- open
                rw [hs] at hsp
                have he := Nat.eq_of_beq_eq_true hsp
                subst he
                have hb := sliceBounds_run (P := P) (cap' := c') true hl hh' hm hr' e1 e2 e3 hcc q4 W
                obtain ⟨M, hM, hm1, hm2⟩ : ∃ M, (if mx.isNone then c' else m) = M ∧ m ≤ M ∧ M ≤ c' := by
                  refine ⟨_, rfl, ?_⟩
                  cases mx with
                  | none =>
                    simp only [Option.map_none, optNat, Option.some.injEq] at hm
                    simp only [Option.isNone_none, if_true]; omega
                  | some _ => simp only [Option.isNone_some, Bool.false_eq_true, if_false]; omega
                rw [hM] at hb
                by_cases hml : M = l
                · refine ⟨.slice (some ⟨b, s + a.off, none⟩) (hh - l) (M - l), ?_, ?_⟩
                  · rw [hX]
                    simp [Instr.sliceAt, Instr.slice, run_underlying hu, hb, run_sizeO hi', hml]
                  · have z1 : hh - l = 0 := by omega
                    have z2 : m - l = 0 := by omega
                    have z3 : M - l = 0 := by omega
                    rw [z1, z2] at h
                    subst h
                    rw [z1, z3]
                    exact .sliceZ _ _
                · refine ⟨.slice (some ⟨b, s + (a.off + l * i.size), none⟩) (hh - l) (M - l), ?_, ?_⟩
                  · rw [hX]
                    simp [Instr.sliceAt, Instr.slice, run_underlying hu, hb, run_sizeO hi', hml, add_eq, Nat.add_assoc]
                  · subst h
                    rw [hs]
                    refine .sliceO hμ (by omega) ?_
                    have hlc : l + (M - l) ≤ c' := by omega
                    have := Nat.mul_le_mul_right i.size hlc
                    rw [Nat.add_mul] at this
                    omega
              · -- no room
                subst hn0; subst hc0
                have hl0 : l = 0 := by omega
                have hh0 : hh = 0 := by omega
                have hm0 : m = 0 := by omega
                obtain ⟨A', hA⟩ := hzero A 0 (Nat.le_refl _) hX (by omega) (fun _ => rfl)
                refine ⟨_, hA, ?_⟩
                have z1 : hh - l = 0 := by omega
                have z2 : m - l = 0 := by omega
                rw [z1, z2] at h
                subst h
                exact .sliceZ _ _
    · cases h

end
end Go.AM

/-
  The operations that touch no memory, all together.
-/
namespace Go.AM

section
variable {P : Program} {μ : Mu} {tm : Tm} {ρ : Operand → Value}

theorem sizeO_some {t : TypeId} {n : Nat} (h : sizeO P t = some n) : ∃ i, P.info? t = some i ∧ n = i.size := by
  unfold sizeO at h
  cases hi : P.info? t with
  | none => simp [hi] at h
  | some i => simp only [hi, Option.map_some, Option.some.injEq] at h; exact ⟨i, rfl, h.symm⟩

theorem fieldO_some {t : TypeId} {f : Nat} {fl : Field} (h : fieldO P t f = some fl) : ∃ fs, P.underlying t = some (.struct fs) ∧ fs[f]? = some fl := by
  unfold fieldO at h
  split at h
  · rename_i fs hu; exact ⟨fs, hu, h⟩
  · cases h

theorem r_int {k : IntKind} {n : Int} {v : Value} (h : VRel μ (.int k n) v) : v = .int k n := by cases h; rfl
theorem r_bool {b : Bool} {v : Value} (h : VRel μ (.bool b) v) : v = .bool b := by cases h; rfl
theorem r_string {s : ByteArray} {v : Value} (h : VRel μ (.string s) v) : v = .string s := by cases h; rfl
theorem r_iface {t : TypeId} {x v : Value} (h : VRel μ (.iface t x) v) : ∃ y, v = .iface t y ∧ VRel μ x y := by cases h; exact ⟨_, rfl, by assumption⟩
theorem r_nilIface {v : Value} (h : VRel μ .nilIface v) : v = .nilIface := by cases h; rfl

theorem bin_plain {op : BinOp} {ek : EK} {kc : Bool} {X Y v : Value} (h : abin op ek kc X Y = some v) (h1 : op ≠ .eql) (h2 : op ≠ .neq) :
    (∃ k a l b, X = .int k a ∧ Y = .int l b ∧ ((op = .shl ∨ op = .shr) ∧ binShift op k a b = some v ∨ (k = l ∧ binInt op k a b = some v))) ∨ (∃ a b, X = .string a ∧ Y = .string b ∧ binStr op a b = some v) := by
  have sh : (op = .shl ∨ op = .shr) → abinS op X Y = some v → ∃ k a l b, X = .int k a ∧ Y = .int l b ∧ ((op = .shl ∨ op = .shr) ∧ binShift op k a b = some v ∨ (k = l ∧ binInt op k a b = some v)) := by
    intro ho hm
    unfold abinS at hm
    split at hm
    · exact ⟨_, _, _, _, rfl, rfl, .inl ⟨ho, hm⟩⟩
    · cases hm
  have ot : abinO op X Y = some v →
      (∃ k a l b, X = .int k a ∧ Y = .int l b ∧ ((op = .shl ∨ op = .shr) ∧ binShift op k a b = some v ∨ (k = l ∧ binInt op k a b = some v))) ∨ (∃ a b, X = .string a ∧ Y = .string b ∧ binStr op a b = some v) := by
    intro hm
    unfold abinO at hm
    split at hm
    · split at hm
      · rename_i e; exact .inl ⟨_, _, _, _, rfl, rfl, .inr ⟨e, hm⟩⟩
      · cases hm
    · exact .inr ⟨_, _, rfl, rfl, hm⟩
    · cases hm
  cases op <;> first
    | (exact absurd rfl h1) | (exact absurd rfl h2)
    | exact .inl (sh (.inl rfl) h)
    | exact .inl (sh (.inr rfl) h)
    | exact ot h

/-- An equality that the abstract machine decides is decided so. -/
theorem eq_run {t : TypeId} {x y : Operand} {X Y x' y' : Value} {b : Bool} (hb : aeqG (ekOf P t) (isConstO x || isConstO y) X Y = some b) (hx : VRel μ X x') (hy : VRel μ Y y') (W : World) :
    (eqGuard .eql t x y x' y').run P W = .ok () W ∧ (eqGuard .neq t x y x' y').run P W = .ok () W ∧ (binOp .eql t x' y').run P W = .ok (.bool b) W ∧ (binOp .neq t x' y').run P W = .ok (.bool !b) W := by
  have hae : aeq (ekOf P t) X Y = some b := by
    unfold aeqG at hb
    split at hb
    · cases hb
    · exact hb
  have hrun := aeq_run hae hx hy W
  have viaE : (binOp .eql t x' y' = do pure (.bool (← Op.equal t x' y'))) → (binOp .neq t x' y' = do pure (.bool (!(← Op.equal t x' y')))) → (binOp .eql t x' y').run P W = .ok (.bool b) W ∧ (binOp .neq t x' y').run P W = .ok (.bool !b) W := by
    intro e1 e2
    rw [e1, e2]
    constructor <;> simp only [Sem.run_bind, hrun, Result.andThen_ok, Sem.run_pure]
  -- the leaves
  by_cases hl : ∃ k, leafEq k X Y = some b
  · obtain ⟨k, hl⟩ := hl
    obtain ⟨rfl, rfl⟩ := leaf_rel hl hx hy
    cases k <;> cases x' <;> cases y' <;> simp only [leafEq, reduceCtorEq] at hl
    · exact ⟨rfl, rfl, viaE rfl rfl⟩
    · split at hl
      · rename_i e
        subst e
        simp only [Option.some.injEq] at hl
        subst hl
        exact ⟨rfl, rfl, by simp [binOp, Op.intCmp], by simp [binOp, Op.intCmp, bne]⟩
      · cases hl
    · simp only [Option.some.injEq] at hl
      subst hl
      rw [eqBytes_toList]
      exact ⟨rfl, rfl, by simp [binOp, Op.stringOp], by simp [binOp, Op.stringOp]⟩
  · have hnil : ∀ k, nilEq k X Y = some b → (isConstO x || isConstO y) = true ∨ X ≠ .nilIface := by
      intro k _
      by_cases e : X = .nilIface
      · left
        subst e
        unfold aeqG at hb
        cases hc : (isConstO x || isConstO y) with
        | true => rfl
        | false => rw [hc] at hb; simp at hb
      · exact .inr e
    have nl : ∀ k, nilEq k X Y = some b → (eqGuard .eql t x y x' y').run P W = .ok () W ∧ (eqGuard .neq t x y x' y').run P W = .ok () W ∧ (binOp .eql t x' y').run P W = .ok (.bool b) W ∧ (binOp .neq t x' y').run P W = .ok (.bool !b) W := by
      intro k hk
      have hc := hnil k hk
      cases k <;> cases X <;> first | (simp only [nilEq, reduceCtorEq] at hk; done) | skip
      case ptr.pointer p =>
        cases Y <;> first | (cases p <;> simp only [nilEq, reduceCtorEq] at hk; done) | skip
        cases hx <;> cases hy <;> exact ⟨rfl, rfl, viaE rfl rfl⟩
      case sl.slice p n c =>
        cases Y <;> first | (cases p <;> simp only [nilEq, reduceCtorEq] at hk; done) | skip
        cases hx <;> cases hy <;> exact ⟨rfl, rfl, viaE rfl rfl⟩
      case mp.map p =>
        cases Y <;> first | (cases p <;> simp only [nilEq, reduceCtorEq] at hk; done) | skip
        cases hx <;> cases hy <;> exact ⟨rfl, rfl, viaE rfl rfl⟩
      case fn.func f a c =>
        cases Y <;> first | (simp only [nilEq, reduceCtorEq] at hk; done) | skip
        cases hx <;> cases hy <;> exact ⟨rfl, rfl, viaE rfl rfl⟩
      case fn.nilFunc =>
        cases Y <;> first | (simp only [nilEq, reduceCtorEq] at hk; done) | skip
        all_goals (cases hx <;> cases hy <;> exact ⟨rfl, rfl, viaE rfl rfl⟩)
      case ifc.iface u w =>
        cases Y <;> first | (simp only [nilEq, reduceCtorEq] at hk; done) | skip
        cases hx <;> cases hy <;> exact ⟨rfl, rfl, viaE rfl rfl⟩
      case ifc.nilIface =>
        cases Y <;> first | (simp only [nilEq, reduceCtorEq] at hk; done) | skip
        · cases hx; cases hy; exact ⟨rfl, rfl, viaE rfl rfl⟩
        · cases hx; cases hy
          have hc' : (isConstO x || isConstO y) = true := by
            rcases hc with hc | hc
            · exact hc
            · exact absurd rfl hc
          clear hb hae hl hnil hk hrun hc
          refine ⟨?_, ?_, viaE rfl rfl⟩ <;> (cases x <;> cases y <;> first | rfl | (exfalso; simp [isConstO] at hc'))
    unfold ekOf at hae
    cases hu : P.underlying t with
    | none => rw [hu] at hae; simp [aeq] at hae
    | some d =>
      rw [hu] at hae
      cases d <;> simp only at hae
      case bool => exact absurd ⟨_, hae⟩ hl
      case int => exact absurd ⟨_, hae⟩ hl
      case string => exact absurd ⟨_, hae⟩ hl
      case pointer e =>
        cases hi : P.info? e with
        | none => simp [hi, aeq] at hae
        | some i =>
          cases hz : Nat.beq i.size 0 with
          | true => simp [hi, hz, aeq] at hae
          | false => simp only [hi, hz, cond_false, aeq] at hae; exact nl _ hae
      case slice e => exact nl _ hae
      case map k e => exact nl _ hae
      case func ps rs v => exact nl _ hae
      case interface ms => exact nl _ hae
      case struct fs =>
        cases hk : flatK P 12 t with
        | none => simp [hk, aeq] at hae
        | some ks =>
          cases hg : P.eqGuardType P.depth t with
          | true => simp [hk, hg, aeq] at hae
          | false =>
            simp only [hk, hg, cond_false] at hae
            cases X <;> cases Y <;> simp only [aeq, reduceCtorEq] at hae
            obtain ⟨xs', rfl, _, _⟩ := inv_agg hx
            obtain ⟨ys', rfl, _, _⟩ := inv_agg hy
            exact ⟨run_eqGuard_agg W _ t x y xs' ys' hg, run_eqGuard_agg W _ t x y xs' ys' hg, viaE rfl rfl⟩
      all_goals (simp [aeq] at hae)

theorem bin_run {op : BinOp} {t : TypeId} {x y : Operand} {v : Value} (hx : VRel μ (ev tm x) (ρ x)) (hy : VRel μ (ev tm y) (ρ y)) (h : abin op (ekOf P t) (isConstO x || isConstO y) (ev tm x) (ev tm y) = some v) (W : World) :
    (do eqGuard op t x y (ρ x) (ρ y); binOp op t (ρ x) (ρ y) : Sem Value).run P W = .ok v W ∧ plainV v = true := by
  have guardless : op ≠ .eql → op ≠ .neq → (eqGuard op t x y (ρ x) (ρ y)).run P W = .ok () W := by
    intro h1 h2
    cases op <;> first | exact absurd rfl h1 | exact absurd rfl h2 | rfl
  by_cases h1 : op = .eql
  · subst h1
    simp only [abin, Option.map_eq_some_iff] at h
    obtain ⟨b, hb, rfl⟩ := h
    obtain ⟨g1, _, g3, _⟩ := eq_run hb hx hy W
    exact ⟨by simp only [Sem.run_bind, g1, Result.andThen_ok, g3], rfl⟩
  · by_cases h2 : op = .neq
    · subst h2
      simp only [abin, Option.map_eq_some_iff] at h
      obtain ⟨b, hb, rfl⟩ := h
      obtain ⟨_, g2, _, g4⟩ := eq_run hb hx hy W
      exact ⟨by simp only [Sem.run_bind, g2, Result.andThen_ok, g4], rfl⟩
    · have hg := guardless h1 h2
      simp only [Sem.run_bind, hg, Result.andThen_ok]
      rcases bin_plain h h1 h2 with ⟨k, a, l, b, e1, e2, hh⟩ | ⟨a, b, e1, e2, hh⟩
      · rw [e1] at hx; rw [e2] at hy
        rw [r_int hx, r_int hy]
        rcases hh with ⟨ho, hs⟩ | ⟨rfl, hi⟩
        · refine ⟨?_, ?_⟩
          · rcases ho with rfl | rfl <;> exact shift_run (l := l) hs W
          · unfold binShift at hs
            split at hs
            · cases hs
            · rcases ho with rfl | rfl <;> (simp only [Option.some.injEq] at hs; subst hs; rfl)
        · refine ⟨int_run hi t W, ?_⟩
          cases op <;> simp only [binInt, Option.some.injEq, reduceCtorEq] at hi <;> first
            | (subst hi; rfl)
            | (split at hi <;> first | (cases hi; done) | (simp only [Option.some.injEq] at hi; subst hi; rfl))
      · rw [e1] at hx; rw [e2] at hy
        rw [r_string hx, r_string hy]
        refine ⟨str_run hh t W, ?_⟩
        cases op <;> simp only [binStr, Option.some.injEq, reduceCtorEq] at hh <;> first
          | (subst hh; rfl)
          | (cases hb : Nat.ble (a.size + b.size) 9223372036854775807 <;> simp [hb] at hh; subst hh; rfl)
end
end Go.AM

/-
  The operations that touch no memory, all together.
-/
namespace Go.AM

section
variable {P : Program} {μ : Mu} {tm : Tm} {ρ : Operand → Value}

theorem ev_list {l : List Operand} (h : ∀ x ∈ l, VRel μ (ev tm x) (ρ x)) : All2 (VRel μ) (l.map (ev tm)) (l.map ρ) := by
  induction l with
  | nil => exact .nil
  | cons a l ih => exact .cons (h a (by simp)) (ih fun x hx => h x (by simp [hx]))

theorem ptr_add {a : Addr} {b s : Nat} {o : Option Nat} (h : μ a.block = some ⟨b, s, o⟩) (hs : a.spot = none) (n : Nat) : VRel μ (.pointer (some (addOff a n))) (.pointer (some ⟨b, s + a.off + n, none⟩)) := by
  unfold addOff
  rw [hs, Nat.add_assoc]
  exact .ptr h

theorem amax_none (mx : Bool) : ∀ (r : List Value), r.foldl (amaxStep mx) none = none
  | [] => rfl
  | _ :: r => by simp only [List.foldl_cons, amaxStep]; exact amax_none mx r

theorem amax_rel (mx : Bool) {l l' : List Value} (h : All2 (VRel μ) l l') : ∀ (a v : Value), l.foldl (amaxStep mx) (some a) = some v → (l = [] → plain0 a = true) → ∀ W : World,
    plain0 v = true ∧ (l'.foldlM (if mx then Builtin.max2 else Builtin.min2) a).run P W = .ok v W := by
  induction h with
  | nil =>
    intro a v hv hz W
    simp only [List.foldl_nil, Option.some.injEq] at hv
    subst hv
    exact ⟨hz rfl, by simp⟩
  | @cons y y' l l' h1 h2 ih =>
    intro a v hv hz0 W
    simp only [List.foldl_cons] at hv
    clear hz0
    cases a <;> first | (simp only [amaxStep, amax_none, reduceCtorEq] at hv; done) | skip
    rename_i k a
    cases y <;> first | (simp only [amaxStep, amax_none, reduceCtorEq] at hv; done) | skip
    rename_i q b
    rw [r_int h1]
    simp only [amaxStep] at hv
    by_cases e : k = q
    · subst e
      rw [if_pos rfl] at hv
      obtain ⟨g1, g2⟩ := ih _ v hv (fun _ => rfl) W
      refine ⟨g1, ?_⟩
      rw [List.foldlM_cons, Sem.run_bind]
      have : ((if mx then Builtin.max2 else Builtin.min2) (.int k a) (.int k b)).run P W = .ok (.int k (if mx then (if b > a then b else a) else (if b < a then b else a))) W := by
        cases mx <;> rfl
      rw [this]
      exact g2
    · rw [if_neg e, amax_none] at hv; cases hv

theorem pure_run {o : Oper} {a : AOp} (hc : cOp P o = some a) (hcl : a.cls = .pure) (hρ : ∀ x ∈ allOpds a, VRel μ (ev tm x) (ρ x)) {v : Value} (hv : apure tm a = some v) (W : World) :
    ∃ v', (execOp ρ o).run P W = .ok (.value v') W ∧ VRel μ v v' := by
  obtain ⟨dst, op, type, pos, after, guard⟩ := o
  unfold cOp at hc
  cases op <;> simp only [reduceCtorEq, Option.map_eq_some_iff, Option.some.injEq] at hc
  case move x => subst hc; simp only [apure, Option.some.injEq] at hv; subst hv; exact ⟨ρ x, rfl, hρ x (by simp [allOpds])⟩
  case assign x => subst hc; simp only [apure, Option.some.injEq] at hv; subst hv; exact ⟨ρ x, rfl, hρ x (by simp [allOpds])⟩
  case pick c p q =>
    subst hc
    have h1 := hρ c (by simp [allOpds])
    have h2 := hρ p (by simp [allOpds])
    have h3 := hρ q (by simp [allOpds])
    simp only [apure] at hv
    generalize ev tm c = C at hv h1
    cases C <;> simp only [reduceCtorEq, Option.some.injEq] at hv
    rename_i t
    rw [← hv]
    refine ⟨if t then ρ p else ρ q, ?_, by cases t <;> simpa⟩
    simp [execOp, r_bool h1, asBool]
  case alloc e => obtain ⟨z, _, rfl⟩ := hc; simp [AOp.cls] at hcl
  case box e x => subst hc; simp [AOp.cls] at hcl
  case build t parts =>
    cases hu : P.underlying t with
    | none => simp [hu] at hc
    | some d =>
      cases hz : zeroO P t with
      | none => simp only [hu, hz] at hc; cases d <;> simp at hc
      | some z =>
        obtain ⟨hzr, hzp, i, hi, hzl⟩ := run_zeroO hz W
        obtain ⟨hpl, hcell⟩ := cells_plain hzp
        cases d <;> simp only [hu, hz, reduceCtorEq] at hc
        case array n e =>
          cases hs : sizeO P e with
          | none => simp [hs] at hc
          | some s =>
            obtain ⟨ie, hie, rfl⟩ := sizeO_some hs
            cases hb : Nat.beq ie.size 0 with
            | true => simp [hs, hb] at hc
            | false =>
              simp only [hs, hb, cond_false, Option.some.injEq] at hc
              subst hc
              have hne : ie.size ≠ 0 := fun e => by rw [e] at hb; simp at hb
              simp only [apure, Option.map_eq_some_iff] at hv
              obtain ⟨cs, hf, rfl⟩ := hv
              have hfr := parts_rel_A (μ := μ) (tm := tm) (ρ := ρ) (fun i => some (i * ie.size, ie.size)) ie.size hne (fun _ => rfl) parts.toList (fun x hx => hρ x.2 (by simp only [allOpds, partsA_opds]; exact List.mem_map_of_mem hx))
              obtain ⟨out, g1, g2, g3⟩ := fill_rel hfr hf (plain_all2 μ hpl) (fun v hv => plain0_oc (hpl v hv))
              refine ⟨.agg ⟨out⟩, ?_, VRel.aggOf g2 g3⟩
              simp only [execOp, Instr.build, Sem.run_bind, hzr, Result.andThen_ok, run_underlying hu, run_sizeO hie]
              rw [hcell, show (parts.map fun x => (x.1, ρ x.2)).toList = parts.toList.map fun x => (x.1, ρ x.2) by simp, g1]
              rfl
        case struct fs =>
          cases hall : fs.toList.all (fun f => (P.info? f.type).isSome) with
          | false => simp [hall] at hc
          | true =>
            simp only [hall, cond_true, Option.map_eq_some_iff] at hc
            obtain ⟨l, hl, rfl⟩ := hc
            simp only [apure, Option.map_eq_some_iff] at hv
            obtain ⟨cs, hf, rfl⟩ := hv
            have hfr := parts_rel_F (μ := μ) (tm := tm) (ρ := ρ) hu parts.toList l hl (fun x hx => hρ x (by simpa only [allOpds] using hx))
            obtain ⟨out, g1, g2, g3⟩ := fill_rel hfr hf (plain_all2 μ hpl) (fun v hv => plain0_oc (hpl v hv))
            refine ⟨.agg ⟨out⟩, ?_, VRel.aggOf g2 g3⟩
            have hpm : (fs.mapM (fun f => do pure (f.offset, ← sizeOf f.type) : Field → Sem (Nat × Nat))).run P W = .ok ⟨fs.toList.map fun f => (f.offset, ((P.info? f.type).map (·.size)).getD 0)⟩ W := by
              have := run_mapM_places (P := P) W fs.toList hall
              rw [Array.mapM_eq_mapM_toList, Sem.run_map, this]
              rfl
            simp only [execOp, Instr.build, Sem.run_bind, hzr, Result.andThen_ok, run_underlying hu]
            rw [hpm]
            simp only [Result.andThen_ok]
            rw [hcell, show (parts.map fun x => (x.1, ρ x.2)).toList = parts.toList.map fun x => (x.1, ρ x.2) by simp]
            have hpl2 : (fun (i : Nat) => (⟨fs.toList.map fun f => (f.offset, ((P.info? f.type).map (·.size)).getD 0)⟩ : Array (Nat × Nat))[i]?) = fun (i : Nat) => (fs.toList.map fun f => (f.offset, ((P.info? f.type).map (·.size)).getD 0))[i]? := by
              funext i; simp
            rw [hpl2, g1]
            rfl
  case buildSlice t len ps =>
    cases he : elemO P t with
    | none => simp [he] at hc
    | some e =>
      obtain ⟨e, i⟩ := e
      cases hz : zeroO P e with
      | none => simp [he, hz] at hc
      | some z =>
        cases hb : Nat.ble (len * i.size) 16777216 <;> simp only [he, hz, hb, cond_true, cond_false, Option.some.injEq, reduceCtorEq] at hc
        subst hc; simp [AOp.cls] at hcl
  case insert t m k v => obtain ⟨z, _, rfl⟩ := hc; simp [AOp.cls] at hcl
  case mapUpdate t m k v => obtain ⟨z, _, rfl⟩ := hc; simp [AOp.cls] at hcl
  case load t a => obtain ⟨z, _, rfl⟩ := hc; simp [AOp.cls] at hcl
  case store t a v => obtain ⟨z, _, rfl⟩ := hc; simp [AOp.cls] at hcl
  case nilCheck x =>
    subst hc
    have h1 := hρ x (by simp [allOpds])
    simp only [apure] at hv
    generalize ev tm x = X at hv h1
    cases X <;> try (simp only [reduceCtorEq] at hv; done)
    · rename_i p
      cases p with
      | none => simp at hv
      | some p =>
        simp only [Option.some.injEq] at hv
        subst hv
        obtain ⟨b, s, o, hs, hm, hX⟩ := inv_ptr h1
        refine ⟨ρ x, ?_, h1⟩
        simp only [execOp, hX]; rfl
    · rename_i f p q
      cases f <;> simp only [Option.some.injEq, reduceCtorEq] at hv
      · subst hv
        refine ⟨ρ x, ?_, h1⟩
        have h0 := h1
        generalize hX : ρ x = X' at h1
        cases h1; simp only [execOp, hX]; rfl
      · subst hv
        refine ⟨ρ x, ?_, h1⟩
        have h0 := h1
        generalize hX : ρ x = X' at h1
        cases h1; simp only [execOp, hX]; rfl
    · simp only [Option.some.injEq] at hv
      subst hv
      refine ⟨ρ x, ?_, h1⟩
      obtain ⟨y, hX, _⟩ := r_iface h1
      simp only [execOp, hX]; rfl
  case binOp op t x y yt =>
    subst hc
    obtain ⟨h1, h2⟩ := bin_run (P := P) (hρ x (by simp [allOpds])) (hρ y (by simp [allOpds])) hv W
    refine ⟨v, ?_, plainV_rel μ h2⟩
    simp only [execOp, Sem.run_bind] at h1 ⊢
    rw [h1]; rfl
  case unOp op t x =>
    subst hc
    have h1 := hρ x (by simp [allOpds])
    simp only [apure, aun] at hv
    generalize ev tm x = X at hv h1
    cases op <;> cases X <;> simp only [Option.some.injEq, reduceCtorEq] at hv
    · rw [← hv]; exact ⟨_, by simp only [execOp, r_int h1]; rfl, .int _ _⟩
    · simp only [binInt, Option.some.injEq] at hv
      rw [← hv]; exact ⟨_, by simp only [execOp, r_int h1]; rfl, .int _ _⟩
    · rw [← hv]; exact ⟨_, by simp only [execOp, r_bool h1]; rfl, .bool _⟩
  case convert s d x =>
    cases hs : P.underlying s with
    | none => simp [hs] at hc
    | some sd =>
      cases hd : P.underlying d with
      | none => simp [hs, hd] at hc
      | some dd =>
        simp only [hs, hd] at hc
        cases sd <;> cases dd <;> try simp only [reduceCtorEq] at hc
        case int.int k l =>
          simp only [Option.some.injEq] at hc
          subst hc
          have h1 := hρ x (by simp [allOpds])
          simp only [apure] at hv
          generalize ev tm x = X at hv h1
          cases X <;> simp only [Option.some.injEq, reduceCtorEq] at hv
          rw [← hv]
          refine ⟨_, ?_, .int _ _⟩
          simp [execOp, convert, run_underlying hs, run_underlying hd, r_int h1, Conv.intToInt]
        case int.string k =>
          simp only [Option.some.injEq] at hc
          subst hc
          have h1 := hρ x (by simp [allOpds])
          simp only [apure] at hv
          generalize ev tm x = X at hv h1
          cases X <;> simp only [Option.some.injEq, reduceCtorEq] at hv
          rw [← hv]
          refine ⟨_, ?_, .string _⟩
          simp [execOp, convert, run_underlying hs, run_underlying hd, r_int h1, Conv.intToString]
        case string.string =>
          simp only [Option.some.injEq] at hc
          subst hc
          have h1 := hρ x (by simp [allOpds])
          simp only [apure] at hv
          generalize ev tm x = X at hv h1
          cases X <;> simp only [Option.some.injEq, reduceCtorEq] at hv
          rw [← hv]
          refine ⟨_, ?_, .string _⟩
          simp [execOp, convert, run_underlying hs, run_underlying hd, r_string h1]
        case string.slice e =>
          cases he : P.underlying e with
          | none => simp [he] at hc
          | some ed =>
            simp only [he] at hc
            cases ed <;> try simp only [reduceCtorEq] at hc
            rename_i k
            cases k <;> simp only [Option.some.injEq, reduceCtorEq] at hc <;> (subst hc; simp [AOp.cls] at hcl)
        case slice.string e =>
          cases he : P.underlying e with
          | none => simp [he] at hc
          | some ed =>
            simp only [he] at hc
            cases ed <;> try simp only [reduceCtorEq] at hc
            rename_i k
            cases k <;> simp only [Option.some.injEq, reduceCtorEq] at hc <;> (subst hc; simp [AOp.cls] at hcl)
  case makeInterface t x =>
    cases hu : P.underlying t with
    | none => simp [hu] at hc
    | some d =>
      have h0 : a = .mkIface t x ∧ ∀ ms, d ≠ .interface ms := by
        simp only [hu] at hc
        cases d <;> simp only [Option.some.injEq, reduceCtorEq] at hc <;> exact ⟨hc.symm, by simp⟩
      obtain ⟨rfl, hd⟩ := h0
      simp only [apure, Option.some.injEq] at hv
      rw [← hv]
      refine ⟨.iface t (ρ x), ?_, .iface t (hρ x (by simp [allOpds]))⟩
      cases d <;> first
        | (exact absurd rfl (hd _))
        | simp [execOp, Instr.makeInterface, run_underlying hu]
  case makeFunc fn first captured =>
    cases fn <;> simp only [Option.some.injEq, reduceCtorEq] at hc
    rename_i f
    subst hc
    simp only [apure, Option.some.injEq] at hv
    rw [← hv]
    refine ⟨.func (.func f) (first.map ρ) (captured.map ρ), rfl, ?_⟩
    have e1 : first.map ρ = ⟨first.toList.map ρ⟩ := by apply Array.ext'; simp
    have e2 : captured.map ρ = ⟨captured.toList.map ρ⟩ := by apply Array.ext'; simp
    rw [e1, e2]
    exact VRel.funcOf f (ev_list fun x hx => hρ x (by simp only [allOpds, List.mem_append]; exact .inl hx)) (ev_list fun x hx => hρ x (by simp only [allOpds, List.mem_append]; exact .inr hx))
  case makeMap t r =>
    cases r <;> try simp only [reduceCtorEq] at hc
    split at hc <;> simp only [Option.some.injEq, reduceCtorEq] at hc
    subst hc; simp [AOp.cls] at hcl
  case makeSlice t l c =>
    cases he : elemO P t with
    | none => simp [he] at hc
    | some e =>
      simp only [he, Option.map_eq_some_iff] at hc
      obtain ⟨z, _, rfl⟩ := hc; simp [AOp.cls] at hcl
  case slice t x lo hi mx =>
    cases hu : P.underlying t with
    | none => simp [hu] at hc
    | some d =>
      simp only [hu] at hc
      cases d <;> simp only [reduceCtorEq, Option.some.injEq, Option.map_eq_some_iff] at hc
      case string =>
        subst hc
        obtain ⟨v', h1, h2⟩ := slice_run (.inl ⟨hu, rfl⟩) (fun y hy => hρ y (by simpa only [allOpds] using hy)) hv W
        exact ⟨v', by simp only [execOp, Sem.run_bind, h1, Result.andThen_ok]; rfl, h2⟩
      case slice e =>
        obtain ⟨n, hn, rfl⟩ := hc
        obtain ⟨i, hi', rfl⟩ := sizeO_some hn
        obtain ⟨v', h1, h2⟩ := slice_run (.inr ⟨e, i, hu, hi', rfl⟩) (fun y hy => hρ y (by simpa only [allOpds] using hy)) hv W
        exact ⟨v', by simp only [execOp, Sem.run_bind, h1, Result.andThen_ok]; rfl, h2⟩
  case fieldAddr t x f =>
    cases hf : fieldO P t f with
    | none => simp [hf] at hc
    | some fl =>
      obtain ⟨fs, hu, hfs⟩ := fieldO_some hf
      cases hi : P.info? fl.type with
      | none => simp [hf, hi] at hc
      | some i =>
        cases hz : Nat.beq i.size 0 with
        | true => simp [hf, hi, hz] at hc
        | false =>
          simp only [hf, hi, hz, cond_false, Option.some.injEq] at hc
          subst hc
          have hne : i.size ≠ 0 := fun e => by rw [e] at hz; simp at hz
          have h1 := hρ x (by simp [allOpds])
          simp only [apure] at hv
          generalize ev tm x = X at hv h1
          cases X <;> try simp only [reduceCtorEq] at hv
          rename_i p
          cases p <;> simp only [reduceCtorEq, Option.some.injEq] at hv
          obtain ⟨b, s, o, hs, hm, hX⟩ := inv_ptr h1
          rw [← hv]
          refine ⟨_, ?_, ptr_add hm hs fl.offset⟩
          simp [execOp, Instr.fieldAt, run_underlying hu, hfs, hX, Instr.sureAddr, fieldPlace, run_sizeO hi, hne, add_eq]
  case field t x f =>
    cases hf : fieldO P t f with
    | none => simp [hf] at hc
    | some fl =>
      obtain ⟨fs, hu, hfs⟩ := fieldO_some hf
      simp only [hf, Option.map_eq_some_iff] at hc
      obtain ⟨g, hg, rfl⟩ := hc
      have h1 := hρ x (by simp [allOpds])
      simp only [apure] at hv
      generalize ev tm x = X at hv h1
      cases X <;> try simp only [reduceCtorEq] at hv
      rename_i cs
      obtain ⟨xs', hX, h2, h3⟩ := inv_agg h1
      obtain ⟨v', h4, h5⟩ := part_run hg h2 h3 (off := fl.offset) (v := v) (by cases g <;> exact hv) W
      refine ⟨v', ?_, h5⟩
      simp [execOp, Instr.field, run_underlying hu, hfs, hX, asAgg, h4]
  case indexAddr t x i =>
    cases hu : P.underlying t with
    | none => simp [hu] at hc
    | some d =>
      simp only [hu] at hc
      cases d <;> simp only [reduceCtorEq, Option.map_eq_some_iff] at hc
      case slice e =>
        obtain ⟨n, hn, rfl⟩ := hc
        obtain ⟨ie, hie, rfl⟩ := sizeO_some hn
        have h1 := hρ x (by simp [allOpds])
        have h2 := hρ i (by simp [allOpds])
        simp only [apure] at hv
        generalize ev tm x = X at hv h1
        generalize ev tm i = I at hv h2
        cases X <;> try simp only [reduceCtorEq] at hv
        rename_i p len cap
        cases p <;> try simp only [reduceCtorEq] at hv
        rename_i p
        cases I <;> try simp only [reduceCtorEq] at hv
        rename_i k j
        split at hv
        · rename_i hb
          simp only [Option.some.injEq] at hv
          rw [← hv]
          have go : ∀ b s o c', μ p.block = some ⟨b, s, o⟩ → ρ x = .slice (some ⟨b, s + p.off, none⟩) len c' → ∃ v', (execOp ρ ⟨dst, .indexAddr t x i, type, pos, after, guard⟩).run P W = .ok (.value v') W ∧ VRel μ (.pointer (some ⟨p.block, p.off + j.toNat * ie.size, none⟩)) v' := by
            intro b s o c' hm hX
            refine ⟨.pointer (some ⟨b, s + (p.off + j.toNat * ie.size), none⟩), ?_, .ptr hm⟩
            simp [execOp, Instr.indexAt, run_underlying hu, hX, r_int h2, asIntOf, hb, run_sizeO hie, add_eq, Nat.add_assoc]
          rcases inv_slice' h1 with ⟨b, s, hs, hm, hX⟩ | ⟨b, s, N, e', c', hs, hm, _, _, hX⟩ | ⟨rfl, rfl, A, hX⟩
          · exact go b s none cap hm hX
          · exact go b s (some N) c' hm hX
          · omega
        · cases hv
      case array len e =>
        obtain ⟨n, hn, rfl⟩ := hc
        obtain ⟨ie, hie, rfl⟩ := sizeO_some hn
        have h1 := hρ x (by simp [allOpds])
        have h2 := hρ i (by simp [allOpds])
        simp only [apure] at hv
        generalize ev tm x = X at hv h1
        generalize ev tm i = I at hv h2
        cases X <;> try simp only [reduceCtorEq] at hv
        rename_i p
        cases p <;> try simp only [reduceCtorEq] at hv
        rename_i p
        cases I <;> try simp only [reduceCtorEq] at hv
        rename_i k j
        split at hv
        · rename_i hb
          simp only [Option.some.injEq] at hv
          rw [← hv]
          obtain ⟨b, s, o, hs, hm, hX⟩ := inv_ptr h1
          refine ⟨_, ?_, ptr_add hm hs (j.toNat * ie.size)⟩
          simp [execOp, Instr.indexAt, run_underlying hu, hX, r_int h2, asIntOf, hb, run_sizeO hie, add_eq, Instr.sureAddr]
        · cases hv
  case index t x i =>
    cases hu : P.underlying t with
    | none => simp [hu] at hc
    | some d =>
      simp only [hu] at hc
      cases d <;> simp only [reduceCtorEq, Option.some.injEq] at hc
      case string =>
        subst hc
        have h1 := hρ x (by simp [allOpds])
        have h2 := hρ i (by simp [allOpds])
        simp only [apure] at hv
        generalize ev tm x = X at hv h1
        generalize ev tm i = I at hv h2
        cases X <;> try simp only [reduceCtorEq] at hv
        rename_i s
        cases I <;> try simp only [reduceCtorEq] at hv
        rename_i k j
        split at hv
        · rename_i hb
          simp only [Option.map_eq_some_iff] at hv
          obtain ⟨c, hc, rfl⟩ := hv
          refine ⟨.int .u8 c.toNat, ?_, .int _ _⟩
          have hget : s[j.toNat]? = some c := by
            have hlt := (List.getElem?_eq_some_iff.1 hc).1
            have hsz : j.toNat < s.size := by simpa using hlt
            have : s[j.toNat]? = some s[j.toNat] := by simp [hsz]
            rw [this]
            congr 1
            have h3 := (List.getElem?_eq_some_iff.1 hc).2
            simp at h3
            exact h3
          simp [execOp, Instr.index, run_underlying hu, r_string h1, r_int h2, asIntOf, hb, hget]
        · cases hv
      case array len e =>
        cases hg : aggOf P e with
        | none => simp [hg] at hc
        | some g =>
          cases hn : sizeO P e with
          | none => simp [hg, hn] at hc
          | some n =>
            simp only [hg, hn, Option.some.injEq] at hc
            subst hc
            obtain ⟨ie, hie, rfl⟩ := sizeO_some hn
            have h1 := hρ x (by simp [allOpds])
            have h2 := hρ i (by simp [allOpds])
            simp only [apure] at hv
            generalize ev tm x = X at hv h1
            generalize ev tm i = I at hv h2
            cases X <;> try simp only [reduceCtorEq] at hv
            rename_i cs
            cases I <;> try simp only [reduceCtorEq] at hv
            rename_i k j
            split at hv
            · rename_i hb
              obtain ⟨xs', hX, h3, h4⟩ := inv_agg h1
              obtain ⟨_, i2, hi2, hgn, _⟩ := aggOf_run hg W
              rw [hie] at hi2; cases hi2
              obtain ⟨v', h5, h6⟩ := part_run hg h3 h4 (off := j.toNat * ie.size) (v := v) (by
                cases g with
                | none => simpa using hv
                | some n => have := hgn n rfl; subst this; simpa using hv) W
              refine ⟨v', ?_, h6⟩
              simp [execOp, Instr.index, run_underlying hu, hX, r_int h2, asIntOf, hb, run_sizeO hie, h5]
            · cases hv
  case lookup t x i ok =>
    cases hk : AM.keyOf P t with
    | none => simp [hk] at hc
    | some e =>
      simp only [hk, Option.map_eq_some_iff] at hc
      obtain ⟨z, _, rfl⟩ := hc; simp [AOp.cls] at hcl
  case range t x =>
    cases hu : P.underlying t with
    | none => simp [hu] at hc
    | some d => simp only [hu] at hc; cases d <;> simp only [reduceCtorEq, Option.some.injEq] at hc <;> (subst hc; simp [AOp.cls] at hcl)
  case next x s => subst hc; simp [AOp.cls] at hcl
  case entry x => subst hc; simp [AOp.cls] at hcl
  case panic x => subst hc; simp [AOp.cls] at hcl
  case typeAssert x xt asserted ok =>
    cases hu : P.underlying asserted with
    | none => simp [hu] at hc
    | some d =>
      have h0 : (∀ ms, d ≠ .interface ms) ∧ ∃ z, zeroO P asserted = some z ∧ a = .tassert asserted z ok x := by
        simp only [hu] at hc
        cases d <;> simp only [Option.map_eq_some_iff, reduceCtorEq] at hc <;> (obtain ⟨z, hz, rfl⟩ := hc; exact ⟨by simp, z, hz, rfl⟩)
      obtain ⟨hd, z, hz, rfl⟩ := h0
      obtain ⟨hzr, hzp, _⟩ := run_zeroO hz W
      have h1 := hρ x (by simp [allOpds])
      simp only [apure] at hv
      have hund := run_underlying hu W
      generalize ev tm x = X at hv h1
      cases X <;> try (simp only [reduceCtorEq] at hv; done)
      · rename_i u w
        obtain ⟨y, hX, hy⟩ := r_iface h1
        simp only at hv
        by_cases e : u = asserted
        · subst e
          have hb : Nat.beq u u = true := by simp
          rw [hb] at hv
          cases ok with
          | true =>
            simp only [cond_true, Option.some.injEq] at hv
            rw [← hv]
            refine ⟨.tuple #[y, .bool true], ?_, VRel.tupleOf (.cons hy (.cons (.bool _) .nil))⟩
            cases d <;> first | (exact absurd rfl (hd _)) | simp [execOp, Instr.typeAssert, hund, hX]
          | false =>
            simp only [cond_true, cond_false, Option.some.injEq] at hv
            rw [← hv]
            refine ⟨y, ?_, hy⟩
            cases d <;> first | (exact absurd rfl (hd _)) | simp [execOp, Instr.typeAssert, hund, hX]
        · have hb : Nat.beq u asserted = false := by
            cases hb : Nat.beq u asserted with
            | false => rfl
            | true => exact absurd (Nat.eq_of_beq_eq_true hb) e
          rw [hb] at hv
          cases ok with
          | false => simp at hv
          | true =>
            simp only [cond_true, cond_false, Option.some.injEq] at hv
            rw [← hv]
            refine ⟨.tuple #[z, .bool false], ?_, VRel.tupleOf (.cons (plainV_rel μ (plainZ_V hzp)) (.cons (.bool _) .nil))⟩
            cases d <;> first | (exact absurd rfl (hd _)) | simp [execOp, Instr.typeAssert, hund, hX, e, hzr]
      · have hX := r_nilIface h1
        cases ok with
        | false => simp at hv
        | true =>
          simp only [cond_true, Option.some.injEq] at hv
          rw [← hv]
          refine ⟨.tuple #[z, .bool false], ?_, VRel.tupleOf (.cons (plainV_rel μ (plainZ_V hzp)) (.cons (.bool _) .nil))⟩
          cases d <;> first | (exact absurd rfl (hd _)) | simp [execOp, Instr.typeAssert, hund, hX, hzr]
  case extract x i =>
    subst hc
    have h1 := hρ x (by simp [allOpds])
    simp only [apure] at hv
    generalize ev tm x = X at hv h1
    cases X <;> try simp only [reduceCtorEq] at hv
    obtain ⟨xs', hX, h2⟩ := inv_tuple h1
    obtain ⟨v', h3, h4⟩ := h2.get hv
    refine ⟨v', ?_, h4⟩
    have h3' : xs'[i]? = some v' := by simpa using h3
    simp [execOp, Instr.extract, hX, h3']
  case call c =>
    obtain ⟨callee, args, argTypes⟩ := c
    cases callee with
    | value f => simp only [Option.some.injEq] at hc; subst hc; simp [AOp.cls] at hcl
    | invoke r m => simp at hc
    | builtin b =>
      simp only at hc
      have hargs : (args.map ρ) = ⟨args.toList.map ρ⟩ := by apply Array.ext'; simp
      have red : ∀ (q : Sem Value) (v' : Value), q.run P W = .ok v' W → (do pure (.value (← q)) : Sem Next).run P W = .ok (.value v') W := by
        intro q v' h; simp only [Sem.run_bind, h, Result.andThen_ok]; rfl
      have h1 : ∀ {α β : Type} {f : α → Option β} {l : List α} {b : β}, single f l = some b → ∃ a, l = [a] ∧ f a = some b := by
        intro α β f l b h
        unfold single at h
        split at h
        · exact ⟨_, rfl, h⟩
        · cases h
      have h2 : ∀ {α β : Type} {f : α → α → Option β} {l : List α} {b : β}, two f l = some b → ∃ a c, l = [a, c] ∧ f a c = some b := by
        intro α β f l b h
        unfold two at h
        split at h
        · exact ⟨_, _, rfl, h⟩
        · cases h
      unfold cBuiltin at hc
      cases b <;> try (simp only [reduceCtorEq] at hc; done)
      case len =>
        obtain ⟨t, ht, hc⟩ := h1 hc
        obtain ⟨x, hx, hc⟩ := h1 hc
        have hat : argTypes[0]? = some t := by
          have : argTypes.toList[0]? = some t := by rw [ht]; rfl
          simpa using this
        have hax : (args.map ρ)[0]? = some (ρ x) := by rw [hargs, hx]; rfl
        cases hu : P.underlying t with
        | none => simp [cLen, hu] at hc
        | some d =>
          simp only [cLen, hu] at hc
          have go : ∀ q : Value, (Builtin.len_ argTypes type (args.map ρ)).run P W = .ok q W → (execOp ρ ⟨dst, .call ⟨.builtin .len, args, argTypes⟩, type, pos, after, guard⟩).run P W = .ok (.value q) W := by
            intro q h
            simp only [execOp, resolve, invoke, Sem.run_bind, Sem.run_pure, Result.andThen_ok, builtin, h]
          cases d <;> simp only [reduceCtorEq, Option.some.injEq] at hc <;> subst hc
          case string =>
            have hr := hρ x (by simp [allOpds])
            simp only [apure] at hv
            generalize ev tm x = X at hv hr
            cases X <;> simp only [reduceCtorEq, Option.some.injEq] at hv
            rename_i s
            rw [← hv]
            refine ⟨.int .i64 s.size, go _ ?_, ?_⟩
            · simp only [Builtin.len_, hat, hax, Sem.run_bind, run_underlying hu, Result.andThen_ok, r_string hr]; rfl
            · have : s.data.toList.length = s.size := by simp
              rw [this]; exact .int _ _
          case slice e =>
            have hr := hρ x (by simp [allOpds])
            simp only [apure] at hv
            generalize ev tm x = X at hv hr
            cases X <;> simp only [reduceCtorEq, Option.some.injEq] at hv
            rename_i p n c
            rw [← hv]
            refine ⟨.int .i64 n, go _ ?_, .int _ _⟩
            have hX : ∃ p' c', ρ x = .slice p' n c' := by
              cases p with
              | none => generalize ρ x = X' at hr; cases hr; exact ⟨_, _, rfl⟩
              | some p => obtain ⟨A, c', h, _⟩ := inv_slice hr; exact ⟨_, _, h⟩
            obtain ⟨p', c', hX⟩ := hX
            simp only [Builtin.len_, hat, hax, Sem.run_bind, run_underlying hu, Result.andThen_ok, hX]; rfl
          case array n e =>
            simp only [apure, Option.some.injEq] at hv
            rw [← hv]
            refine ⟨_, go _ ?_, .int _ _⟩
            simp only [Builtin.len_, hat, hax, Sem.run_bind, run_underlying hu, Result.andThen_ok]; rfl
          case map k e => simp [AOp.cls] at hcl
      case append =>
        obtain ⟨t, u, ht, hc⟩ := h2 hc
        obtain ⟨s, x, hx, hc⟩ := h2 hc
        unfold cAppend at hc
        split at hc
        · split at hc <;> simp only [Option.some.injEq, reduceCtorEq] at hc <;> (subst hc; simp [AOp.cls] at hcl)
        · cases hc
      case copy =>
        obtain ⟨t, u, ht, hc⟩ := h2 hc
        obtain ⟨s, x, hx, hc⟩ := h2 hc
        simp only [Option.map_eq_some_iff] at hc
        obtain ⟨e, _, rfl⟩ := hc; simp [AOp.cls] at hcl
      case clear =>
        obtain ⟨t, ht, hc⟩ := h1 hc
        obtain ⟨x, hx, hc⟩ := h1 hc
        unfold cClear at hc
        split at hc <;> simp only [Option.some.injEq, reduceCtorEq, Option.map_eq_some_iff] at hc
        · subst hc; simp [AOp.cls] at hcl
        · obtain ⟨z, _, rfl⟩ := hc; simp [AOp.cls] at hcl
      case delete =>
        obtain ⟨t, u, ht, hc⟩ := h2 hc
        obtain ⟨s, x, hx, hc⟩ := h2 hc
        simp only [Option.map_eq_some_iff] at hc
        obtain ⟨e, _, rfl⟩ := hc; simp [AOp.cls] at hcl
      case max =>
        simp only [Option.some.injEq] at hc
        subst hc
        simp only [apure] at hv
        have hl := ev_list (μ := μ) (tm := tm) (ρ := ρ) (l := args.toList) (fun x hx => hρ x (by simpa only [allOpds] using hx))
        generalize args.toList.map (ev tm) = L at hv hl
        generalize hL' : args.toList.map ρ = L' at hl hargs
        cases hl with
        | nil => simp [amax] at hv
        | @cons y y' l l' q1 q2 =>
          cases q2 with
          | nil => simp [amax] at hv
          | @cons z z' m m' q3 q4 =>
            simp only [amax] at hv
            obtain ⟨g1, g2⟩ := amax_rel true (All2.cons q3 q4) y v hv (by simp) W
            have hy : y' = y := by
              refine rel_plain0 q1 ?_
              cases y <;> first | rfl | (simp only [List.foldl_cons, amaxStep, amax_none, reduceCtorEq] at hv)
            refine ⟨v, ?_, plain0_rel μ g1⟩
            have : (Builtin.max_ argTypes type (args.map ρ)).run P W = .ok v W := by
              rw [hargs]
              simp only [Builtin.max_]
              rw [hy]
              simpa using g2
            simp only [execOp, resolve, invoke, Sem.run_bind, Sem.run_pure, Result.andThen_ok, builtin, this]
      case min =>
        simp only [Option.some.injEq] at hc
        subst hc
        simp only [apure] at hv
        have hl := ev_list (μ := μ) (tm := tm) (ρ := ρ) (l := args.toList) (fun x hx => hρ x (by simpa only [allOpds] using hx))
        generalize args.toList.map (ev tm) = L at hv hl
        generalize hL' : args.toList.map ρ = L' at hl hargs
        cases hl with
        | nil => simp [amax] at hv
        | @cons y y' l l' q1 q2 =>
          cases q2 with
          | nil => simp [amax] at hv
          | @cons z z' m m' q3 q4 =>
            simp only [amax] at hv
            obtain ⟨g1, g2⟩ := amax_rel false (All2.cons q3 q4) y v hv (by simp) W
            have hy : y' = y := by
              refine rel_plain0 q1 ?_
              cases y <;> first | rfl | (simp only [List.foldl_cons, amaxStep, amax_none, reduceCtorEq] at hv)
            refine ⟨v, ?_, plain0_rel μ g1⟩
            have : (Builtin.min_ argTypes type (args.map ρ)).run P W = .ok v W := by
              rw [hargs]
              simp only [Builtin.min_]
              rw [hy]
              simpa using g2
            simp only [execOp, resolve, invoke, Sem.run_bind, Sem.run_pure, Result.andThen_ok, builtin, this]
end
end Go.AM

/-
  Maps: keys are looked for.
-/
namespace Go.AM

section
variable {P : Program}

theorem keyOf_some {t : TypeId} {ek : EK} {e : TypeId} (h : AM.keyOf P t = some (ek, e)) : ∃ k, P.underlying t = some (.map k e) ∧
    ((∃ l, leafK P k = some l ∧ ek = .leaf l) ∨ ∃ fs ks, P.underlying k = some (.struct fs) ∧ flatK P 12 k = some ks ∧ ek = .flat ks) := by
  unfold AM.keyOf at h
  split at h
  · rename_i k e' hu
    refine ⟨k, ?_⟩
    split at h <;> simp only [Option.some.injEq, Prod.mk.injEq, Option.map_eq_some_iff, reduceCtorEq] at h
    · obtain ⟨rfl, rfl⟩ := h; rename_i hk; exact ⟨hu, .inl ⟨.bool, by simp [leafK, hk], rfl⟩⟩
    · obtain ⟨rfl, rfl⟩ := h; rename_i hk; exact ⟨hu, .inl ⟨.int, by simp [leafK, hk], rfl⟩⟩
    · obtain ⟨rfl, rfl⟩ := h; rename_i hk; exact ⟨hu, .inl ⟨.string, by simp [leafK, hk], rfl⟩⟩
    · obtain ⟨ks, hks, rfl, rfl⟩ := h; rename_i fs hk; exact ⟨hu, .inr ⟨fs, ks, hk, hks, rfl⟩⟩
  · cases h

theorem checkKey_leaf {k : TypeId} {l : LK} (h : leafK P k = some l) (b : Bool) (n : Nat) (v : Value) (W : World) : (Instr.checkKey b (n + 1) k v).run P W = .ok () W := by
  unfold leafK at h
  split at h <;> first
    | (rename_i hu; simp only [Instr.checkKey, Sem.run_bind, run_underlying hu, Result.andThen_ok]; cases v <;> rfl)
    | cases h

/-- A key that is held leaf by leaf is a key. -/
theorem checkKey_flat (b : Bool) : ∀ (m : Nat) {t : TypeId} {ks : List LK} (fs : Array Field) (_ : P.underlying t = some (.struct fs)) (_ : flatK P m t = some ks) {xs : List Value} {c : Bool} (_ : flatEq ks xs xs = some c) (d : Nat) (W : World),
    (Instr.checkKey b (d + m) t (.agg ⟨xs⟩)).run P W = .ok () W
  | 0, _, _, _, _, hk, _, _, _, _, _ => by simp [flatK] at hk
  | m + 1, t, ks, fs, hu, hk, xs, c, h, d, W => by
    simp only [flatK, hu] at hk
    cases hs : P.stoodInHeld t with
    | true => simp [hs] at hk
    | false =>
      simp only [hs, cond_false] at hk
      rw [show d + (m + 1) = (d + m) + 1 from rfl]
      simp only [Instr.checkKey, Sem.run_bind, run_underlying hu, Result.andThen_ok]
      rw [← Array.forIn_toList]
      have key : ∀ (l : List Field) (off : Nat) (kl : List LK) (c : Bool), flatL P (flatK P m) l off = some kl → flatEq kl (xs.drop off) (xs.drop off) = some c →
          (forIn l PUnit.unit fun f (_ : PUnit) => if f.name ≠ "_" then (do let a ← part f.type ⟨xs⟩ f.offset; Instr.checkKey b (d + m) f.type a; pure (ForInStep.yield PUnit.unit) : Sem (ForInStep PUnit)) else pure (ForInStep.yield PUnit.unit)).run P W = .ok PUnit.unit W := by
        intro l
        induction l with
        | nil => intro off kl c _ _; simp
        | cons f l ih =>
          intro off kl c h1 h2
          simp only [flatL] at h1
          cases hn : (f.name == "_") with
          | true => simp [hn] at h1
          | false =>
            cases ho : Nat.beq f.offset off with
            | false => simp [hn, ho] at h1
            | true =>
              have hoff := Nat.eq_of_beq_eq_true ho
              cases hkf : flatK P m f.type with
              | none => simp [hn, ho, hkf] at h1
              | some kf =>
                cases hif : P.info? f.type with
                | none => simp [hn, ho, hkf, hif] at h1
                | some i =>
                  cases hl : Nat.beq kf.length i.size with
                  | false => simp [hn, ho, hkf, hif, hl] at h1
                  | true =>
                    simp only [hn, ho, hkf, hif, hl, cond_true, cond_false, Option.map_eq_some_iff] at h1
                    obtain ⟨kr, h3, rfl⟩ := h1
                    have hlen := Nat.eq_of_beq_eq_true hl
                    obtain ⟨b1, b2, e1, e2, e3⟩ := flatEq_append kf kr _ _ _ h2
                    rw [List.drop_drop, hlen] at e2
                    have hrest := ih (off + i.size) kr b2 h3 e2
                    have hn' : f.name ≠ "_" := by simpa using hn
                    have hf : ∃ a, (part f.type ⟨xs⟩ f.offset).run P W = .ok a W ∧ (Instr.checkKey b (d + m) f.type a).run P W = .ok () W := by
                      cases m with
                      | zero => simp [flatK] at hkf
                      | succ m =>
                        have hkf0 := hkf
                        simp only [flatK] at hkf
                        have leaf : ∀ k, leafK P f.type = some k → kf = [k] → ∃ a, (part f.type ⟨xs⟩ f.offset).run P W = .ok a W ∧ (Instr.checkKey b (d + (m + 1)) f.type a).run P W = .ok () W := by
                          intro k hk1 hk2
                          subst hk2
                          simp only [List.length_singleton] at e1
                          cases hdx : xs.drop off with
                          | nil => rw [hdx] at e1; simp [flatEq] at e1
                          | cons x xr =>
                            have gx : (⟨xs⟩ : Array Value).toList[f.offset]? = some x := by
                              rw [hoff]
                              have : (xs.drop off)[0]? = some x := by rw [hdx]; rfl
                              simpa using this
                            exact ⟨x, leaf_part hk1 gx W, checkKey_leaf hk1 b (d + m) x W⟩
                        cases huf : P.underlying f.type with
                        | none => rw [huf] at hkf; simp at hkf
                        | some dsc =>
                          rw [huf] at hkf
                          cases dsc <;> simp only [Option.some.injEq, reduceCtorEq] at hkf
                          case bool => exact leaf .bool (by simp [leafK, huf]) hkf.symm
                          case int => exact leaf .int (by simp [leafK, huf]) hkf.symm
                          case string => exact leaf .string (by simp [leafK, huf]) hkf.symm
                          case struct gs =>
                            rw [hoff]
                            refine ⟨_, agg_part huf hif _ _ W, ?_⟩
                            have := checkKey_flat b (m + 1) gs huf hkf0 e1 d W
                            rw [hlen] at this
                            exact this
                    obtain ⟨a, p1, p2⟩ := hf
                    simp only [List.forIn_cons, hn', ne_eq, not_false_eq_true, if_true, Sem.run_bind, p1, p2, Result.andThen_ok, Sem.run_pure]
                    exact hrest
      have := key fs.toList 0 ks c hk (by simpa using h)
      rw [this]
      rfl

theorem checkKey_run {k : TypeId} {ek : EK} (hk : (∃ l, leafK P k = some l ∧ ek = .leaf l) ∨ ∃ fs ks, P.underlying k = some (.struct fs) ∧ flatK P 12 k = some ks ∧ ek = .flat ks) {v : Value} {c : Bool} (h : aeq ek v v = some c) (b : Bool) (W : World) :
    (Instr.checkKey b 10000 k v).run P W = .ok () W := by
  rcases hk with ⟨l, hl, rfl⟩ | ⟨fs, ks, hu, hks, rfl⟩
  · exact checkKey_leaf hl b 9999 v W
  · cases v <;> simp only [aeq, reduceCtorEq] at h
    exact checkKey_flat b 12 fs hu hks h 9988 W

def EntRel (μ : Mu) (x : Value × Value × Nat) (y : MapEntry) : Prop := VRel μ x.1 y.key ∧ VRel μ x.2.1 y.val ∧ x.2.2 = y.born

theorem aeq_keys {μ : Mu} {k : TypeId} {ek : EK} (hk : (∃ l, leafK P k = some l ∧ ek = .leaf l) ∨ ∃ fs ks, P.underlying k = some (.struct fs) ∧ flatK P 12 k = some ks ∧ ek = .flat ks) {x y x' y' : Value} {b : Bool} (h : aeq ek x y = some b) (hx : VRel μ x x') (hy : VRel μ y y') :
    x' = x ∧ y' = y := by
  rcases hk with ⟨l, hl, rfl⟩ | ⟨fs, ks, hu, hks, rfl⟩
  · exact leaf_rel h hx hy
  · cases x <;> cases y <;> simp only [aeq, reduceCtorEq] at h
    exact flat_rel h hx hy

theorem leafEq_true {l : LK} {x y : Value} (h : leafEq l x y = some true) : x = y := by
  cases l <;> cases x <;> cases y <;> simp only [leafEq, reduceCtorEq, Option.some.injEq] at h
  · simpa using h
  · split at h
    · rename_i hkk; subst hkk; simp only [Option.some.injEq, beq_iff_eq] at h; rw [h]
    · cases h
  · rename_i s1 s2
    rw [eqBytes_iff, beq_iff_eq] at h
    congr 1
    apply ByteArray.ext; apply Array.ext'; exact h

theorem flatEq_true : ∀ {ks : List LK} {xs ys : List Value}, flatEq ks xs ys = some true → xs = ys
  | [], [], [], _ => rfl
  | [], [], _ :: _, h => by simp [flatEq] at h
  | [], _ :: _, _, h => by simp [flatEq] at h
  | _ :: _, [], _, h => by simp [flatEq] at h
  | _ :: _, _ :: _, [], h => by simp [flatEq] at h
  | k :: ks, x :: xs, y :: ys, h => by
    simp only [flatEq] at h
    split at h
    · rename_i a b h1 h2
      simp only [Option.some.injEq, Bool.and_eq_true] at h
      obtain ⟨rfl, rfl⟩ := h
      rw [leafEq_true h1, flatEq_true h2]
    · cases h

abbrev KeyK (P : Program) (k : TypeId) (ek : EK) : Prop := (∃ l, leafK P k = some l ∧ ek = .leaf l) ∨ ∃ fs ks, P.underlying k = some (.struct fs) ∧ flatK P 12 k = some ks ∧ ek = .flat ks

theorem aeq_true {k : TypeId} {ek : EK} (hk : KeyK P k ek) {x y : Value} (h : aeq ek x y = some true) : x = y := by
  rcases hk with ⟨l, hl, rfl⟩ | ⟨fs, ks, hu, hks, rfl⟩
  · exact leafEq_true h
  · cases x <;> cases y <;> simp only [aeq, reduceCtorEq] at h
    congr 1
    exact Array.ext' (flatEq_true h)

/-- What a search in the abstract map says of the map. -/
def Found (es : List (Value × Value × Nat)) (es' : List MapEntry) (μ : Mu) (key : Value) (i : Nat) (r : Option (Nat × Value × Nat)) (r' : Option (Nat × Value)) : Prop :=
  match r with
  | none => r' = none
  | some (j, v, bn) => ∃ v' q q', r' = some (j, v') ∧ VRel μ v v' ∧ i ≤ j ∧ es[j - i]? = some q ∧ es'[j - i]? = some q' ∧ q = (key, v, bn) ∧ q'.key = key

theorem Found.next {es : List (Value × Value × Nat)} {es' : List MapEntry} {μ : Mu} {key : Value} {i : Nat} {r : Option (Nat × Value × Nat)} {r' : Option (Nat × Value)} (h : Found es es' μ key (i + 1) r r') (e : Value × Value × Nat) (e' : MapEntry) : Found (e :: es) (e' :: es') μ key i r r' := by
  cases r with
  | none => exact h
  | some q =>
    obtain ⟨j, v, bn⟩ := q
    obtain ⟨v', q, q', h1, h2, h3, h4, h5, h6, h7⟩ := h
    refine ⟨v', q, q', h1, h2, by omega, ?_, ?_, h6, h7⟩
    · rw [show j - i = (j - (i + 1)) + 1 by omega]; simpa using h4
    · rw [show j - i = (j - (i + 1)) + 1 by omega]; simpa using h5

theorem findNow_leaf {μ : Mu} {k : TypeId} {l : LK} (hl : leafK P k = some l) {d : TypeDesc} (hd : P.underlying k = some d) {key : Value} : ∀ {es : List (Value × Value × Nat)} {es' : List MapEntry}, All2 (EntRel μ) es es' → ∀ (i : Nat) (r : Option (Nat × Value × Nat)), findEntry (.leaf l) key es i = some r →
    ∃ r', Instr.findNow d key es' i = some r' ∧ Found es es' μ key i r r' := by
  intro es es' h
  induction h with
  | nil => intro i r hr; simp only [findEntry, Option.some.injEq] at hr; subst hr; exact ⟨none, rfl, rfl⟩
  | @cons e e' es es' h1 h2 ih =>
    intro i r hr
    simp only [findEntry] at hr
    cases ha : aeq (.leaf l) key e.1 with
    | none => rw [ha] at hr; simp at hr
    | some b =>
      rw [ha] at hr
      simp only [aeq] at ha
      have hek : e'.key = e.1 := rel_plain0 h1.1 (leafEq_plain ha).2
      have hsn : Instr.sameNow d key e'.key = some b := by
        rw [hek]
        unfold leafK at hl
        rw [hd] at hl
        cases d <;> simp only [reduceCtorEq, Option.some.injEq] at hl <;> subst hl
        · generalize e.1 = y at ha; cases key <;> cases y <;> simp only [leafEq, reduceCtorEq] at ha; exact ha
        · generalize e.1 = y at ha
          cases key <;> cases y <;> simp only [leafEq, reduceCtorEq] at ha
          exact ha
        · generalize e.1 = y at ha
          cases key <;> cases y <;> simp only [leafEq, reduceCtorEq] at ha
          rw [← ha]
          simp only [Instr.sameNow, eqBytes_iff]
          rw [beq_toListBytes, ByteArray.toList_eq, ByteArray.toList_eq]
      cases b with
      | true =>
        simp only [Option.some.injEq] at hr
        subst hr
        have hkey := leafEq_true ha
        exact ⟨some (i, e'.val), by simp [Instr.findNow, hsn], e'.val, e, e', rfl, h1.2.1, Nat.le_refl _, by simp, by simp, by rw [hkey], by rw [hek, hkey]⟩
      | false =>
        obtain ⟨r', g1, g2⟩ := ih (i + 1) r hr
        exact ⟨r', by simp [Instr.findNow, hsn, g1], g2.next _ _⟩

theorem findAsking_flat {μ : Mu} {k : TypeId} {fs : Array Field} {ks : List LK} (hu : P.underlying k = some (.struct fs)) (hks : flatK P 12 k = some ks) {key : Value} (W : World) : ∀ {es : List (Value × Value × Nat)} {es' : List MapEntry}, All2 (EntRel μ) es es' → ∀ (i : Nat) (r : Option (Nat × Value × Nat)), findEntry (.flat ks) key es i = some r →
    ∃ r', (Instr.findAsking k key es' i).run P W = .ok r' W ∧ Found es es' μ key i r r' := by
  intro es es' h
  induction h with
  | nil => intro i r hr; simp only [findEntry, Option.some.injEq] at hr; subst hr; exact ⟨none, rfl, rfl⟩
  | @cons e e' es es' h1 h2 ih =>
    intro i r hr
    simp only [findEntry] at hr
    cases ha : aeq (.flat ks) key e.1 with
    | none => rw [ha] at hr; simp at hr
    | some b =>
      rw [ha] at hr
      have ha0 := ha
      generalize hy : e.1 = y at ha
      cases key <;> cases y <;> simp only [aeq, reduceCtorEq] at ha
      rename_i xs ys
      obtain ⟨_, hek⟩ := flat_rel ha (VRel.agg (μ := μ) (xs := xs) (xs' := xs) rfl (fun v hv => plain0_oc ((flatEq_plain ha).1 v hv)) (fun i v v' h3 h4 => by rw [h3] at h4; cases h4; exact plain0_rel μ ((flatEq_plain ha).1 v (List.mem_of_getElem? h3)))) (by rw [← hy]; exact h1.1)
      have heq : (Op.equal k (.agg xs) e'.key).run P W = .ok b W := by
        rw [hek]; exact flat_run 12 fs hu hks ha 9988 W
      cases b with
      | true =>
        simp only [Option.some.injEq] at hr
        subst hr
        have hkey : Value.agg xs = .agg ys := by congr 1; exact Array.ext' (flatEq_true ha)
        refine ⟨some (i, e'.val), ?_, e'.val, e, e', rfl, h1.2.1, Nat.le_refl _, by simp, by simp, by rw [hkey, ← hy], by rw [hek, hkey]⟩
        simp [Instr.findAsking, heq]
      | false =>
        obtain ⟨r', g1, g2⟩ := ih (i + 1) r hr
        exact ⟨r', by simp [Instr.findAsking, heq, g1], g2.next _ _⟩

/-- A key is looked for. -/
theorem findKey_run {μ : Mu} {k : TypeId} {ek : EK} (hk : KeyK P k ek) {key key' : Value} (hkr : VRel μ key key') {es : List (Value × Value × Nat)} {es' : List MapEntry} (he : All2 (EntRel μ) es es') {r : Option (Nat × Value × Nat)} (h : findKeyA ek key es = some r) (W : World) :
    key' = key ∧ (∀ b, (Instr.checkKey b 10000 k key').run P W = .ok () W) ∧ ∃ r', (Instr.findKey k key' es').run P W = .ok r' W ∧ Found es es' μ key 0 r r' := by
  unfold findKeyA at h
  split at h
  · rename_i c hc
    have hkk : key' = key := (aeq_keys hk hc hkr hkr).1
    refine ⟨hkk, fun b => by rw [hkk]; exact checkKey_run hk hc b W, ?_⟩
    rw [hkk]
    rcases hk with ⟨l, hl, rfl⟩ | ⟨fs, ks, hu, hks, rfl⟩
    · have hd : ∃ d, P.underlying k = some d := by
        unfold leafK at hl
        split at hl <;> first
          | exact ⟨_, by assumption⟩
          | cases hl
      obtain ⟨d, hd⟩ := hd
      obtain ⟨r', g1, g2⟩ := findNow_leaf hl hd he 0 r h
      exact ⟨r', by simp [Instr.findKey, run_underlying hd, g1], g2⟩
    · cases he with
      | nil =>
        simp only [findEntry, Option.some.injEq] at h
        subst h
        exact ⟨none, by simp [Instr.findKey, run_underlying hu, Instr.findNow], rfl⟩
      | @cons e e' es es' h1 h2 =>
        obtain ⟨r', g1, g2⟩ := findAsking_flat hu hks W (All2.cons h1 h2) 0 r h
        refine ⟨r', ?_, g2⟩
        have hn : Instr.findNow (.struct fs) key (e' :: es') 0 = none := by
          simp [Instr.findNow, Instr.sameNow]
        simp [Instr.findKey, run_underlying hu, hn, g1]
  · cases h
end
end Go.AM

/-
  The operations that only read memory.
-/
namespace Go.AM

section
variable {P : Program} {μ : Mu} {tm : Tm} {ρ : Operand → Value} {σ : H} {W : World}

theorem natBeq (a b : Nat) : (a == b) = Nat.beq a b := by
  rw [Bool.eq_iff_iff, beq_iff_eq]
  exact ⟨fun h => by rw [h]; simp, Nat.eq_of_beq_eq_true⟩

theorem single_some {α β : Type} {f : α → Option β} {l : List α} {b : β} (h : single f l = some b) : ∃ a, l = [a] ∧ f a = some b := by
  unfold single at h
  split at h
  · exact ⟨_, rfl, h⟩
  · cases h

theorem two_some {α β : Type} {f : α → α → Option β} {l : List α} {b : β} (h : two f l = some b) : ∃ a c, l = [a, c] ∧ f a c = some b := by
  unfold two at h
  split at h
  · exact ⟨_, _, rfl, h⟩
  · cases h

/-- A single cell is read. -/
theorem cell_run (hs : Sim P μ σ W) {a : Addr} {b s : Nat} {op : Option Nat} {cs : List Value} {o1 o2 : Bool} {v : Value} (hg : σ.get a.block = some (.row cs o1 o2)) (hv : cs[a.off]? = some v) (hm : μ a.block = some ⟨b, s, op⟩) :
    ∃ v', W.cell? ⟨b, s + a.off, none⟩ = some v' ∧ VRel μ v v' := by
  obtain ⟨l, h1, pre, mid, post, e, fz, h2, h3, h4, h5, h6, h7⟩ := hs.obj _ _ hg
  rw [hm] at h1; cases h1
  simp only at h2 h3
  obtain ⟨v', h8, h9⟩ := h4.get hv
  refine ⟨v', ?_, h9⟩
  rw [← h3, cell_at h2 _ (List.getElem?_eq_some_iff.1 h8).1, h8]

theorem bytes_loop : ∀ (cs cs' : List Value) (l : List UInt8), b2sL cs = some l → All2 (VRel μ) cs cs' → ∀ (acc : ByteArray),
    (forIn cs' acc fun c (s : ByteArray) => (match c with | .int .u8 n => pure (ForInStep.yield (s.push (UInt8.ofNat n.toNat))) | _ => do stuck (α := PUnit) "bytesToString: byte expected"; pure (ForInStep.yield s) : Sem (ForInStep ByteArray))).run P W = .ok ⟨⟨acc.data.toList ++ l⟩⟩ W
  | [], _, l, h, .nil, acc => by
    simp only [b2sL, Option.some.injEq] at h
    subst h
    have : acc = ⟨⟨acc.data.toList⟩⟩ := by cases acc; rfl
    simp
  | c :: cs, _ :: cs', l, h, .cons h1 h2, acc => by
    have hc : ∃ n, c = .int .u8 n := by
      unfold b2sL at h
      split at h <;> first
        | (rename_i e; cases e; done)
        | (rename_i e; cases e; exact ⟨_, rfl⟩)
        | cases h
    obtain ⟨n, rfl⟩ := hc
    simp only [b2sL, Option.map_eq_some_iff] at h
    obtain ⟨r, hr, rfl⟩ := h
    rw [r_int h1]
    have ih := bytes_loop cs cs' r hr h2 (acc.push (UInt8.ofNat n.toNat))
    simp only [List.forIn_cons, Sem.run_bind, Sem.run_pure, Result.andThen_ok, ih]
    congr 1
    simp

theorem runes_loop : ∀ (cs cs' : List Value) (l : List UInt8), r2sL cs = some l → All2 (VRel μ) cs cs' → ∀ (acc : ByteArray),
    (forIn cs' acc fun c (s : ByteArray) => (match c with | .int .i32 n => pure (ForInStep.yield (s ++ Utf8.encode n)) | _ => do stuck (α := PUnit) "runesToString: rune expected"; pure (ForInStep.yield s) : Sem (ForInStep ByteArray))).run P W = .ok ⟨⟨acc.data.toList ++ l⟩⟩ W
  | [], _, l, h, .nil, acc => by
    simp only [r2sL, Option.some.injEq] at h
    subst h
    simp
  | c :: cs, _ :: cs', l, h, .cons h1 h2, acc => by
    have hc : ∃ n, c = .int .i32 n := by
      unfold r2sL at h
      split at h <;> first
        | (rename_i e; cases e; done)
        | (rename_i e; cases e; exact ⟨_, rfl⟩)
        | cases h
    obtain ⟨n, rfl⟩ := hc
    simp only [r2sL, Option.map_eq_some_iff] at h
    obtain ⟨r, hr, rfl⟩ := h
    rw [r_int h1]
    have ih := runes_loop cs cs' r hr h2 (acc ++ Utf8.encode n)
    simp only [List.forIn_cons, Sem.run_bind, Sem.run_pure, Result.andThen_ok, ih]
    congr 1
    simp

theorem b2s_run {cs cs' : List Value} {l : List UInt8} (h : b2sL cs = some l) (hr : All2 (VRel μ) cs cs') {a : Addr} {len c : Nat} (hl : (loadCells a len).run P W = .ok ⟨cs'⟩ W) : (Conv.bytesToString (.slice (some a) len c)).run P W = .ok (.string ⟨⟨l⟩⟩) W := by
  have := bytes_loop (P := P) (W := W) cs cs' l h hr ByteArray.empty
  simp only [Conv.bytesToString, Sem.run_bind, hl, Result.andThen_ok]
  rw [← Array.forIn_toList]
  exact (congrArg (fun r : Result ByteArray => r.andThen fun a w' => Sem.run P (pure (Value.string a)) w') this).trans rfl

theorem r2s_run {cs cs' : List Value} {l : List UInt8} (h : r2sL cs = some l) (hr : All2 (VRel μ) cs cs') {a : Addr} {len c : Nat} (hl : (loadCells a len).run P W = .ok ⟨cs'⟩ W) : (Conv.runesToString (.slice (some a) len c)).run P W = .ok (.string ⟨⟨l⟩⟩) W := by
  have := runes_loop (P := P) (W := W) cs cs' l h hr ByteArray.empty
  simp only [Conv.runesToString, Sem.run_bind, hl, Result.andThen_ok]
  rw [← Array.forIn_toList]
  exact (congrArg (fun r : Result ByteArray => r.andThen fun a w' => Sem.run P (pure (Value.string a)) w') this).trans rfl

theorem inv_map {L : Nat} {v' : Value} (h : VRel μ (.map (some L)) v') : ∃ b o, μ L = some ⟨b, 0, o⟩ ∧ v' = .map (some b) := by
  cases h; exact ⟨_, _, by assumption, rfl⟩

theorem map_obj (hs : Sim P μ σ W) {L : Nat} {es : List (Value × Value × Nat)} {clock : Nat} (hg : σ.get L = some (.map es clock)) {b : Nat} {o : Option Nat} (hm : μ L = some ⟨b, 0, o⟩) :
    ∃ es' : Array MapEntry, W.heap[b]? = some (.map es' clock) ∧ All2 (EntRel μ) es es'.toList := by
  obtain ⟨l, h1, _, es', h2, h3⟩ := hs.obj _ _ hg
  rw [hm] at h1; cases h1
  exact ⟨es', h2, h3⟩

theorem run_getObj {r : Nat} {o : Obj} (h : W.heap[r]? = some o) (hn : ∀ c e f, o ≠ .cells c e f) : (getObj r).run P W = .ok o W := by
  cases o <;> first | (exact absurd rfl (hn _ _ _)) | simp only [getObj, Sem.run, h]

theorem read_run_op (hs : Sim P μ σ W) {o : Oper} {a : AOp} (hc : cOp P o = some a) (hcl : a.cls = .read) (hρ : ∀ x ∈ allOpds a, VRel μ (ev tm x) (ρ x)) {v : Value} (hv : aread σ tm a = some v) :
    ∃ v', (execOp ρ o).run P W = .ok (.value v') W ∧ VRel μ v v' := by
  obtain ⟨dst, op, type, pos, after, guard⟩ := o
  unfold cOp at hc
  have kill : ∀ {b : AOp}, b.cls ≠ .read → a = b → False := by rintro b hb rfl; exact hb hcl
  cases op <;> simp only [reduceCtorEq, Option.map_eq_some_iff, Option.some.injEq] at hc
  case load t x =>
    obtain ⟨g, hg, rfl⟩ := hc
    obtain ⟨ha, i, hi, hn, _⟩ := aggOf_run hg W
    have h1 := hρ x (by simp [allOpds])
    simp only [aread] at hv
    generalize ev tm x = X at hv h1
    cases X <;> try (simp only [reduceCtorEq] at hv; done)
    rename_i p
    cases p with
    | none => simp only [reduceCtorEq] at hv
    | some p =>
      obtain ⟨b, s, o, hsp, hm, hX⟩ := inv_ptr h1
      cases g with
      | some n =>
        have := hn n rfl; subst this
        simp only [Option.map_eq_some_iff] at hv
        obtain ⟨cs, hr, rfl⟩ := hv
        obtain ⟨r', g1, g2, g3, _⟩ := read_run (P := P) hs hr hm rfl
        refine ⟨.agg ⟨r'⟩, ?_, VRel.aggOf g2 g3⟩
        simp [execOp, Instr.loadAt, hX, Instr.sureAddr, loadVar, ha, run_sizeO hi, g1]
      | none =>
        simp only at hv
        split at hv
        · rename_i cs o1 o2 hgr
          obtain ⟨v', g1, g2⟩ := cell_run hs hgr hv hm
          refine ⟨v', ?_, g2⟩
          simp [execOp, Instr.loadAt, hX, Instr.sureAddr, loadVar, ha, g1]
        · cases hv
  case lookup t x i ok =>
    cases hk : AM.keyOf P t with
    | none => simp [hk] at hc
    | some e =>
      obtain ⟨ek, e⟩ := e
      simp only [hk, Option.map_eq_some_iff] at hc
      obtain ⟨z, hz, rfl⟩ := hc
      obtain ⟨k, hu, hkk⟩ := keyOf_some hk
      obtain ⟨hzr, hzp, _⟩ := run_zeroO hz W
      have hzv := plainV_rel μ (plainZ_V hzp)
      have h1 := hρ x (by simp [allOpds])
      have h2 := hρ i (by simp [allOpds])
      simp only [aread] at hv
      generalize ev tm x = X at hv h1
      generalize ev tm i = I at hv h2
      have fin : ∀ (q q' : Value) (b : Bool), VRel μ q q' → (bif ok then Value.tuple #[q, .bool b] else q) = v → VRel μ v (if ok then .tuple #[q', .bool b] else q') := by
        intro q q' b hq e
        cases ok with
        | true => simp only [cond_true] at e; rw [← e]; exact VRel.tupleOf (.cons hq (.cons (.bool _) .nil))
        | false => simp only [cond_false] at e; rw [← e]; exact hq
      cases X <;> try (simp only [reduceCtorEq] at hv; done)
      rename_i p
      cases p with
      | none =>
        simp only at hv
        split at hv
        · rename_i c hc'
          simp only [Option.some.injEq] at hv
          have hX : ρ x = .map none := by generalize ρ x = X' at h1; cases h1; rfl
          have hkk' : ρ i = I := (aeq_keys hkk hc' h2 h2).1
          have hchk := checkKey_run hkk hc' true W
          have hf : ∃ r', (Instr.findKey k I []).run P W = .ok r' W ∧ Found [] [] μ I 0 none r' := by
            have : findKeyA ek I [] = some none := by simp [findKeyA, hc', findEntry]
            have hI : VRel μ I I := by rw [hkk'] at h2; exact h2
            exact (findKey_run hkk hI (All2.nil) this W).2.2
          obtain ⟨r', g1, rfl⟩ := hf
          refine ⟨_, ?_, fin z z false hzv hv⟩
          simp [execOp, Instr.lookup, run_underlying hu, hX, hkk', hchk, g1, hzr]
        · cases hv
      | some L =>
        obtain ⟨b, o, hm, hX⟩ := inv_map h1
        simp only at hv
        split at hv
        · rename_i es clock hg
          obtain ⟨es', he, hr⟩ := map_obj hs hg hm
          have hgo := run_getObj (P := P) he (by simp)
          cases hf : findKeyA ek I es with
          | none => rw [hf] at hv; simp at hv
          | some r =>
            obtain ⟨hkk', hchk, r', g1, g2⟩ := findKey_run hkk h2 hr hf W
            cases r with
            | none =>
              simp only [hf, Option.some.injEq] at hv
              have g2' : r' = none := g2
              subst g2'
              refine ⟨_, ?_, fin z z false hzv hv⟩
              simp [execOp, Instr.lookup, run_underlying hu, hX, hgo, hchk, g1, hzr]
            | some q =>
              obtain ⟨j, w, bn⟩ := q
              simp only [hf, Option.some.injEq] at hv
              obtain ⟨v', q1, q2, rfl, g4, _⟩ := g2
              refine ⟨_, ?_, fin w v' true g4 hv⟩
              simp [execOp, Instr.lookup, run_underlying hu, hX, hgo, hchk, g1]
        · cases hv
  case entry x =>
    subst hc
    have h1 := hρ x (by simp [allOpds])
    simp only [aread] at hv
    generalize ev tm x = X at hv h1
    split at hv
    · rename_i L
      obtain ⟨b, s, o, hsp, hm, hX⟩ := inv_ptr h1
      simp only [Nat.add_zero] at hX hm
      split at hv
      · rename_i M since seen last hgi
        split at hv
        · rename_i es clock stamp hgm hst
          cases hcl' : Nat.beq clock last with
          | false => simp [hcl'] at hv
          | true =>
            simp only [hcl', cond_true] at hv
            have hce := Nat.eq_of_beq_eq_true hcl'
            split at hv
            · rename_i en hfind
              simp only [Option.some.injEq] at hv
              obtain ⟨l, q1, hs0, m', q2, q3⟩ := hs.obj _ _ hgi
              rw [hm] at q1; cases q1
              simp only at hs0 q2
              subst hs0
              obtain ⟨bm, om, hmm, hMv⟩ := inv_map q3
              cases hMv
              obtain ⟨es', he, hr⟩ := map_obj hs hgm hmm
              have go1 := run_getObj (P := P) q2 (by simp)
              have go2 := run_getObj (P := P) he (by simp)
              -- the entry
              have hfe : ∀ (l : List (Value × Value × Nat)) (l' : List MapEntry), All2 (EntRel μ) l l' → l.find? (fun e => Nat.beq e.2.2 stamp) = some en → ∃ e', l'.find? (fun e => e.born == stamp) = some e' ∧ EntRel μ en e' := by
                intro l l' hll
                induction hll with
                | nil => intro h; simp at h
                | @cons x y l l' k1 _ ih =>
                  intro h
                  rw [List.find?_cons] at h
                  rw [List.find?_cons]
                  have hb : (y.born == stamp) = Nat.beq x.2.2 stamp := by
                    rw [← k1.2.2, natBeq]
                  rw [hb]
                  cases hq : Nat.beq x.2.2 stamp with
                  | true => rw [hq] at h; simp only [Option.some.injEq] at h; subst h; exact ⟨y, rfl, k1⟩
                  | false => rw [hq] at h; exact ih h
              obtain ⟨e', f1, f2⟩ := hfe es es'.toList hr hfind
              rw [← hv]
              refine ⟨.tuple #[e'.key, e'.val], ?_, VRel.tupleOf (.cons f2.1 (.cons f2.2.1 .nil))⟩
              have hback : (⟨seen⟩ : Array Nat).back? = some stamp := by simpa using hst
              have hfa : es'.find? (fun e => e.born == stamp) = some e' := by rw [← Array.find?_toList]; exact f1
              simp [execOp, Instr.entry, hX, go1, hback, go2, hce, hfa]
            · cases hv
        · cases hv
      · cases hv
    · cases hv
  case convert s d x =>
    cases hsu : P.underlying s with
    | none => simp [hsu] at hc
    | some sd =>
      cases hd : P.underlying d with
      | none => simp [hsu, hd] at hc
      | some dd =>
        simp only [hsu, hd] at hc
        cases sd <;> cases dd <;> try simp only [reduceCtorEq, Option.some.injEq] at hc
        case int.int => exact (kill (by simp [AOp.cls]) hc.symm).elim
        case int.string => exact (kill (by simp [AOp.cls]) hc.symm).elim
        case string.string => exact (kill (by simp [AOp.cls]) hc.symm).elim
        case string.slice e =>
          split at hc <;> simp only [Option.some.injEq, reduceCtorEq] at hc <;> exact (kill (by simp [AOp.cls]) hc.symm).elim
        case slice.string e =>
          have h0 : ∃ k ck, P.underlying e = some (.int k) ∧ a = .rd2s ck x ∧ ((k = .u8 ∧ ck = .b2s) ∨ (k = .i32 ∧ ck = .r2s)) := by
            split at hc <;> simp only [Option.some.injEq, reduceCtorEq] at hc
            · rename_i he; exact ⟨_, _, he, hc.symm, .inl ⟨rfl, rfl⟩⟩
            · rename_i he; exact ⟨_, _, he, hc.symm, .inr ⟨rfl, rfl⟩⟩
          obtain ⟨k, ck, he, rfl, hkc⟩ := h0
          have h1 := hρ x (by simp [allOpds])
          simp only [aread] at hv
          generalize ev tm x = X at hv h1
          cases X <;> try (simp only [reduceCtorEq] at hv; done)
          rename_i p n c
          cases p with
          | none =>
            simp only [Option.some.injEq] at hv
            have hX : ρ x = .slice none n c := by generalize ρ x = X' at h1; cases h1; rfl
            rw [← hv]
            refine ⟨.string .empty, ?_, .string _⟩
            rcases hkc with ⟨rfl, rfl⟩ | ⟨rfl, rfl⟩
            · simp [execOp, convert, run_underlying hsu, run_underlying hd, hX, run_underlying he, Conv.bytesToString]
            · simp [execOp, convert, run_underlying hsu, run_underlying hd, hX, run_underlying he, Conv.runesToString]
          | some p =>
            simp only at hv
            split at hv
            · rename_i cs hr
              have hX : ∃ A c' cs', ρ x = .slice (some A) n c' ∧ (loadCells A n).run P W = .ok ⟨cs'⟩ W ∧ All2 (VRel μ) cs cs' := by
                rcases inv_slice' h1 with ⟨b, s, hs', hm, hX⟩ | ⟨b, s, N, e', c', hs', hm, _, _, hX⟩ | ⟨rfl, rfl, A, hX⟩
                · obtain ⟨r', g1, g2, _, _⟩ := read_run (P := P) hs hr hm rfl; exact ⟨_, _, r', hX, g1, g2⟩
                · obtain ⟨r', g1, g2, _, _⟩ := read_run (P := P) hs hr hm rfl; exact ⟨_, _, r', hX, g1, g2⟩
                · refine ⟨A, 0, [], hX, rfl, ?_⟩
                  have : cs = [] := by
                    unfold H.read at hr
                    split at hr
                    · have := (takeAt_some hr).2; exact List.eq_nil_of_length_eq_zero this
                    · cases hr
                  rw [this]; exact .nil
              obtain ⟨A, c', cs', hX, hl, hrel⟩ := hX
              rcases hkc with ⟨rfl, rfl⟩ | ⟨rfl, rfl⟩
              · simp only [Option.map_eq_some_iff] at hv
                obtain ⟨l, hl', rfl⟩ := hv
                refine ⟨_, ?_, .string _⟩
                simp [execOp, convert, run_underlying hsu, run_underlying hd, hX, run_underlying he, b2s_run hl' hrel hl]
              · simp only [Option.map_eq_some_iff] at hv
                obtain ⟨l, hl', rfl⟩ := hv
                refine ⟨_, ?_, .string _⟩
                simp [execOp, convert, run_underlying hsu, run_underlying hd, hX, run_underlying he, r2s_run hl' hrel hl]
            · cases hv
  case call c =>
    obtain ⟨callee, args, argTypes⟩ := c
    cases callee with
    | value f => simp only [Option.some.injEq] at hc; exact (kill (by simp [AOp.cls]) hc.symm).elim
    | invoke r m => simp at hc
    | builtin b =>
      simp only at hc
      unfold cBuiltin at hc
      cases b <;> try (simp only [reduceCtorEq] at hc; done)
      case len =>
        obtain ⟨t, ht, hc⟩ := single_some hc
        obtain ⟨x, hx, hc⟩ := single_some hc
        have hargs : (args.map ρ) = ⟨args.toList.map ρ⟩ := by apply Array.ext'; simp
        have hat : argTypes[0]? = some t := by
          have : argTypes.toList[0]? = some t := by rw [ht]; rfl
          simpa using this
        have hax : (args.map ρ)[0]? = some (ρ x) := by rw [hargs, hx]; rfl
        cases hu : P.underlying t with
        | none => simp [cLen, hu] at hc
        | some d =>
          simp only [cLen, hu] at hc
          cases d <;> simp only [reduceCtorEq, Option.some.injEq] at hc
          case string => exact (kill (by simp [AOp.cls]) hc.symm).elim
          case slice => exact (kill (by simp [AOp.cls]) hc.symm).elim
          case array => exact (kill (by simp [AOp.cls]) hc.symm).elim
          case map k e =>
            subst hc
            have go : ∀ q : Value, (Builtin.len_ argTypes type (args.map ρ)).run P W = .ok q W → (execOp ρ ⟨dst, .call ⟨.builtin .len, args, argTypes⟩, type, pos, after, guard⟩).run P W = .ok (.value q) W := by
              intro q h
              simp only [execOp, resolve, invoke, Sem.run_bind, Sem.run_pure, Result.andThen_ok, builtin, h]
            have h1 := hρ x (by simp [allOpds])
            simp only [aread] at hv
            generalize ev tm x = X at hv h1
            cases X <;> try (simp only [reduceCtorEq] at hv; done)
            rename_i p
            cases p with
            | none =>
              simp only [Option.some.injEq] at hv
              have hX : ρ x = .map none := by generalize ρ x = X' at h1; cases h1; rfl
              rw [← hv]
              refine ⟨_, go _ ?_, .int _ _⟩
              simp only [Builtin.len_, hat, hax, Sem.run_bind, run_underlying hu, Result.andThen_ok, hX]; rfl
            | some L =>
              obtain ⟨b, o, hm, hX⟩ := inv_map h1
              simp only at hv
              split at hv
              · rename_i es clock hg
                simp only [Option.some.injEq] at hv
                obtain ⟨es', he, hr⟩ := map_obj hs hg hm
                have hgo := run_getObj (P := P) he (by simp)
                rw [← hv]
                refine ⟨.int .i64 es.length, go _ ?_, .int _ _⟩
                have hlen : es'.size = es.length := by rw [← Array.length_toList]; exact hr.length_eq.symm
                simp only [Builtin.len_, hat, hax, Sem.run_bind, run_underlying hu, Result.andThen_ok, hX, hgo, hlen]; rfl
              · cases hv
      case append =>
        obtain ⟨t, u, ht, hc⟩ := two_some hc
        obtain ⟨s, x, hx, hc⟩ := two_some hc
        unfold cAppend at hc
        split at hc
        · split at hc <;> simp only [Option.some.injEq, reduceCtorEq] at hc <;> exact (kill (by simp [AOp.cls]) hc.symm).elim
        · cases hc
      case copy =>
        obtain ⟨t, u, ht, hc⟩ := two_some hc
        obtain ⟨s, x, hx, hc⟩ := two_some hc
        simp only [Option.map_eq_some_iff] at hc
        obtain ⟨e, _, hc⟩ := hc; exact (kill (by simp [AOp.cls]) hc.symm).elim
      case clear =>
        obtain ⟨t, ht, hc⟩ := single_some hc
        obtain ⟨x, hx, hc⟩ := single_some hc
        unfold cClear at hc
        split at hc <;> simp only [Option.some.injEq, reduceCtorEq, Option.map_eq_some_iff] at hc
        · exact (kill (by simp [AOp.cls]) hc.symm).elim
        · obtain ⟨z, _, hc⟩ := hc; exact (kill (by simp [AOp.cls]) hc.symm).elim
      case delete =>
        obtain ⟨t, u, ht, hc⟩ := two_some hc
        obtain ⟨s, x, hx, hc⟩ := two_some hc
        simp only [Option.map_eq_some_iff] at hc
        obtain ⟨e, _, hc⟩ := hc; exact (kill (by simp [AOp.cls]) hc.symm).elim
      case max => simp only [Option.some.injEq] at hc; exact (kill (by simp [AOp.cls]) hc.symm).elim
      case min => simp only [Option.some.injEq] at hc; exact (kill (by simp [AOp.cls]) hc.symm).elim
  case makeMap t r =>
    cases r <;> simp only [reduceCtorEq] at hc
    split at hc <;> simp only [Option.some.injEq, reduceCtorEq] at hc
    exact (kill (by simp [AOp.cls]) hc.symm).elim
  all_goals (first
    | exact (kill (by simp [AOp.cls]) hc.symm).elim
    | (obtain ⟨_, _, hc⟩ := hc; exact (kill (by simp [AOp.cls]) hc.symm).elim)
    | ((try simp only [Bool.cond_eq_ite] at hc)
       (repeat' split at hc) <;> first
         | (cases hc; done)
         | (simp only [Option.some.injEq] at hc; exact (kill (by simp [AOp.cls]) hc.symm).elim)
         | (simp only [Option.map_eq_some_iff] at hc; obtain ⟨_, _, hc⟩ := hc; exact (kill (by simp [AOp.cls]) hc.symm).elim)))
end
end Go.AM

