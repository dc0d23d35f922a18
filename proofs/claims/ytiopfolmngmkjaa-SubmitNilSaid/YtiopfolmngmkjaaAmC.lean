/-
  The abstract machine: new memory and acts are sound.
-/
import Derived.Test.YtiopfolmngmkjaaAmB
/-
  The operations that make new memory.
-/
namespace Go.AM

theorem wrap_small {n : Int} (h0 : 0 ≤ n) (h1 : n < 9223372036854775808) : IntKind.i64.wrap n = n := by
  have h : n % (2 ^ IntKind.i64.bits : Int) = n := by
    show n % (2 ^ 64 : Int) = n
    omega
  unfold IntKind.wrap
  simp only [h]
  rw [if_neg]
  show ¬ ((true && decide (n ≥ (2 ^ (64 - 1) : Int))) = true)
  simp
  omega

theorem push_modify {α : Type} (a : Array α) (x : α) (f : α → α) : (a.push x).modify a.size f = a.push (f x) := by
  apply Array.ext_getElem?
  intro i
  rw [Array.getElem?_modify, Array.getElem?_push, Array.getElem?_push]
  by_cases h : i = a.size
  · subst h; simp
  · rw [if_neg (by omega), if_neg h, if_neg h]

theorem repeat_range (z : Array Value) (m : Nat) (hm : z.size = m) (hp : 0 < m) : ∀ k, (Array.range (k * m)).map (fun i => z[i % z.size]!) = ⟨repeatL z.toList k⟩ := by
  intro k
  apply Array.ext'
  simp only [Array.toList_map, Array.toList_range]
  induction k with
  | zero => simp [repeatL]
  | succ k ih =>
    rw [Nat.succ_mul, Nat.add_comm, List.range_add, List.map_append, List.map_map, repeatL]
    congr 1
    · apply List.ext_getElem?
      intro i
      by_cases hi : i < m
      · have : i % z.size = i := by rw [hm]; exact Nat.mod_eq_of_lt hi
        rw [List.getElem?_map, List.getElem?_range hi, Option.map_some, this]
        have h3 : i < z.size := by omega
        rw [getElem!_pos z i h3]
        simp [h3]
      · have h1 : z.toList[i]? = none := by simp; omega
        have h2 : ((List.range m).map fun i => z[i % z.size]!)[i]? = none := by simp; omega
        rw [h1, h2]
    · rw [← ih]
      apply List.map_congr_left
      intro i _
      simp only [Function.comp]
      rw [hm, Nat.add_mod_left]

theorem repeatL_mem {l : List Value} {Q : Value → Prop} (h : ∀ v ∈ l, Q v) : ∀ k, ∀ v ∈ repeatL l k, Q v
  | 0, v, hv => by simp [repeatL] at hv
  | k + 1, v, hv => by
    simp only [repeatL, List.mem_append] at hv
    rcases hv with h1 | h1
    · exact h v h1
    · exact repeatL_mem h k v h1

theorem repeatL_length (l : List Value) : ∀ k, (repeatL l k).length = k * l.length
  | 0 => by simp [repeatL]
  | k + 1 => by simp [repeatL, repeatL_length l k, Nat.succ_mul, Nat.add_comm]

section
variable {P : Program} {μ : Mu} {tm : Tm} {ρ : Operand → Value} {σ : H} {W : World}

theorem elemO_some {t e : TypeId} {i : TypeInfo} (h : elemO P t = some (e, i)) : P.underlying t = some (.slice e) ∧ P.info? e = some i ∧ 1 ≤ i.size ∧ i.bytes ≤ 1048576 := by
  unfold elemO at h
  split at h
  · rename_i e' hu
    cases hi : P.info? e' with
    | none => simp [hi] at h
    | some j =>
      cases hb : (Nat.ble 1 j.size && Nat.ble j.bytes 1048576) with
      | false => simp [hi, hb] at h
      | true =>
        simp only [hi, hb, cond_true, Option.some.injEq, Prod.mk.injEq] at h
        obtain ⟨rfl, rfl⟩ := h
        rw [Bool.and_eq_true] at hb
        exact ⟨hu, hi, Nat.le_of_ble_eq_true hb.1, Nat.le_of_ble_eq_true hb.2⟩
  · cases h

/-- A row that has just been made. -/
theorem newRow_rel {μ' : Mu} {W' : World} {b : Nat} {cs cs' : List Value} {e : TypeId} (hW : W'.heap[b]? = some (.cells ⟨cs'⟩ e (0, 0))) (hr : All2 (VRel μ') cs cs') (ho : ∀ v ∈ cs, oc v = true) : ORel P μ' W' (.row cs false false) ⟨b, 0, none⟩ :=
  ⟨[], cs', [], e, (0, 0), by simpa using hW, rfl, hr, ho, fun _ i _ => by simp, rfl⟩

/-- What is made, and where. -/
structure Made (P : Program) (μ : Mu) (W W' : World) (L : Nat) (o : AObj) (v v' : Value) (l : Loc) (ob : Obj) : Prop where
  heap : W'.heap = W.heap.push ob
  os : W'.os = W.os
  tape : W'.tape = W.tape
  output : W'.output = W.output
  blk : l.blk = W.heap.size
  obj : ORel P (μ.up L l) W' o l
  val : VRel (μ.up L l) v v'
  ro : roOf o = false

theorem push_get (W : World) (ob : Obj) (W' : World) (h : W'.heap = W.heap.push ob) : W'.heap[W.heap.size]? = some ob := by rw [h]; simp

theorem made_row {L : Nat} (hL : μ L = none) {cs cs' : List Value} {e : TypeId} (hr : All2 (VRel μ) cs cs') (ho : ∀ v ∈ cs, oc v = true) : Made P μ W { W with heap := W.heap.push (.cells ⟨cs'⟩ e) } L (.row cs false false) (.pointer (some ⟨L, 0, none⟩)) (.pointer (some ⟨W.heap.size, 0, none⟩)) ⟨W.heap.size, 0, none⟩ (.cells ⟨cs'⟩ e) where
  heap := rfl
  os := rfl
  tape := rfl
  output := rfl
  blk := rfl
  obj := newRow_rel (push_get W _ _ rfl) (hr.imp fun _ _ h => h.mono (Mu.up_ext hL)) ho
  val := by
    have := VRel.ptr (μ := μ.up L ⟨W.heap.size, 0, none⟩) (i := 0) (Mu.up_same _ _ _)
    simpa using this
  ro := rfl

theorem made_slice {L : Nat} (hL : μ L = none) {cs cs' : List Value} {e : TypeId} (n c : Nat) (hr : All2 (VRel μ) cs cs') (ho : ∀ v ∈ cs, oc v = true) : Made P μ W { W with heap := W.heap.push (.cells ⟨cs'⟩ e) } L (.row cs false false) (.slice (some ⟨L, 0, none⟩) n c) (.slice (some ⟨W.heap.size, 0, none⟩) n c) ⟨W.heap.size, 0, none⟩ (.cells ⟨cs'⟩ e) where
  heap := rfl
  os := rfl
  tape := rfl
  output := rfl
  blk := rfl
  obj := newRow_rel (push_get W _ _ rfl) (hr.imp fun _ _ h => h.mono (Mu.up_ext hL)) ho
  val := by
    have := VRel.slice (μ := μ.up L ⟨W.heap.size, 0, none⟩) (i := 0) (n := n) (c := c) (Mu.up_same _ _ _)
    simpa using this
  ro := rfl

/-- A row with room behind it that nobody knows. -/
theorem made_open {L : Nat} (hL : μ L = none) {cs cs' more : List Value} {e : TypeId} {fz : Nat × Nat} (hfz : ∀ i, i < (cs' ++ more).length → ¬ (fz.1 ≤ i ∧ i < fz.2)) {W' : World} (hW : W'.heap = W.heap.push (.cells ⟨cs' ++ more⟩ e fz)) (ho : W'.os = W.os) (ht : W'.tape = W.tape) (hu : W'.output = W.output)
    (n c c' sz : Nat) (hc : c ≤ c') (hN : c' * sz ≤ (cs' ++ more).length) (hr : All2 (VRel μ) cs cs') (hoc : ∀ v ∈ cs, oc v = true) :
    Made P μ W W' L (.row cs true false) (.slice (some ⟨L, 0, some sz⟩) n c) (.slice (some ⟨W.heap.size, 0, none⟩) n c') ⟨W.heap.size, 0, some (cs' ++ more).length⟩ (.cells ⟨cs' ++ more⟩ e fz) where
  heap := hW
  os := ho
  tape := ht
  output := hu
  blk := rfl
  obj := ⟨[], cs', more, e, fz, by simpa using push_get W _ _ hW, rfl, hr.imp fun _ _ h => h.mono (Mu.up_ext hL), hoc, fun _ i hi => hfz i (by simpa using hi), rfl, rfl⟩
  val := by
    have := VRel.sliceO (μ := μ.up L ⟨W.heap.size, 0, some (cs' ++ more).length⟩) (i := 0) (n := n) (e := sz) (Mu.up_same _ _ _) hc (by simpa using hN)
    simpa using this
  ro := rfl

theorem bytes_one (l : List UInt8) : All2 (VRel μ) (l.map fun b => Value.int .u8 b.toNat) (l.map fun b => Value.int .u8 b.toNat) ∧ ∀ v ∈ (l.map fun b => Value.int .u8 b.toNat), oc v = true := by
  refine ⟨All2.refl fun v hv => ?_, fun v hv => ?_⟩
  · obtain ⟨b, _, rfl⟩ := List.mem_map.1 hv; exact .int _ _
  · obtain ⟨b, _, rfl⟩ := List.mem_map.1 hv; rfl

theorem runesFrom_ints (s : ByteArray) : ∀ (bound i : Nat) (acc : Array Value), (∀ v ∈ acc.toList, ∃ k n, v = .int k n) → ∀ v ∈ (Conv.runesFrom s bound i acc).toList, ∃ k n, v = .int k n
  | 0, _, _, h => h
  | b + 1, i, acc, h => by
    unfold Conv.runesFrom
    split
    · refine runesFrom_ints s b _ _ ?_
      intro v hv
      simp only [Array.toList_push, List.mem_append, List.mem_singleton] at hv
      rcases hv with h1 | h1
      · exact h v h1
      · exact ⟨_, _, h1⟩
    · exact h

theorem runesFrom_size (s : ByteArray) : ∀ (bound i : Nat) (acc : Array Value), (Conv.runesFrom s bound i acc).size ≤ acc.size + bound
  | 0, _, _ => by simp [Conv.runesFrom]
  | b + 1, i, acc => by
    unfold Conv.runesFrom
    split
    · refine Nat.le_trans (runesFrom_size s b _ _) ?_
      simp; omega
    · omega

theorem new_run {o : Oper} {a : AOp} (hc : cOp P o = some a) (hcl : a.cls = .alloc) (hρ : ∀ x ∈ allOpds a, VRel μ (ev tm x) (ρ x)) {L : Nat} (hL : μ L = none) {ob : AObj} {v : Value} (hv : anew tm L a = some (ob, v)) :
    ∃ v' W' l cob, (execOp ρ o).run P W = .ok (.value v') W' ∧ Made P μ W W' L ob v v' l cob := by
  obtain ⟨dst, op, type, pos, after, guard⟩ := o
  unfold cOp at hc
  have kill : ∀ {b : AOp}, b.cls ≠ .alloc → a = b → False := by rintro b hb rfl; exact hb hcl
  cases op <;> simp only [reduceCtorEq, Option.map_eq_some_iff, Option.some.injEq] at hc
  case alloc e =>
    obtain ⟨z, hz, rfl⟩ := hc
    obtain ⟨hzr, hzp, _⟩ := run_zeroO hz W
    obtain ⟨hpl, hcell⟩ := cells_plain hzp
    simp only [anew, Option.some.injEq, Prod.mk.injEq] at hv
    obtain ⟨rfl, rfl⟩ := hv
    refine ⟨_, _, _, _, ?_, made_row (e := e) hL (plain_all2 μ hpl) (fun v hv => plain0_oc (hpl v hv))⟩
    simp only [execOp, Instr.alloc, Sem.run_bind, hzr, Result.andThen_ok, newVar, newRow, run_newObj, Sem.run_pure, hcell]
  case box e x =>
    subst hc
    simp only [anew, Option.some.injEq, Prod.mk.injEq] at hv
    obtain ⟨rfl, rfl⟩ := hv
    have h1 := hρ x (by simp [allOpds])
    generalize ev tm x = X at h1
    rcases h1.cells with ⟨t, rfl⟩ | ⟨h2, h3⟩
    · -- (a tuple: nothing is said of its cells)
      refine ⟨.pointer (some ⟨W.heap.size, 0, none⟩), { W with heap := W.heap.push (.cells (ρ x).cells e) }, ⟨W.heap.size, 0, none⟩, .cells (ρ x).cells e, ?_, ?_⟩
      · simp only [execOp, Instr.box, Sem.run_bind, newVar, newRow, run_newObj, Result.andThen_ok, Sem.run_pure]
      · exact { heap := rfl, os := rfl, tape := rfl, output := rfl, blk := rfl, ro := rfl,
                obj := ⟨[], [], (ρ x).cells.toList, e, (0, 0), by simp, rfl, .nil, by simp [cellsOf], fun _ i _ => by simp, rfl⟩,
                val := by
                  have := VRel.ptr (μ := μ.up L ⟨W.heap.size, 0, none⟩) (i := 0) (Mu.up_same _ _ _)
                  simpa using this }
    · refine ⟨_, _, _, _, ?_, made_row (e := e) hL h2 h3⟩
      simp only [execOp, Instr.box, Sem.run_bind, newVar, newRow, run_newObj, Result.andThen_ok, Sem.run_pure]
  case buildSlice t len ps =>
    cases he : elemO P t with
    | none => simp [he] at hc
    | some e =>
      obtain ⟨e, i⟩ := e
      obtain ⟨hu, hi, h1, h2⟩ := elemO_some he
      cases hz : zeroO P e with
      | none => simp [he, hz] at hc
      | some z =>
        obtain ⟨hzr, hzp, i2, hi2, hzl⟩ := run_zeroO hz W
        rw [hi] at hi2; cases hi2
        obtain ⟨hpl, hcell⟩ := cells_plain hzp
        cases hb : Nat.ble (len * i.size) 16777216 with
        | false => simp [he, hz, hb] at hc
        | true =>
          simp only [he, hz, hb, cond_true, Option.some.injEq] at hc
          subst hc
          have hb' := Nat.le_of_ble_eq_true hb
          simp only [anew, Option.map_eq_some_iff, Prod.mk.injEq] at hv
          obtain ⟨cs, hf, rfl, rfl⟩ := hv
          have hfr := parts_rel_A (μ := μ) (tm := tm) (ρ := ρ) (fun j => some (j * i.size, i.size)) i.size (by omega) (fun _ => rfl) ps.toList (fun x hx => hρ x.2 (by simp only [allOpds, partsA_opds]; exact List.mem_map_of_mem hx))
          obtain ⟨out, g1, g2, g3⟩ := fill_rel hfr hf (plain_all2 μ (repeatL_mem hpl len)) (fun v hv => plain0_oc (repeatL_mem hpl len v hv))
          refine ⟨_, _, _, _, ?_, made_slice (e := e) hL len len g2 g3⟩
          have hzs : z.cells.size = i.size := by rw [hcell]; simpa using hzl
          have hzeros : (if len * i.size = 0 then pure #[] else do pure (← zeroValue e).cells : Sem (Array Value)).run P W = .ok (if len * i.size = 0 then #[] else z.cells) W := by
            split
            · rfl
            · simp only [Sem.run_bind, hzr, Result.andThen_ok]; rfl
          have hrow : (Array.range (len * i.size)).map ((if len * i.size = 0 then #[] else z.cells)[· % (if len * i.size = 0 then #[] else z.cells).size]!) = ⟨repeatL (cellsOf z) len⟩ := by
            by_cases h0 : len * i.size = 0
            · have : len = 0 := by rcases Nat.mul_eq_zero.1 h0 with h | h <;> omega
              subst this
              simp [repeatL]
            · simp only [h0, if_false]
              rw [repeat_range z.cells i.size hzs (by omega) len, hcell]
          simp only [execOp, Instr.buildSlice, Sem.run_bind, run_underlying hu, Result.andThen_ok, run_sizeO hi]
          rw [if_neg (by omega)]
          have hps : (ps.map fun x => (x.1, ρ x.2)).toList = ps.toList.map fun x => (x.1, ρ x.2) := by simp
          by_cases h0 : len * i.size = 0
          · have : len = 0 := by rcases Nat.mul_eq_zero.1 h0 with h | h <;> omega
            subst this
            simp only [h0, if_true] at hrow ⊢
            simp only [Sem.run_bind, Sem.run_pure, Result.andThen_ok]
            rw [hrow, hps, g1]
            simp only [newRow, Sem.run_bind, run_newObj, Result.andThen_ok, Sem.run_pure]
          · simp only [h0, if_false] at hrow ⊢
            simp only [Sem.run_bind, hzr, Sem.run_pure, Result.andThen_ok]
            rw [hrow, hps, g1]
            simp only [newRow, Sem.run_bind, run_newObj, Result.andThen_ok, Sem.run_pure]
  case makeMap t r =>
    cases r <;> simp only [reduceCtorEq] at hc
    split at hc <;> simp only [Option.some.injEq, reduceCtorEq] at hc
    subst hc
    simp only [anew, Option.some.injEq, Prod.mk.injEq] at hv
    obtain ⟨rfl, rfl⟩ := hv
    refine ⟨.map (some W.heap.size), { W with heap := W.heap.push (.map #[] 0) }, ⟨W.heap.size, 0, none⟩, .map #[] 0, ?_, ?_⟩
    · simp [execOp, Instr.makeMap]
    · exact { heap := rfl, os := rfl, tape := rfl, output := rfl, blk := rfl, ro := rfl,
              obj := ⟨rfl, #[], push_get W _ _ rfl, .nil⟩, val := .map (Mu.up_same _ _ _) }
  case makeSlice t l c =>
    cases he : elemO P t with
    | none => simp [he] at hc
    | some e =>
      obtain ⟨e, i⟩ := e
      obtain ⟨hu, hi, h1, h2⟩ := elemO_some he
      simp only [he, Option.map_eq_some_iff] at hc
      obtain ⟨z, hz, rfl⟩ := hc
      obtain ⟨hzr, hzp, i2, hi2, hzl⟩ := run_zeroO hz W
      rw [hi] at hi2; cases hi2
      obtain ⟨hpl, hcell⟩ := cells_plain hzp
      have hl := hρ l (by simp [allOpds])
      have hcc := hρ c (by simp [allOpds])
      simp only [anew] at hv
      generalize ev tm l = X at hv hl
      generalize ev tm c = Y at hv hcc
      cases X <;> cases Y <;> try (simp only [reduceCtorEq] at hv; done)
      rename_i k1 n1 k2 n2
      simp only at hv
      split at hv
      · rename_i hb
        obtain ⟨b1, b2, b3⟩ := hb
        simp only [lim] at b3
        simp only [Option.some.injEq, Prod.mk.injEq] at hv
        obtain ⟨rfl, rfl⟩ := hv
        refine ⟨_, _, _, _, ?_, made_slice (e := e) hL n1.toNat n2.toNat (plain_all2 μ (repeatL_mem hpl n2.toNat)) (fun v hv => plain0_oc (repeatL_mem hpl n2.toNat v hv))⟩
        have hzs : z.cells.size = i.size := by rw [hcell]; simpa using hzl
        have w1 : IntKind.i64.wrap n1 = n1 := wrap_small (by omega) (by omega)
        have w2 : IntKind.i64.wrap n2 = n2 := wrap_small (by omega) (by omega)
        have hmul : (i.bytes : Int) * n2 ≤ 2 ^ 48 := by
          obtain ⟨m, rfl⟩ : ∃ m : Nat, n2 = (m : Int) := ⟨n2.toNat, by omega⟩
          have hm : m ≤ 16777216 := by omega
          have := Nat.mul_le_mul h2 hm
          have h3 : ((i.bytes * m : Nat) : Int) ≤ 2 ^ 48 := by
            have : i.bytes * m ≤ 1048576 * 16777216 := this
            omega
          simpa using h3
        have hzeros : (if n2.toNat * i.size = 0 then pure #[] else do pure (← zeroValue e).cells : Sem (Array Value)).run P W = .ok (if n2.toNat * i.size = 0 then #[] else z.cells) W := by
          split
          · rfl
          · simp only [Sem.run_bind, hzr, Result.andThen_ok]; rfl
        have hrow : (Array.range (n2.toNat * i.size)).map ((if n2.toNat * i.size = 0 then #[] else z.cells)[· % (if n2.toNat * i.size = 0 then #[] else z.cells).size]!) = ⟨repeatL (cellsOf z) n2.toNat⟩ := by
          by_cases h0 : n2.toNat * i.size = 0
          · have : n2.toNat = 0 := by rcases Nat.mul_eq_zero.1 h0 with h | h <;> omega
            rw [this]
            simp [repeatL]
          · simp only [h0, if_false]
            rw [repeat_range z.cells i.size hzs (by omega) n2.toNat, hcell]
        have hcond : ((n2 < 0 || (i.bytes : Int) * n2 > 2 ^ 48) || n1 < 0 || n1 > n2) = false := by
          simp only [Bool.or_eq_false_iff, decide_eq_false_iff_not]
          omega
        simp only [execOp, Instr.makeSlice, Sem.run_bind, run_underlying hu, Result.andThen_ok, r_int hl, r_int hcc, asInt, asIntOf, Sem.run_pure, typeInfo, run_program, hi, w1, w2]
        rw [hcond]
        simp only [Bool.false_eq_true, if_false, Sem.run_bind, run_askRoom, Result.andThen_ok, run_sizeO hi]
        by_cases h0 : n2.toNat * i.size = 0
        · simp only [h0, if_true] at hrow ⊢
          simp only [Sem.run_bind, Sem.run_pure, Result.andThen_ok, hrow, newRow, run_newObj]
        · simp only [h0, if_false] at hrow ⊢
          simp only [Sem.run_bind, hzr, Sem.run_pure, Result.andThen_ok, hrow, newRow, run_newObj]
      · cases hv
  case convert s d x =>
    cases hsu : P.underlying s with
    | none => simp [hsu] at hc
    | some sd =>
      cases hd : P.underlying d with
      | none => simp [hsu, hd] at hc
      | some dd =>
        simp only [hsu, hd] at hc
        cases sd <;> cases dd <;> try simp only [reduceCtorEq, Option.some.injEq] at hc
        case int.int => exact (kill (by simp [AOp.cls]) hc.symm).elim
        case int.string => exact (kill (by simp [AOp.cls]) hc.symm).elim
        case string.string => exact (kill (by simp [AOp.cls]) hc.symm).elim
        case slice.string e =>
          split at hc <;> simp only [Option.some.injEq, reduceCtorEq] at hc <;> exact (kill (by simp [AOp.cls]) hc.symm).elim
        case string.slice e =>
          have hforced : ∀ n, (Question.appendCap n 0 e).forced = false := fun _ => rfl
          split at hc <;> simp only [Option.some.injEq, reduceCtorEq] at hc
          · -- bytes
            rename_i he
            subst hc
            have h1 := hρ x (by simp [allOpds])
            simp only [anew] at hv
            generalize ev tm x = X at hv h1
            cases X <;> try (simp only [reduceCtorEq] at hv; done)
            rename_i str
            simp only at hv
            cases hb : Nat.ble str.data.toList.length lim with
            | false => simp only [hb, cond_false, reduceCtorEq] at hv
            | true =>
              simp only [hb, cond_true, Option.some.injEq, Prod.mk.injEq] at hv
              obtain ⟨rfl, rfl⟩ := hv
              have hlen : str.data.toList.length = str.size := by simp
              obtain ⟨cap, hcap, hle⟩ : ∃ cap, (Question.appendCap str.size 0 e).cut (W.tape W.drawn (.appendCap str.size 0 e)) = cap ∧ str.size ≤ cap := ⟨_, rfl, by simp only [Question.cut]; omega⟩
              obtain ⟨q1, q2⟩ := bytes_one (μ := μ) str.data.toList
              have hm := made_open (P := P) (μ := μ) (W := W) (L := L) hL (cs := str.data.toList.map fun b => Value.int .u8 b.toNat) (cs' := str.data.toList.map fun b => Value.int .u8 b.toNat) (more := List.replicate (cap - str.size) (.int .u8 0)) (e := e) (fz := (cap, cap + 1))
                (by simp; omega)
                (W' := { W with drawn := W.drawn + 1, heap := W.heap.push (.cells ⟨(str.data.toList.map fun b => Value.int .u8 b.toNat) ++ List.replicate (cap - str.size) (.int .u8 0)⟩ e (cap, cap + 1)) }) rfl rfl rfl rfl str.data.toList.length str.data.toList.length cap 1 (by omega) (by simp; omega) q1 q2
              refine ⟨_, _, _, _, ?_, hm⟩
              have hcells : (str.data.map fun b => Value.int .u8 b.toNat) ++ Array.replicate (cap - str.size) (.int .u8 0) = (⟨(str.data.toList.map fun b => Value.int .u8 b.toNat) ++ List.replicate (cap - str.size) (.int .u8 0)⟩ : Array Value) := by
                apply Array.ext'; simp
              have hsz : (⟨(str.data.toList.map fun b => Value.int .u8 b.toNat) ++ List.replicate (cap - str.size) (.int .u8 0)⟩ : Array Value).size = cap := by simp; omega
              simp only [execOp, convert, Sem.run_bind, run_underlying hsu, run_underlying hd, Result.andThen_ok, r_string h1, run_underlying he, Conv.stringToBytes, run_choose, hforced, Bool.false_eq_true, if_false, hcap, newRow, run_newObj, Sem.run_pure, hcells, markStringish, run_shape]
              simp only [World.shape?, Array.getElem?_push_size, hsz, run_freeze, Result.andThen_ok]
              congr 1
              simp only [World.freeze]
              rw [if_neg (by omega)]
              rw [push_modify]
              simp
          · -- runes
            rename_i he
            subst hc
            have h1 := hρ x (by simp [allOpds])
            simp only [anew] at hv
            generalize ev tm x = X at hv h1
            cases X <;> try (simp only [reduceCtorEq] at hv; done)
            rename_i str
            simp only at hv
            cases hb : Nat.ble str.size lim with
            | false => simp only [hb, cond_false, reduceCtorEq] at hv
            | true =>
              simp only [hb, cond_true, Option.some.injEq, Prod.mk.injEq] at hv
              obtain ⟨rfl, rfl⟩ := hv
              generalize hR : Conv.runesFrom str str.size 0 #[] = R
              have hints : ∀ v ∈ R.toList, ∃ k n, v = .int k n := by rw [← hR]; exact runesFrom_ints str str.size 0 #[] (by simp)
              obtain ⟨cap, hcap, hle⟩ : ∃ cap, (Question.appendCap R.size 0 e).cut (W.tape W.drawn (.appendCap R.size 0 e)) = cap ∧ R.size ≤ cap := ⟨_, rfl, by simp only [Question.cut]; omega⟩
              have hm := made_open (P := P) (μ := μ) (W := W) (L := L) hL (cs := R.toList) (cs' := R.toList) (more := List.replicate (cap - R.size) (.int .i32 0)) (e := e) (fz := (0, 0))
                (by simp)
                (W' := { W with drawn := W.drawn + 1, heap := W.heap.push (.cells ⟨R.toList ++ List.replicate (cap - R.size) (.int .i32 0)⟩ e) }) rfl rfl rfl rfl R.toList.length R.toList.length cap 1 (by simp; omega) (by simp; omega)
                (All2.refl fun v hv => by obtain ⟨k, n, rfl⟩ := hints v hv; exact .int _ _) (fun v hv => by obtain ⟨k, n, rfl⟩ := hints v hv; rfl)
              refine ⟨_, _, _, _, ?_, hm⟩
              have hcells : R ++ Array.replicate (cap - R.size) (.int .i32 0) = (⟨R.toList ++ List.replicate (cap - R.size) (.int .i32 0)⟩ : Array Value) := by
                apply Array.ext'; simp
              simp only [execOp, convert, Sem.run_bind, run_underlying hsu, run_underlying hd, Result.andThen_ok, r_string h1, run_underlying he, Conv.stringToRunes, hR, run_choose, hforced, Bool.false_eq_true, if_false, hcap, newRow, run_newObj, Sem.run_pure, hcells]
              congr 1
  case call c =>
    obtain ⟨callee, args, argTypes⟩ := c
    cases callee with
    | value f => simp only [Option.some.injEq] at hc; exact (kill (by simp [AOp.cls]) hc.symm).elim
    | invoke r m => simp at hc
    | builtin b =>
      simp only at hc
      unfold cBuiltin at hc
      cases b <;> try (simp only [reduceCtorEq] at hc; done)
      case len =>
        obtain ⟨t, ht, hc⟩ := single_some hc
        obtain ⟨x, hx, hc⟩ := single_some hc
        unfold cLen at hc
        split at hc <;> simp only [Option.some.injEq, reduceCtorEq] at hc <;> exact (kill (by simp [AOp.cls]) hc.symm).elim
      case append =>
        obtain ⟨t, u, ht, hc⟩ := two_some hc
        obtain ⟨s, x, hx, hc⟩ := two_some hc
        unfold cAppend at hc
        split at hc
        · split at hc <;> simp only [Option.some.injEq, reduceCtorEq] at hc <;> exact (kill (by simp [AOp.cls]) hc.symm).elim
        · cases hc
      case copy =>
        obtain ⟨t, u, ht, hc⟩ := two_some hc
        obtain ⟨s, x, hx, hc⟩ := two_some hc
        simp only [Option.map_eq_some_iff] at hc
        obtain ⟨e, _, hc⟩ := hc; exact (kill (by simp [AOp.cls]) hc.symm).elim
      case clear =>
        obtain ⟨t, ht, hc⟩ := single_some hc
        obtain ⟨x, hx, hc⟩ := single_some hc
        unfold cClear at hc
        split at hc <;> simp only [Option.some.injEq, reduceCtorEq, Option.map_eq_some_iff] at hc
        · exact (kill (by simp [AOp.cls]) hc.symm).elim
        · obtain ⟨z, _, hc⟩ := hc; exact (kill (by simp [AOp.cls]) hc.symm).elim
      case delete =>
        obtain ⟨t, u, ht, hc⟩ := two_some hc
        obtain ⟨s, x, hx, hc⟩ := two_some hc
        simp only [Option.map_eq_some_iff] at hc
        obtain ⟨e, _, hc⟩ := hc; exact (kill (by simp [AOp.cls]) hc.symm).elim
      case max => simp only [Option.some.injEq] at hc; exact (kill (by simp [AOp.cls]) hc.symm).elim
      case min => simp only [Option.some.injEq] at hc; exact (kill (by simp [AOp.cls]) hc.symm).elim
  all_goals (first
    | exact (kill (by simp [AOp.cls]) hc.symm).elim
    | (obtain ⟨_, _, hc⟩ := hc; exact (kill (by simp [AOp.cls]) hc.symm).elim)
    | ((try simp only [Bool.cond_eq_ite] at hc)
       (repeat' split at hc) <;> first
         | (cases hc; done)
         | (simp only [Option.some.injEq] at hc; exact (kill (by simp [AOp.cls]) hc.symm).elim)
         | (simp only [Option.map_eq_some_iff] at hc; obtain ⟨_, _, hc⟩ := hc; exact (kill (by simp [AOp.cls]) hc.symm).elim)))
end
end Go.AM

/-
  The operations that act on memory, without calls.
-/
namespace Go.AM

/-- A value, or none, that is finished with. -/
def NextIs (nx : Next) (v : Value) : Prop := nx = .value v ∨ (nx = .skip ∧ v = undef)

section
variable {P : Program} {μ : Mu} {tm : Tm} {ρ : Operand → Value} {σ : H} {W : World}

/-- What an act comes to. -/
def ActOk (P : Program) (μ : Mu) (σ : H) (W : World) (q : Result Next) (rs : List (Value × H)) : Prop :=
  ∃ r ∈ rs, ∃ nx v' W' μ', q = .ok nx W' ∧ NextIs nx v' ∧ Step P μ σ W μ' r.2 W' ∧ VRel μ' r.1 v'

theorem run_setObj {r : Nat} {o o' : Obj} (h : W.heap[r]? = some o) (hn : ∀ c e f, o ≠ .cells c e f) : (setObj r o').run P W = .ok () { W with heap := W.heap.setIfInBounds r o' } := by
  cases o <;> first | (exact absurd rfl (hn _ _ _)) | simp only [setObj, Sem.run, h]

theorem bytes_beq (s : ByteArray) : (s == s) = true := by rw [beq_toListBytes]; simp

theorem keyStays {k : TypeId} {ek : EK} (hk : KeyK P k ek) {v : Value} {c : Bool} (h : aeq ek v v = some c) : (Instr.keyThatStays v v).run P W = .ok v W := by
  have hb : Instr.sameBits 10000 v v = true := by
    rcases hk with ⟨l, hl, rfl⟩ | ⟨fs, ks, hu, hks, rfl⟩
    · cases l <;> cases v <;> simp only [aeq, leafEq, reduceCtorEq] at h <;> simp [Instr.sameBits, bytes_beq]
    · cases v <;> simp only [aeq, reduceCtorEq] at h
      rename_i xs
      have hall : ∀ (ks : List LK) (l : List Value), flatEq ks l l = some c ∨ True → ∀ c, flatEq ks l l = some c → (l.zip l).all (fun (x, y) => Instr.sameBits 9999 x y) = true := by
        intro ks
        induction ks with
        | nil => intro l _ c hc; cases l <;> simp [flatEq] at hc ⊢
        | cons k ks ih =>
          intro l _ c hc
          cases l with
          | nil => simp
          | cons x l =>
            simp only [flatEq] at hc
            split at hc
            · rename_i a b h1 h2
              simp only [List.zip_cons_cons, List.all_cons, ih l (.inr trivial) b h2, Bool.and_true]
              cases k <;> cases x <;> simp only [leafEq, reduceCtorEq] at h1 <;> simp [Instr.sameBits, bytes_beq]
            · cases hc
      have := hall ks xs.toList (.inr trivial) c h
      show Instr.sameBits (9999 + 1) (.agg xs) (.agg xs) = true
      simp only [Instr.sameBits, beq_self_eq_true, Bool.true_and]
      exact this
  simp [Instr.keyThatStays, hb]

theorem All2.eraseIdx {α β : Type} {R : α → β → Prop} {as : List α} {bs : List β} (h : All2 R as bs) : ∀ n, All2 R (as.eraseIdx n) (bs.eraseIdx n) := by
  induction h with
  | nil => intro n; simpa using All2.nil
  | cons h1 h2 ih => intro n; cases n with
    | zero => simpa using h2
    | succ n => simpa using All2.cons h1 (ih n)

theorem map_put (hs : Sim P μ σ W) {L : Nat} {es : List (Value × Value × Nat)} {clock : Nat} (hg : σ.get L = some (.map es clock)) {b : Nat} {o : Option Nat} (hm : μ L = some ⟨b, 0, o⟩)
    {es2 : List (Value × Value × Nat)} {es2' : Array MapEntry} (c2 : Nat) (he : All2 (EntRel μ) es2 es2'.toList) : Step P μ σ W μ (σ.put L (.map es2 c2)) { W with heap := W.heap.setIfInBounds b (.map es2' c2) } := by
  obtain ⟨l, h1, _, es', h2, h3⟩ := hs.obj _ _ hg
  rw [hm] at h1; cases h1
  refine Step.putObj hs hg rfl rfl hm (fun hsome => ⟨rfl, es2', ?_, he⟩)
  have hlt : b < W.heap.size := (Array.getElem?_eq_some_iff.1 h2).1
  simp [hlt]

theorem sizeP_some {t : TypeId} {n : Nat} (h : sizeP P t = some n) : ∃ i, P.info? t = some i ∧ n = i.size ∧ n ≠ 0 := by
  unfold sizeP at h
  cases hi : P.info? t with
  | none => simp [hi] at h
  | some i =>
    cases hz : Nat.beq i.size 0 with
    | true => simp [hi, hz] at h
    | false =>
      simp only [hi, hz, cond_false, Option.some.injEq] at h
      exact ⟨i, rfl, h.symm, fun e => by rw [← h] at e; rw [e] at hz; simp at hz⟩

theorem act_store {t : TypeId} {a x : Operand} {n : Nat} (hn : sizeP P t = some n) (hs : Sim P μ σ W) (ha : VRel μ (ev tm a) (ρ a)) (hx : VRel μ (ev tm x) (ρ x)) {rs : List (Value × H)} (hv : aact σ tm (.store n a x) = some rs) :
    ActOk P μ σ W ((do Instr.storeAt t (ρ a) (ρ x); pure .skip : Sem Next).run P W) rs := by
  simp only [aact] at hv
  generalize ev tm a = A at hv ha
  generalize ev tm x = X at hv hx
  cases A <;> try (simp only [reduceCtorEq] at hv; done)
  rename_i p
  cases p with
  | none => simp only [reduceCtorEq] at hv
  | some p =>
    simp only at hv
    obtain ⟨i, hi, rfl, hne⟩ := sizeP_some hn
    cases hb : Nat.beq (cellsOf X).length i.size with
    | false => simp only [hb, cond_false, reduceCtorEq] at hv
    | true =>
      simp only [hb, cond_true, Option.map_eq_some_iff] at hv
      obtain ⟨σ', hw, rfl⟩ := hv
      have hlen := Nat.eq_of_beq_eq_true hb
      obtain ⟨b, s, o, hsp, hm, hA⟩ := inv_ptr ha
      rcases hx.cells with ⟨tt, rfl⟩ | ⟨h2, h3⟩
      · exact absurd hlen.symm hne
      · obtain ⟨W', r1, r2⟩ := Step.write (P := P) hs hw hm rfl h2 h3
        refine ⟨_, List.mem_singleton.2 rfl, .skip, undef, W', μ, ?_, .inr ⟨rfl, rfl⟩, r2, undef_rel μ⟩
        have hsz : (ρ x).cells.size = i.size := by rw [← Array.length_toList, ← h2.length_eq]; exact hlen
        simp [Instr.storeAt, hA, Instr.sureAddr, storeVar, run_sizeO hi, hsz, r1]

theorem act_mapUp {t : TypeId} {ek : EK} {e : TypeId} {m k x : Operand} (hk : AM.keyOf P t = some (ek, e)) (hs : Sim P μ σ W) (hm : VRel μ (ev tm m) (ρ m)) (hkr : VRel μ (ev tm k) (ρ k)) (hx : VRel μ (ev tm x) (ρ x)) {rs : List (Value × H)}
    (hv : aact σ tm (.mapUp ek m k x) = some rs) : ActOk P μ σ W ((do Instr.mapUpdate t (ρ m) (ρ k) (ρ x); pure .skip : Sem Next).run P W) rs := by
  obtain ⟨kt, hu, hkk⟩ := keyOf_some hk
  simp only [aact] at hv
  generalize ev tm m = M at hv hm
  generalize ev tm k = K at hv hkr
  generalize ev tm x = X at hv hx
  cases M <;> try (simp only [reduceCtorEq] at hv; done)
  rename_i p
  cases p with
  | none => simp only [reduceCtorEq] at hv
  | some L =>
    obtain ⟨b, o, hml, hM⟩ := inv_map hm
    simp only at hv
    split at hv
    · rename_i es clock hg
      obtain ⟨es', he, hr⟩ := map_obj hs hg hml
      have hgo := run_getObj (P := P) he (by simp)
      cases hf : findKeyA ek K es with
      | none => rw [hf] at hv; simp at hv
      | some r =>
        obtain ⟨hkk', hchk, r', g1, g2⟩ := findKey_run hkk hkr hr hf W
        have hK : VRel μ K K := by rw [hkk'] at hkr; exact hkr
        cases r with
        | none =>
          simp only [hf, Option.some.injEq] at hv
          subst hv
          have g2' : r' = none := g2
          subst g2'
          refine ⟨_, List.mem_singleton.2 rfl, .skip, undef, _, μ, ?_, .inr ⟨rfl, rfl⟩, map_put (P := P) (W := W) hs hg hml (es2' := es'.push { key := K, val := ρ x, born := clock }) (clock + 1) (by
            rw [Array.toList_push]; exact hr.append (.cons ⟨hK, hx, rfl⟩ .nil)), undef_rel μ⟩
          rw [hM, hkk'] at *
          simp [Instr.mapUpdate, run_underlying hu, hgo, hchk, g1, run_setObj (P := P) he (by simp)]
        | some q =>
          obtain ⟨j, w, bn⟩ := q
          simp only [hf, Option.some.injEq] at hv
          subst hv
          obtain ⟨v', q1, q2, rfl, g4, _, g5, g6, rfl, g8⟩ := g2
          simp only [Nat.sub_zero] at g5 g6
          have hborn : q2.born = bn := by
            obtain ⟨q3, g9, g10⟩ := hr.get g5
            rw [g6] at g9; cases g9; exact g10.2.2.symm
          have hst : ∃ c, aeq ek K K = some c := by
            unfold findKeyA at hf
            split at hf
            · rename_i c hc; exact ⟨c, hc⟩
            · cases hf
          obtain ⟨c, hc⟩ := hst
          have hmod : (es'.modify j fun e => { e with key := K, val := ρ x }).toList = es'.toList.set j { key := K, val := ρ x, born := bn } := by
            apply List.ext_getElem?
            intro i
            have h6 : es'[j]? = some q2 := by simpa using g6
            rw [List.getElem?_set, Array.getElem?_toList, Array.getElem?_modify]
            by_cases hij : j = i
            · subst hij
              have hjl : j < es'.toList.length := (List.getElem?_eq_some_iff.1 g6).1
              simp only [if_true, h6, hjl, Option.map_some, ← hborn]
            · simp [hij]
          refine ⟨_, List.mem_singleton.2 rfl, .skip, undef, _, μ, ?_, .inr ⟨rfl, rfl⟩, map_put (P := P) (W := W) hs hg hml (es2' := es'.modify j fun e => { e with key := K, val := ρ x }) clock (by
            rw [hmod]; exact hr.set ⟨hK, hx, rfl⟩ j), undef_rel μ⟩
          have hk2 : ((es'[j]?).map (·.key)).getD K = K := by
            have h6 : es'[j]? = some q2 := by simpa using g6
            rw [h6]; simpa using g8
          rw [hM, hkk'] at *
          simp [Instr.mapUpdate, run_underlying hu, hgo, hchk, g1, hk2, keyStays hkk hc, run_setObj (P := P) he (by simp)]
    · cases hv
end
end Go.AM

/-
  The operations that act on memory: iterators, deletions, copies.
-/
namespace Go.AM

theorem All2.filter {α β : Type} {R : α → β → Prop} {p : α → Bool} {q : β → Bool} {as : List α} {bs : List β} (h : All2 R as bs) (hp : ∀ a b, R a b → p a = q b) : All2 R (as.filter p) (bs.filter q) := by
  induction h with
  | nil => exact .nil
  | @cons a b as bs h1 _ ih =>
    rw [List.filter_cons, List.filter_cons, ← hp a b h1]
    split
    · exact .cons h1 ih
    · exact ih

theorem All2.all {α β : Type} {R : α → β → Prop} {p : α → Bool} {q : β → Bool} {as : List α} {bs : List β} (h : All2 R as bs) (hp : ∀ a b, R a b → p a = q b) : as.all p = bs.all q := by
  induction h with
  | nil => rfl
  | @cons a b as bs h1 _ ih => simp only [List.all_cons, hp a b h1, ih]

theorem All2.isEmpty {α β : Type} {R : α → β → Prop} {as : List α} {bs : List β} (h : All2 R as bs) : as.isEmpty = bs.isEmpty := by
  cases h <;> rfl

section
variable {P : Program} {μ : Mu} {tm : Tm} {ρ : Operand → Value} {σ : H} {W : World}

theorem Step.allocD {σ' : H} (h : Sim P μ σ W) {o : AObj} {ob : Obj} {l : Loc} {W' : World} (hW : W'.heap = W.heap.push ob) (hos : W'.os = W.os) (ht : W'.tape = W.tape) (hu : W'.output = W.output)
    (hg : ∀ K, σ'.get K = if K = σ.next then some o else σ.get K) (hn : σ'.next = σ.next + 1) (hlow : σ'.low = σ.low) (hro : roOf o = false) (hb : l.blk = W.heap.size)
    (ho : ORel P (μ.up σ.next l) W' o l) : Step P μ σ W (μ.up σ.next l) σ' W' := by
  have h1 := Step.alloc (P := P) h (o := o) (ob := ob) (l := l) hg hn hlow hro hb (ho.mono (Ext.refl _) (by simp [hW]))
  exact h1.trans (Step.same h1.sim hW hos ht hu)

theorem act_range {t : TypeId} {x : Operand} {str : Bool} (hk : (P.underlying t = some .string ∧ str = true) ∨ (∃ k e, P.underlying t = some (.map k e)) ∧ str = false) (hs : Sim P μ σ W) (hx : VRel μ (ev tm x) (ρ x)) {rs : List (Value × H)}
    (hv : aact σ tm (.range str x) = some rs) : ActOk P μ σ W ((do pure (.value (← Instr.range t (ρ x))) : Sem Next).run P W) rs := by
  simp only [aact] at hv
  generalize ev tm x = X at hv hx
  have fin : ∀ (o : AObj) (ob : Obj) (hro0 : roOf o = false), (do pure (.value (← Instr.range t (ρ x))) : Sem Next).run P W = .ok (.value (.pointer (some ⟨W.heap.size, 0, none⟩))) { W with heap := W.heap.push ob } →
      ORel P (μ.up σ.next ⟨W.heap.size, 0, none⟩) { W with heap := W.heap.push ob } o ⟨W.heap.size, 0, none⟩ → rs = [(.pointer (some ⟨σ.next, 0, none⟩), σ.new o)] →
      ActOk P μ σ W ((do pure (.value (← Instr.range t (ρ x))) : Sem Next).run P W) rs := by
    rintro o ob hro0 h1 h2 rfl
    refine ⟨_, List.mem_singleton.2 rfl, _, _, _, _, h1, .inl rfl, Step.alloc hs (fun K => H.get_new _ _ _) rfl rfl hro0 rfl h2, ?_⟩
    have := VRel.ptr (μ := μ.up σ.next ⟨W.heap.size, 0, none⟩) (i := 0) (Mu.up_same _ _ _)
    simpa using this
  rcases hk with ⟨hu, rfl⟩ | ⟨⟨k, e, hu⟩, rfl⟩
  · cases X <;> try (simp only [reduceCtorEq] at hv; done)
    rename_i s
    simp only [Option.some.injEq] at hv
    refine fin (.sit s 0) (.stringIter s 0) rfl ?_ ⟨rfl, by simp⟩ hv.symm
    simp [Instr.range, run_underlying hu, r_string hx]
  · cases X <;> try (simp only [reduceCtorEq] at hv; done)
    rename_i p
    cases p with
    | none =>
      simp only [Option.some.injEq] at hv
      have hX : ρ x = .map none := by generalize ρ x = X' at hx; cases hx; rfl
      refine fin (.iter none 0 [] 0) (.mapIter none 0 #[] 0) rfl ?_ ⟨rfl, none, by simp, .mapNil⟩ hv.symm
      simp [Instr.range, run_underlying hu, hX]
    | some L =>
      obtain ⟨b, o, hm, hX⟩ := inv_map hx
      simp only at hv
      split at hv
      · rename_i es clock hg
        simp only [Option.some.injEq] at hv
        obtain ⟨es', he, hr⟩ := map_obj hs hg hm
        have hgo := run_getObj (P := P) he (by simp)
        refine fin (.iter (some L) clock [] clock) (.mapIter (some b) clock #[] clock) rfl ?_ ⟨rfl, some b, by simp, .map (o := o) ?_⟩ hv.symm
        · simp [Instr.range, run_underlying hu, hX, hgo]
        · exact Mu.up_ext (hs.nxt _ (Nat.le_refl _)) _ _ hm
      · cases hv

theorem act_next {t : TypeId} {x : Operand} {str : Bool} (hs : Sim P μ σ W) (hx : VRel μ (ev tm x) (ρ x)) {rs : List (Value × H)} (hv : aact σ tm (.next str x) = some rs) :
    ActOk P μ σ W ((do pure (.value (← Instr.next (ρ x) str t)) : Sem Next).run P W) rs := by
  simp only [aact] at hv
  generalize ev tm x = X at hv hx
  split at hv
  · rename_i L
    obtain ⟨b, s, o, hsp, hm, hX⟩ := inv_ptr hx
    simp only [Nat.add_zero] at hX hm
    have stay : ∀ {q : Result Next}, q = .ok (.value (.tuple #[.bool false])) W → rs = [(.tuple #[.bool false], σ)] → ActOk P μ σ W q rs := by
      rintro q rfl rfl
      exact ⟨_, List.mem_singleton.2 rfl, _, _, _, _, rfl, .inl rfl, Step.refl hs, VRel.tupleOf (.cons (.bool _) .nil)⟩
    split at hv
    · -- a string
      rename_i str pos hg
      obtain ⟨l, q1, hs0, q2⟩ := hs.obj _ _ hg
      rw [hm] at q1; cases q1
      simp only at hs0 q2
      subst hs0
      have hgo := run_getObj (P := P) q2 (by simp)
      cases hb : Nat.blt pos str.size with
      | true =>
        have hlt : pos < str.size := Nat.le_of_ble_eq_true hb
        simp only [hb, cond_true, Option.some.injEq] at hv
        subst hv
        refine ⟨_, List.mem_singleton.2 rfl, _, .tuple #[.bool true, .int .i64 pos, .int .i32 (Utf8.decode str pos).1], _, μ, ?_, .inl rfl, Step.putObj hs hg rfl rfl hm (ob := .stringIter str (pos + (Utf8.decode str pos).2)) (fun hsome => ⟨rfl, ?_⟩), VRel.tupleOf (.cons (.bool _) (.cons (.int _ _) (.cons (.int _ _) .nil)))⟩
        · simp [Instr.next, hX, hgo, hlt, run_setObj (P := P) q2 (by simp), goInt]
        · have hl : b < W.heap.size := (Array.getElem?_eq_some_iff.1 q2).1
          simp [hl]
      | false =>
        have hlt : ¬ pos < str.size := fun h => by
          have : Nat.blt pos str.size = true := Nat.ble_eq_true_of_le h
          rw [hb] at this; cases this
        simp only [hb, cond_false, Option.some.injEq] at hv
        refine stay ?_ hv.symm
        simp [Instr.next, hX, hgo, hlt]
    · -- a nil map
      rename_i since seen last hg
      simp only [Option.some.injEq] at hv
      obtain ⟨l, q1, hs0, m', q2, q3⟩ := hs.obj _ _ hg
      rw [hm] at q1; cases q1
      simp only at hs0 q2
      subst hs0
      cases q3
      have hgo := run_getObj (P := P) q2 (by simp)
      refine stay ?_ hv.symm
      simp [Instr.next, hX, hgo]
    · -- a map
      rename_i M since seen last hg
      obtain ⟨l, q1, hs0, m', q2, q3⟩ := hs.obj _ _ hg
      rw [hm] at q1; cases q1
      simp only at hs0 q2
      subst hs0
      obtain ⟨bm, om, hmm, hMv⟩ := inv_map q3
      cases hMv
      split at hv
      · rename_i es clock hgm
        obtain ⟨es', he, hr⟩ := map_obj hs hgm hmm
        have go1 := run_getObj (P := P) q2 (by simp)
        have go2 := run_getObj (P := P) he (by simp)
        cases hbad : (!seen.isEmpty && (!es.isEmpty && es.all fun e => Nat.ble last e.2.2)) with
        | true => simp only [hbad, cond_true, reduceCtorEq] at hv
        | false =>
          simp only [hbad, cond_false, Option.some.injEq] at hv
          -- the filters
          have hfl : All2 (EntRel μ) (es.filter fun e => !seen.any fun b => Nat.beq b e.2.2) (es'.toList.filter fun e => !(⟨seen⟩ : Array Nat).contains e.born) := by
            refine hr.filter fun a c hac => ?_
            congr 1
            rw [hac.2.2]
            have : (⟨seen⟩ : Array Nat).contains c.born = seen.contains c.born := by simp
            rw [this, List.contains_eq_any_beq]
            congr 1
            funext y
            rw [← natBeq, Bool.eq_iff_iff, beq_iff_eq, beq_iff_eq]
            exact eq_comm
          generalize hl1 : (es.filter fun e => !seen.any fun b => Nat.beq b e.2.2) = left at hfl hv
          generalize hl2 : (es'.toList.filter fun e => !(⟨seen⟩ : Array Nat).contains e.born) = left' at hfl
          have hold : All2 (EntRel μ) (left.filter fun e => Nat.blt e.2.2 since) (left'.filter fun e => decide (e.born < since)) := by
            refine hfl.filter fun a c hac => ?_
            rw [hac.2.2, Bool.eq_iff_iff, decide_eq_true_iff]
            exact ⟨fun h => Nat.le_of_ble_eq_true h, fun h => Nat.ble_eq_true_of_le h⟩
          have hnew : All2 (EntRel μ) (left.filter fun e => Nat.ble since e.2.2) (left'.filter fun e => decide (e.born ≥ since)) := by
            refine hfl.filter fun a c hac => ?_
            rw [hac.2.2, Bool.eq_iff_iff, decide_eq_true_iff]
            exact ⟨fun h => Nat.le_of_ble_eq_true h, fun h => Nat.ble_eq_true_of_le h⟩
          have hbad' : (!(⟨seen⟩ : Array Nat).isEmpty && !es'.isEmpty && es'.all (fun e => decide (e.born ≥ last))) = false := by
            have e1 : (⟨seen⟩ : Array Nat).isEmpty = seen.isEmpty := by simp
            have e2 : es'.isEmpty = es.isEmpty := by
              rw [hr.isEmpty]; simp
            have e3 : es'.all (fun e => decide (e.born ≥ last)) = es.all fun e => Nat.ble last e.2.2 := by
              rw [← Array.all_toList]
              refine (hr.all fun a c hac => ?_).symm
              rw [hac.2.2, Bool.eq_iff_iff, decide_eq_true_iff]
              exact ⟨fun h => Nat.le_of_ble_eq_true h, fun h => Nat.ble_eq_true_of_le h⟩
            rw [e1, e2, e3, Bool.and_assoc]
            exact hbad
          generalize ho1 : (left.filter fun e => Nat.blt e.2.2 since) = old at hold hv
          generalize ho2 : (left'.filter fun e => decide (e.born < since)) = old' at hold
          generalize hn1 : (left.filter fun e => Nat.ble since e.2.2) = new at hnew hv
          generalize hn2 : (left'.filter fun e => decide (e.born ≥ since)) = new' at hnew
          -- the candidates
          have hall := hold.append hnew
          let cand : List (Option MapEntry) := (if old'.isEmpty then [none] else []) ++ (old' ++ new').map some
          have hpos : 0 < cand.length := by
            show 0 < ((if old'.isEmpty then [none] else []) ++ (old' ++ new').map some).length
            cases old' <;> simp
          have hcand : ((if (⟨old'⟩ : Array MapEntry).isEmpty then #[none] else #[]) ++ ((⟨old'⟩ : Array MapEntry) ++ ⟨new'⟩).map some : Array (Option MapEntry)) = ⟨cand⟩ := by
            apply Array.ext'
            show _ = (if old'.isEmpty then [none] else []) ++ (old' ++ new').map some
            cases old' <;> simp
          -- what is chosen
          obtain ⟨j, Wd, hj, hch, hW⟩ : ∃ j Wd, j < cand.length ∧ (choose (.mapNext cand.length)).run P W = .ok j Wd ∧ (Wd.heap = W.heap ∧ Wd.os = W.os ∧ Wd.tape = W.tape ∧ Wd.output = W.output) := by
            rw [run_choose]
            by_cases hf : (Question.mapNext cand.length).forced = true
            · rw [if_pos hf]; exact ⟨0, W, hpos, rfl, rfl, rfl, rfl, rfl⟩
            · rw [if_neg hf]; exact ⟨_, _, Nat.mod_lt _ hpos, rfl, rfl, rfl, rfl, rfl⟩
          have hsd : Sim P μ σ Wd := (Step.same (P := P) hs hW.1 hW.2.1 hW.2.2.1 hW.2.2.2).sim
          have hstep0 : Step P μ σ W μ σ Wd := Step.same hs hW.1 hW.2.1 hW.2.2.1 hW.2.2.2
          have q2d : Wd.heap[b]? = some (.mapIter (some bm) since ⟨seen⟩ last) := by rw [hW.1]; exact q2
          have hrun0 : ∀ (r : Value) (W' : World), (match cand[j]? with
              | some (some e) => (do setObj b (.mapIter (some bm) since ((⟨seen⟩ : Array Nat).push e.born) clock); pure (.tuple #[.bool true, e.key, e.val]) : Sem Value)
              | some none => pure (.tuple #[.bool false])
              | none => stuck "Next: no such candidate").run P Wd = .ok r W' → (Instr.next (ρ x) false t).run P W = .ok r W' := by
            intro r W' h
            have el : (es'.filter fun e => !(⟨seen⟩ : Array Nat).contains e.born) = ⟨left'⟩ := by apply Array.ext'; rw [Array.toList_filter]; exact hl2
            have eo : ((⟨left'⟩ : Array MapEntry).filter fun e => decide (e.born < since)) = ⟨old'⟩ := by apply Array.ext'; rw [Array.toList_filter]; exact ho2
            have en : ((⟨left'⟩ : Array MapEntry).filter fun e => decide (e.born ≥ since)) = ⟨new'⟩ := by apply Array.ext'; rw [Array.toList_filter]; exact hn2
            simp only [Instr.next, hX, Sem.run_bind, go1, go2, Result.andThen_ok, hbad', Bool.false_eq_true, if_false, el, eo, en, hcand]
            rw [show (⟨cand⟩ : Array (Option MapEntry)).size = cand.length from rfl, hch]
            simp only [Result.andThen_ok, List.getElem?_toArray]
            exact h
          have hcj : cand[j]? = some cand[j] := List.getElem?_eq_getElem hj
          cases hcje : cand[j] with
          | none =>
            -- it is over
            have hoe : old'.isEmpty = true := by
              cases ho : old'.isEmpty with
              | true => rfl
              | false =>
                exfalso
                have : cand = (old' ++ new').map some := by show (if old'.isEmpty then [none] else []) ++ _ = _; rw [ho]; rfl
                have hm2 : (none : Option MapEntry) ∈ cand := by rw [← hcje]; exact List.getElem_mem hj
                rw [this] at hm2
                obtain ⟨_, _, h⟩ := List.mem_map.1 hm2
                cases h
            have hoe' : old.isEmpty = true := by rw [hold.isEmpty]; exact hoe
            refine ⟨(.tuple #[.bool false], σ), ?_, .value (.tuple #[.bool false]), _, Wd, μ, ?_, .inl rfl, hstep0, VRel.tupleOf (.cons (.bool _) .nil)⟩
            · rw [← hv, hoe']; simp
            · have := hrun0 (.tuple #[.bool false]) Wd (by rw [hcj, hcje]; rfl)
              simp only [Sem.run_bind, this, Result.andThen_ok]; rfl
          | some e' =>
            -- an entry
            have hmem : e' ∈ old' ++ new' := by
              have hm2 : some e' ∈ cand := by rw [← hcje]; exact List.getElem_mem hj
              have hm3 : some e' ∈ (if old'.isEmpty then [none] else []) ++ (old' ++ new').map some := hm2
              rcases List.mem_append.1 hm3 with h | h
              · split at h <;> simp at h
              · obtain ⟨y, hy, hye⟩ := List.mem_map.1 h; cases hye; exact hy
            obtain ⟨i, hi⟩ := List.getElem?_of_mem hmem
            have hil : i < (old ++ new).length := by rw [hall.length_eq]; exact (List.getElem?_eq_some_iff.1 hi).1
            obtain ⟨e2, k1, k2⟩ := hall.get (List.getElem?_eq_getElem hil)
            rw [hi] at k1; cases k1
            refine ⟨(.tuple #[.bool true, (old ++ new)[i].1, (old ++ new)[i].2.1], σ.put L (.iter (some M) since (seen ++ [(old ++ new)[i].2.2]) clock)), ?_, .value (.tuple #[.bool true, e'.key, e'.val]), _, _, μ, ?_, .inl rfl,
              hstep0.trans (Step.putObj hsd hg rfl rfl hm (ob := .mapIter (some bm) since ((⟨seen⟩ : Array Nat).push e'.born) clock) (fun _ => ⟨rfl, some bm, ?_, .map hmm⟩)), VRel.tupleOf (.cons (.bool _) (.cons k2.1 (.cons k2.2.1 .nil)))⟩
            · rw [← hv]
              exact List.mem_append.2 (.inr (List.mem_map.2 ⟨_, List.getElem_mem hil, rfl⟩))
            · have := hrun0 (.tuple #[.bool true, e'.key, e'.val]) { Wd with heap := Wd.heap.setIfInBounds b (.mapIter (some bm) since ((⟨seen⟩ : Array Nat).push e'.born) clock) } (by
                rw [hcj, hcje]
                simp only [Sem.run_bind, run_setObj (P := P) q2d (by simp), Result.andThen_ok]; rfl)
              simp only [Sem.run_bind, this, Result.andThen_ok]; rfl
            · have hl : b < Wd.heap.size := (Array.getElem?_eq_some_iff.1 q2d).1
              rw [k2.2.2]
              simp [hl]
      · cases hv
    · cases hv
  · cases hv

theorem act_delete {t : TypeId} {ek : EK} {e : TypeId} {m k : Operand} {ts : Array TypeId} {ty : TypeId} {args : Array Value} (hk : AM.keyOf P t = some (ek, e)) (hts : ts[0]? = some t) (ha0 : args[0]? = some (ρ m)) (ha1 : args[1]? = some (ρ k)) (hs : Sim P μ σ W) (hm : VRel μ (ev tm m) (ρ m)) (hkr : VRel μ (ev tm k) (ρ k)) {rs : List (Value × H)}
    (hv : aact σ tm (.delete ek m k) = some rs) : ActOk P μ σ W ((do pure (.value (← Builtin.delete_ ts ty args)) : Sem Next).run P W) rs := by
  obtain ⟨kt, hu, hkk⟩ := keyOf_some hk
  simp only [aact] at hv
  generalize ev tm m = M at hv hm
  generalize ev tm k = K at hv hkr
  cases M <;> try (simp only [reduceCtorEq] at hv; done)
  rename_i p
  cases p with
  | none =>
    simp only at hv
    split at hv
    · rename_i c hc
      simp only [Option.some.injEq] at hv
      subst hv
      have hM : ρ m = .map none := by generalize ρ m = X' at hm; cases hm; rfl
      have hkk' : ρ k = K := (aeq_keys hkk hc hkr hkr).1
      have hchk := checkKey_run hkk hc true W
      refine ⟨_, List.mem_singleton.2 rfl, .value (.tuple #[]), _, W, μ, ?_, .inl rfl, Step.refl hs, .tuple rfl (by simp)⟩
      simp [Builtin.delete_, hts, ha0, ha1, run_underlying hu, hM, hkk', hchk]
    · cases hv
  | some L =>
    obtain ⟨b, o, hml, hM⟩ := inv_map hm
    simp only at hv
    split at hv
    · rename_i es clock hg
      obtain ⟨es', he, hr⟩ := map_obj hs hg hml
      have hgo := run_getObj (P := P) he (by simp)
      cases hf : findKeyA ek K es with
      | none => rw [hf] at hv; simp at hv
      | some r =>
        obtain ⟨hkk', hchk, r', g1, g2⟩ := findKey_run hkk hkr hr hf W
        cases r with
        | none =>
          simp only [hf, Option.some.injEq] at hv
          subst hv
          have g2' : r' = none := g2
          subst g2'
          refine ⟨_, List.mem_singleton.2 rfl, .value (.tuple #[]), _, _, μ, ?_, .inl rfl, map_put (P := P) (W := W) hs hg hml (es2' := es') clock hr, .tuple rfl (by simp)⟩
          simp [Builtin.delete_, hts, ha0, ha1, run_underlying hu, hM, hgo, hchk, g1, run_setObj (P := P) he (by simp)]
        | some q =>
          obtain ⟨j, w, bn⟩ := q
          simp only [hf, Option.some.injEq] at hv
          subst hv
          obtain ⟨v', q1, q2, rfl, _, _, _, _, _, _⟩ := g2
          have hel : (es'.eraseIdxIfInBounds j).toList = es'.toList.eraseIdx j := by simp
          refine ⟨_, List.mem_singleton.2 rfl, .value (.tuple #[]), _, _, μ, ?_, .inl rfl, map_put (P := P) (W := W) hs hg hml (es2' := es'.eraseIdxIfInBounds j) clock (by rw [hel]; exact hr.eraseIdx j), .tuple rfl (by simp)⟩
          simp [Builtin.delete_, hts, ha0, ha1, run_underlying hu, hM, hgo, hchk, g1, run_setObj (P := P) he (by simp)]
    · cases hv

end
end Go.AM

/-
  append, copy, clear.
-/
namespace Go.AM

theorem growBy_le (newLen : Nat) : ∀ (r c : Nat), Builtin.growBy newLen r c ≤ max c (newLen + (newLen + 768) / 4)
  | 0, c => by simp only [Builtin.growBy]; omega
  | r + 1, c => by
    simp only [Builtin.growBy]
    split
    · omega
    · have := growBy_le newLen r (c + (c + 768) / 4)
      omega

theorem nextcap_le {need old : Nat} (h : old < need) : Builtin.nextslicecap need old ≤ 2 * need + 192 := by
  unfold Builtin.nextslicecap
  split
  · omega
  · split
    · omega
    · have := growBy_le need 4 old; omega

section
variable {P : Program} {μ : Mu} {tm : Tm} {ρ : Operand → Value} {σ : H} {W : World}

/-- Where a slice that is not nil lies. -/
theorem slice_place {a : Addr} {n c : Nat} {v' : Value} (h : VRel μ (.slice (some a) n c) v') : (∃ b s o c', μ a.block = some ⟨b, s, o⟩ ∧ v' = .slice (some ⟨b, s + a.off, none⟩) n c') ∨ (n = 0 ∧ c = 0 ∧ ∃ a', v' = .slice (some a') 0 0) := by
  rcases inv_slice' h with ⟨b, s, _, h1, h2⟩ | ⟨b, s, N, e, c', _, h1, _, _, h2⟩ | ⟨h1, h2, a', h3⟩
  · exact .inl ⟨b, s, none, c, h1, h2⟩
  · exact .inl ⟨b, s, some N, c', h1, h2⟩
  · exact .inr ⟨h1, h2, a', h3⟩

theorem src_run (hs : Sim P μ σ W) {esz : Nat} {X X' : Value} (hx : VRel μ X X') {cs : List Value} {n : Nat} (h : srcCells σ esz X = some (cs, n)) :
    (Builtin.lenOf X').run P W = .ok n W ∧ (∃ cs', (∀ W' : World, W'.heap = W.heap → (Builtin.firstCells esz n X').run P W' = .ok ⟨cs'⟩ W') ∧ All2 (VRel μ) cs cs') ∧ (∀ v ∈ cs, oc v = true) ∧ cs.length = n * esz := by
  cases X <;> try (simp only [srcCells, reduceCtorEq] at h; done)
  case string s =>
    simp only [srcCells] at h
    cases hb : Nat.beq esz 1 with
    | false => simp only [hb, cond_false, reduceCtorEq] at h
    | true =>
      simp only [hb, cond_true, Option.some.injEq, Prod.mk.injEq] at h
      obtain ⟨rfl, rfl⟩ := h
      have he := Nat.eq_of_beq_eq_true hb
      subst he
      rw [r_string hx]
      have hex : s.extract 0 s.data.toList.length = s := by
        apply ByteArray.ext
        simp
      obtain ⟨q1, q2⟩ := bytes_one (μ := μ) s.data.toList
      refine ⟨by simp [Builtin.lenOf], ⟨_, fun W' _ => ?_, q1⟩, q2, by simp⟩
      simp only [Builtin.firstCells, hex, Sem.run_pure]
      congr 1
      apply Array.ext'; simp
  case slice p n' c =>
    cases p with
    | none =>
      simp only [srcCells] at h
      cases hb : Nat.beq n' 0 with
      | false => simp only [hb, cond_false, reduceCtorEq] at h
      | true =>
        simp only [hb, cond_true, Option.some.injEq, Prod.mk.injEq] at h
        obtain ⟨rfl, rfl⟩ := h
        have he := Nat.eq_of_beq_eq_true hb
        subst he
        have hX : X' = .slice none 0 c := by cases hx; rfl
        rw [hX]
        exact ⟨rfl, ⟨[], fun _ _ => rfl, .nil⟩, by simp, by simp⟩
    | some a =>
      simp only [srcCells] at h
      cases hb : Nat.beq n' 0 with
      | true =>
        simp only [hb, cond_true, Option.some.injEq, Prod.mk.injEq] at h
        obtain ⟨rfl, rfl⟩ := h
        have he := Nat.eq_of_beq_eq_true hb
        subst he
        obtain ⟨A, c', hX, _⟩ := inv_slice hx
        rw [hX]
        refine ⟨rfl, ⟨[], fun W' _ => ?_, .nil⟩, by simp, by simp⟩
        simp [Builtin.firstCells, loadCells, loadCellsFrom]
      | false =>
        simp only [hb, cond_false, Option.map_eq_some_iff, Prod.mk.injEq] at h
        obtain ⟨r, hr, rfl, rfl⟩ := h
        rcases slice_place hx with ⟨b, s, o, c', hm, hX⟩ | ⟨rfl, _, _⟩
        · obtain ⟨r', g1, g2, g3, g4⟩ := read_runH (P := P) hs hr hm rfl
          rw [hX]
          exact ⟨rfl, ⟨r', fun W' hW' => by simpa [Builtin.firstCells] using g1 W' hW', g2⟩, g3, g4⟩
        · simp at hb

/-- What is laid behind: the cells, in the abstract machine and in the program. -/
def NewRel (P : Program) (μ : Mu) (W : World) (q : Sem (Array Value)) (new : List Value) : Prop := ∃ new', q.run P W = .ok ⟨new'⟩ W ∧ All2 (VRel μ) new new'

theorem zeros_run {e : TypeId} {z : Value} {i : TypeInfo} (hz : zeroO P e = some z) (hi : P.info? e = some i) (h1 : 1 ≤ i.size) (n : Nat) : Builtin.zeroCells z.cells n = ⟨repeatL (cellsOf z) n⟩ ∧ (∀ v ∈ repeatL (cellsOf z) n, plain0 v = true) := by
  obtain ⟨_, hzp, i2, hi2, hzl⟩ := run_zeroO hz (default : World)
  rw [hi] at hi2; cases hi2
  obtain ⟨hpl, hcell⟩ := cells_plain hzp
  have hzs : z.cells.size = i.size := by rw [hcell]; simpa using hzl
  refine ⟨?_, repeatL_mem hpl n⟩
  unfold Builtin.zeroCells
  rw [hzs]
  have := repeat_range z.cells i.size hzs (by omega) n
  rw [hzs] at this
  rw [this, hcell]

/-- The last lines of an append that takes a new array. -/
theorem grow_run (hs : Sim P μ σ W) {e : TypeId} {z : Value} {i : TypeInfo} (hz : zeroO P e = some z) (hi : P.info? e = some i) (h1 : 1 ≤ i.size) {need sLen sCap' : Nat} {old old' new new' : List Value} {q : Sem (Array Value)} {s' : Value}
    (hold : ∀ W', W'.heap = W.heap → (Builtin.firstCells i.size sLen s').run P W' = .ok ⟨old'⟩ W') (ho : All2 (VRel μ) old old') (hoo : ∀ v ∈ old, oc v = true) (hq : ∀ W', W'.heap = W.heap → q.run P W' = .ok ⟨new'⟩ W') (hn : All2 (VRel μ) new new') (hno : ∀ v ∈ new, oc v = true)
    (hlen : (old ++ new).length = need * i.size) :
    ∃ W' v' l cob, (do let newCap ← choose (.appendCap need sCap' e)
                       askRoom (newCap * (← typeInfo e).bytes)
                       let old ← Builtin.firstCells i.size sLen s'
                       let new ← q
                       let rest := Builtin.zeroCells (← zeroValue e).cells (newCap - need)
                       pure (.slice (some (← newRow e (old ++ new ++ rest))) need newCap) : Sem Value).run P W = .ok v' W' ∧
      Made P μ W W' σ.next (.row (old ++ new) true false) (.slice (some ⟨σ.next, 0, some i.size⟩) need need) v' l cob := by
  have hforced : (Question.appendCap need sCap' e).forced = false := rfl
  obtain ⟨cap, hcap, hle⟩ : ∃ cap, (Question.appendCap need sCap' e).cut (W.tape W.drawn (.appendCap need sCap' e)) = cap ∧ need ≤ cap := ⟨_, rfl, by simp only [Question.cut]; omega⟩
  obtain ⟨hzr, hzp, i2, hi2, hzl⟩ := run_zeroO hz { W with drawn := W.drawn + 1 }
  rw [hi] at hi2; cases hi2
  obtain ⟨hz1, hz2⟩ := zeros_run hz hi h1 (cap - need)
  have hrel := ho.append hn
  have hll := hrel.length_eq
  have hm := made_open (P := P) (μ := μ) (W := W) (L := σ.next) (hs.nxt _ (Nat.le_refl _)) (cs := old ++ new) (cs' := old' ++ new') (more := repeatL (cellsOf z) (cap - need)) (e := e) (fz := (0, 0)) (by simp)
    (W' := { W with drawn := W.drawn + 1, heap := W.heap.push (.cells ⟨(old' ++ new') ++ repeatL (cellsOf z) (cap - need)⟩ e) }) rfl rfl rfl rfl need need cap i.size hle
    (by rw [List.length_append, ← hll, hlen, repeatL_length, hzl, ← Nat.add_mul]; exact Nat.mul_le_mul_right _ (by omega)) hrel (by intro v hv; rcases List.mem_append.1 hv with h | h; exact hoo v h; exact hno v h)
  refine ⟨_, _, _, _, ?_, hm⟩
  simp only [Sem.run_bind, run_choose, hforced, Bool.false_eq_true, if_false, hcap, Result.andThen_ok, typeInfo, run_program, hi, Sem.run_pure, run_askRoom, hold { W with drawn := W.drawn + 1 } rfl, hq { W with drawn := W.drawn + 1 } rfl, hzr, newRow, run_newObj]
  rw [hz1]
  simp

/-- The operands of an append, as the program sees them. -/
structure AppArgs (P : Program) (ts : Array TypeId) (args : Array Value) (t u e : TypeId) (i : TypeInfo) (z : Value) (mk : Bool) (s' x' : Value) : Prop where
  ts0 : ts[0]? = some t
  ts1 : ts[1]? = some u
  a0 : args[0]? = some s'
  a1 : args[1]? = some x'
  und : P.underlying t = some (.slice e)
  info : P.info? e = some i
  size : 1 ≤ i.size
  bytes : i.bytes ≤ 1048576
  zero : zeroO P e = some z
  mkd : ∃ d, P.underlying u = some d ∧ (d matches .int _) = mk

/-- The second operand: how many elements, and which cells. -/
theorem app_src (hs : Sim P μ σ W) {ts : Array TypeId} {args : Array Value} {t u e : TypeId} {i : TypeInfo} {z : Value} {mk : Bool} {s' X X' : Value} (ha : AppArgs P ts args t u e i z mk s' X') (hx : VRel μ X X') {new : List Value} {n : Nat}
    (h : (bif mk then mkSrc (cellsOf z) X else srcCells σ i.size X) = some (new, n)) :
    ∃ new', All2 (VRel μ) new new' ∧ (∀ v ∈ new, oc v = true) ∧ new.length = n * i.size ∧
      (if mk then (∃ k, X' = .int k n ∧ (n : Int) ≤ 16777216) ∧ (∀ W', (if n * i.size = 0 then pure #[] else do pure (Builtin.zeroCells (← zeroValue e).cells n) : Sem (Array Value)).run P W' = .ok ⟨new'⟩ W')
       else (Builtin.lenOf X').run P W = .ok n W ∧ (∀ W' : World, W'.heap = W.heap → (Builtin.firstCells i.size n X').run P W' = .ok ⟨new'⟩ W')) := by
  cases mk with
  | false =>
    simp only [cond_false] at h
    obtain ⟨q1, ⟨cs', q2, q3⟩, q4, q5⟩ := src_run hs hx h
    exact ⟨cs', q3, q4, q5, by simp only [Bool.false_eq_true, if_false]; exact ⟨q1, q2⟩⟩
  | true =>
    simp only [cond_true] at h
    unfold mkSrc at h
    split at h
    · rename_i k l
      split at h
      · rename_i hb
        simp only [lim] at hb
        simp only [Option.some.injEq, Prod.mk.injEq] at h
        obtain ⟨rfl, rfl⟩ := h
        obtain ⟨hz1, hz2⟩ := zeros_run ha.zero ha.info ha.size l.toNat
        obtain ⟨_, hzp, i2, hi2, hzl⟩ := run_zeroO ha.zero (default : World)
        rw [ha.info] at hi2; cases hi2
        refine ⟨repeatL (cellsOf z) l.toNat, plain_all2 μ hz2, fun v hv => plain0_oc (hz2 v hv), by rw [repeatL_length, hzl], ?_⟩
        simp only [if_true]
        refine ⟨⟨k, ?_, by omega⟩, fun W' => ?_⟩
        · rw [r_int hx]; congr 1; omega
        · by_cases h0 : l.toNat * i.size = 0
          · rw [if_pos h0]
            have : l.toNat = 0 := by rcases Nat.mul_eq_zero.1 h0 with h | h; exact h; exact absurd h (by have := ha.size; omega)
            rw [this]; rfl
          · rw [if_neg h0]
            obtain ⟨hzr, _, _⟩ := run_zeroO ha.zero W'
            simp only [Sem.run_bind, hzr, Result.andThen_ok, Sem.run_pure, hz1]
      · cases h
    · cases h

theorem app_in {ts : Array TypeId} {args : Array Value} {t u e : TypeId} {i : TypeInfo} {z : Value} {mk : Bool} {s' x' : Value} (ha : AppArgs P ts args t u e i z mk s' x') {base : Option Addr} {sLen sCap n : Nat} (hs' : s' = .slice base sLen sCap) {new' : List Value}
    (hn : if mk then (∃ k, x' = .int k n ∧ (n : Int) ≤ 16777216) ∧ (∀ W', (if n * i.size = 0 then pure #[] else do pure (Builtin.zeroCells (← zeroValue e).cells n) : Sem (Array Value)).run P W' = .ok ⟨new'⟩ W')
       else (Builtin.lenOf x').run P W = .ok n W ∧ (∀ W' : World, W'.heap = W.heap → (Builtin.firstCells i.size n x').run P W' = .ok ⟨new'⟩ W')) (ty : TypeId) (hle : sLen + n ≤ sCap) :
    (Builtin.append_ ts ty args).run P W = (match base with
      | some a => (do storeCells (a.add (sLen * i.size)) new'; pure (.slice base (sLen + n) sCap) : Sem Value)
      | none => pure (.slice base (sLen + n) sCap)).run P W := by
  obtain ⟨d, hd, hmk⟩ := ha.mkd
  cases mk with
  | false =>
    simp only [Bool.false_eq_true, if_false] at hn
    obtain ⟨h1, h2⟩ := hn
    replace h2 := h2 W rfl
    cases d <;> first
      | (simp at hmk; done)
      | (simp only [Builtin.append_, ha.ts0, ha.ts1, ha.a0, ha.a1, Sem.run_bind, run_underlying ha.und, run_underlying hd, Result.andThen_ok, hs', run_sizeO ha.info, Sem.run_pure, Bool.false_eq_true, if_false, h1, hle, if_true, Bool.not_false, h2]
         cases base <;> rfl)
  | true =>
    simp only [if_true] at hn
    obtain ⟨⟨k, rfl, h1⟩, h2⟩ := hn
    have hw : IntKind.i64.wrap (n : Int) = n := wrap_small (by omega) (by omega)
    have hb : ¬ ((n : Int) * (i.bytes : Int) > 2 ^ 48) := by
      have := Nat.mul_le_mul (show n ≤ 16777216 by omega) ha.bytes
      have h3 : ((n * i.bytes : Nat) : Int) ≤ 17592186044416 := by omega
      rw [Int.natCast_mul] at h3
      omega
    have hneg : ¬ ((n : Int) < 0) := by omega
    cases d <;> first
      | (simp at hmk; done)
      | (simp only [Builtin.append_, ha.ts0, ha.ts1, ha.a0, ha.a1, Sem.run_bind, run_underlying ha.und, run_underlying hd, Result.andThen_ok, hs', run_sizeO ha.info, Sem.run_pure, if_true, asInt, asIntOf, hw, hneg, if_false, typeInfo, run_program, ha.info, hb, Int.toNat_natCast, hle, Bool.not_true, Bool.false_eq_true]
         rw [h2 W]
         cases base <;> rfl)

theorem app_grow (hs : Sim P μ σ W) {ts : Array TypeId} {args : Array Value} {t u e : TypeId} {i : TypeInfo} {z : Value} {mk : Bool} {s' x' : Value} (ha : AppArgs P ts args t u e i z mk s' x') {base : Option Addr} {sLen sCap n : Nat} (hs' : s' = .slice base sLen sCap) {old old' new new' : List Value}
    (hn : if mk then (∃ k, x' = .int k n ∧ (n : Int) ≤ 16777216) ∧ (∀ W', (if n * i.size = 0 then pure #[] else do pure (Builtin.zeroCells (← zeroValue e).cells n) : Sem (Array Value)).run P W' = .ok ⟨new'⟩ W')
       else (Builtin.lenOf x').run P W = .ok n W ∧ (∀ W' : World, W'.heap = W.heap → (Builtin.firstCells i.size n x').run P W' = .ok ⟨new'⟩ W')) (ty : TypeId) (hgt : ¬ sLen + n ≤ sCap) (hlim : sLen + n ≤ 16777216)
    (hold : ∀ W', W'.heap = W.heap → (Builtin.firstCells i.size sLen s').run P W' = .ok ⟨old'⟩ W') (ho : All2 (VRel μ) old old') (hoo : ∀ v ∈ old, oc v = true) (hnr : All2 (VRel μ) new new') (hno : ∀ v ∈ new, oc v = true) (hlen : (old ++ new).length = (sLen + n) * i.size) :
    ∃ W' v' l cob, (Builtin.append_ ts ty args).run P W = .ok v' W' ∧ Made P μ W W' σ.next (.row (old ++ new) true false) (.slice (some ⟨σ.next, 0, some i.size⟩) (sLen + n) (sLen + n)) v' l cob := by
  obtain ⟨d, hd, hmk⟩ := ha.mkd
  have hmax : ¬ (((sLen + n : Nat) : Int) > IntKind.i64.max) := by
    have : IntKind.i64.max = 9223372036854775807 := by decide
    omega
  have hcap : ¬ (Builtin.nextslicecap (sLen + n) sCap * i.bytes > 2 ^ 48) := by
    have h1 := nextcap_le (need := sLen + n) (old := sCap) (by omega)
    have := Nat.mul_le_mul (show Builtin.nextslicecap (sLen + n) sCap ≤ 33554624 by omega) ha.bytes
    omega
  cases mk with
  | false =>
    simp only [Bool.false_eq_true, if_false] at hn
    obtain ⟨h1, h2⟩ := hn
    obtain ⟨W', v', l, cob, g1, g2⟩ := grow_run (P := P) hs ha.zero ha.info ha.size (need := sLen + n) (sLen := sLen) (sCap' := sCap) (q := Builtin.firstCells i.size n x') hold ho hoo h2 hnr hno hlen
    refine ⟨W', v', l, cob, ?_, g2⟩
    rw [← g1]
    cases d <;> first
      | (simp at hmk; done)
      | (simp only [Builtin.append_, ha.ts0, ha.ts1, ha.a0, ha.a1, Sem.run_bind, run_underlying ha.und, run_underlying hd, Result.andThen_ok, hs', run_sizeO ha.info, Sem.run_pure, Bool.false_eq_true, if_false, h1, hgt, hmax, hcap, false_and, typeInfo, run_program, ha.info, Bool.not_false, if_true])
  | true =>
    simp only [if_true] at hn
    obtain ⟨⟨k, rfl, h1⟩, h2⟩ := hn
    obtain ⟨W', v', l, cob, g1, g2⟩ := grow_run (P := P) hs ha.zero ha.info ha.size (need := sLen + n) (sLen := sLen) (sCap' := sCap) (q := if n * i.size = 0 then pure #[] else do pure (Builtin.zeroCells (← zeroValue e).cells n)) hold ho hoo (fun W' _ => h2 W') hnr hno hlen
    refine ⟨W', v', l, cob, ?_, g2⟩
    rw [← g1]
    have hw : IntKind.i64.wrap (n : Int) = n := wrap_small (by omega) (by omega)
    have hb : ¬ ((n : Int) * (i.bytes : Int) > 2 ^ 48) := by
      have := Nat.mul_le_mul (show n ≤ 16777216 by omega) ha.bytes
      have h3 : ((n * i.bytes : Nat) : Int) ≤ 17592186044416 := by omega
      rw [Int.natCast_mul] at h3
      omega
    have hneg : ¬ ((n : Int) < 0) := by omega
    cases d <;> first
      | (simp at hmk; done)
      | (simp only [Builtin.append_, ha.ts0, ha.ts1, ha.a0, ha.a1, Sem.run_bind, run_underlying ha.und, run_underlying hd, Result.andThen_ok, hs', run_sizeO ha.info, Sem.run_pure, if_true, asInt, asIntOf, hw, hneg, if_false, typeInfo, run_program, ha.info, hb, Int.toNat_natCast, hgt, hmax, hcap, false_and, Bool.not_true, Bool.false_eq_true])
end
end Go.AM

/-
  append: every way.
-/
namespace Go.AM

theorem setMany_all : ∀ (vs pre M : List Value), M.length = vs.length → setMany (pre ++ M) pre.length vs = pre ++ vs
  | [], pre, M, h => by
    have : M = [] := List.eq_nil_of_length_eq_zero (by simpa using h)
    subst this; rfl
  | v :: vs, pre, [], h => by simp at h
  | v :: vs, pre, m :: M, h => by
    rw [setMany]
    have h1 : (pre ++ m :: M).set pre.length v = (pre ++ [v]) ++ M := by
      rw [List.set_append_right _ _ (Nat.le_refl _)]; simp
    rw [h1]
    have := setMany_all vs (pre ++ [v]) M (by simpa using h)
    simp only [List.length_append, List.length_singleton] at this
    rw [this]; simp

theorem three {α : Type} (T : List α) (o m : Nat) : T.take o ++ ((T.drop o).take m ++ T.drop (o + m)) = T := by
  rw [← List.drop_drop, List.take_append_drop, List.take_append_drop]

section
variable {P : Program} {μ : Mu} {tm : Tm} {ρ : Operand → Value} {σ : H} {W : World}

theorem firstCells_zero (esz : Nat) (a : Option Addr) (n c : Nat) (W' : World) : (Builtin.firstCells esz 0 (.slice a n c)).run P W' = .ok ⟨[]⟩ W' := by
  cases a <;> simp [Builtin.firstCells, loadCells, loadCellsFrom]

theorem made_step {σ' : H} (hs : Sim P μ σ W) {W' : World} {o : AObj} {v v' : Value} {l : Loc} {cob : Obj} (hm : Made P μ W W' σ.next o v v' l cob) (hg : ∀ K, σ'.get K = if K = σ.next then some o else σ.get K) (hn : σ'.next = σ.next + 1) (hlow : σ'.low = σ.low) (hro : roOf o = false) :
    Step P μ σ W (μ.up σ.next l) σ' W' :=
  Step.allocD hs hm.heap hm.os hm.tape hm.output hg hn hlow hro hm.blk hm.obj

/-- An append that stays in the old array, whose room nobody knew: the new row stands for it from now on. -/
theorem step_inplace (hs : Sim P μ σ W) {L : Nat} {cs : List Value} {ro : Bool} {b s N i len n e' c' : Nat} {old new new' : List Value} (hg : σ.get L = some (.row cs true ro)) (hm : μ L = some ⟨b, s, some N⟩)
    (hold : takeAt cs i (len * e') = some old) (hnr : All2 (VRel μ) new new') (hno : ∀ v ∈ new, oc v = true) (hlen : new.length = n * e') (hc : len + n ≤ c') (hN : s + i + c' * e' ≤ N) :
    ∃ W', (storeCells ⟨b, s + i + len * e', none⟩ new').run P W = .ok () W' ∧ Step P μ σ W (μ.up σ.next ⟨b, s + i, some N⟩) ((σ.new (.row (old ++ new) true false)).kill L) W' := by
  obtain ⟨l, h1, pre, mid, post, e, fz, h2, h3, h4, h5, h6, h7⟩ := hs.obj _ _ hg
  rw [hm] at h1; cases h1
  simp only [if_true] at h2 h3 h7
  obtain ⟨rfl, h8⟩ := h7
  simp only [Option.some.injEq] at h8
  generalize hT : pre ++ (mid ++ post) = T at h2 h6 h8
  obtain ⟨t1, t2⟩ := takeAt_some hold
  have hcm := h4.length_eq
  have hnl := hnr.length_eq
  have hcl : (len + n) * e' ≤ c' * e' := Nat.mul_le_mul_right _ hc
  rw [Nat.add_mul] at hcl
  have hno' : ∀ v ∈ new', oc v = true := by
    intro v hv
    obtain ⟨k, hk⟩ := List.getElem?_of_mem hv
    have hkl := (List.getElem?_eq_some_iff.1 hk).1
    have hk0 : new[k]? = some new[k] := List.getElem?_eq_getElem (by omega)
    obtain ⟨v2, h9, h10⟩ := hnr.get hk0
    rw [hk] at h9; cases h9
    rw [h10.one]; exact hno _ (List.mem_of_getElem? hk0)
  obtain ⟨W', r1, r2, r3, r4, r5, r6, r7⟩ := run_storeMany P b (s + i + len * e') e fz new' 0 W T h2 (by omega) (h6 rfl) hno'
  refine ⟨W', r1, ?_⟩
  have hown : Own μ σ b := ⟨L, _, _, hg, rfl, hm, rfl⟩
  -- the cells behind the store
  have hold' : All2 (VRel μ) old ((T.drop (s + i)).take (len * e')) := by
    have hd : (T.drop (s + i)).take (len * e') = (mid.drop i).take (len * e') := by
      rw [← hT, ← h3, ← List.drop_drop, List.drop_left]
      by_cases hi : i ≤ mid.length
      · rw [List.drop_append_of_le_length hi, List.take_append_of_le_length]
        rw [List.length_drop]
        have : (cs.drop i).length ≥ len * e' := by
          have := t2; rw [t1, List.length_take] at this; omega
        rw [List.length_drop] at this
        omega
      · have h0 : len * e' = 0 := by
          have := t2; rw [t1, List.length_take, List.length_drop] at this; omega
        rw [h0]; simp
    rw [hd, t1]
    exact (h4.drop i).take _
  have hTl : T.length = N := h8.symm
  have hcells : setMany T (s + i + len * e' + 0) new' = T.take (s + i) ++ (((T.drop (s + i)).take (len * e') ++ new') ++ T.drop (s + i + len * e' + n * e')) := by
    have e1 : T = T.take (s + i + len * e') ++ ((T.drop (s + i + len * e')).take (n * e') ++ T.drop (s + i + len * e' + n * e')) := (three _ _ _).symm
    have e2 : T.take (s + i + len * e') = T.take (s + i) ++ (T.drop (s + i)).take (len * e') := by
      rw [List.take_add]
    have e3 : (T.take (s + i + len * e')).length = s + i + len * e' := by rw [List.length_take]; omega
    have e4 := setMany_mid new' (T.take (s + i + len * e')) ((T.drop (s + i + len * e')).take (n * e')) (T.drop (s + i + len * e' + n * e')) 0 (by rw [List.length_take, List.length_drop]; omega)
    rw [← e1, e3] at e4
    rw [e4]
    have e5 := setMany_all new' [] ((T.drop (s + i + len * e')).take (n * e')) (by rw [List.length_take, List.length_drop]; omega)
    simp only [List.nil_append, List.length_nil] at e5
    rw [e5, e2]
    simp only [List.append_assoc]
  have hnext : μ σ.next = none := hs.nxt _ (Nat.le_refl _)
  have hLn : L ≠ σ.next := fun h => by rw [h] at hm; rw [hnext] at hm; cases hm
  have hget : ∀ K, ((σ.new (.row (old ++ new) true false)).kill L).get K = if K = L then none else if K = σ.next then some (.row (old ++ new) true false) else σ.get K := by
    intro K; rw [H.get_kill, H.get_new]
  have hext : Ext μ (μ.up σ.next ⟨b, s + i, some N⟩) := Mu.up_ext hnext
  have hlen2 : (T.take (s + i)).length = s + i := by rw [List.length_take]; omega
  have hobj : ORel P (μ.up σ.next ⟨b, s + i, some N⟩) W' (.row (old ++ new) true false) ⟨b, s + i, some N⟩ := by
    have htot : (T.take (s + i) ++ (((T.drop (s + i)).take (len * e') ++ new') ++ T.drop (s + i + len * e' + n * e'))).length = T.length := by
      rw [← hcells, setMany_length]
    refine ⟨T.take (s + i), (T.drop (s + i)).take (len * e') ++ new', T.drop (s + i + len * e' + n * e'), e, fz, ?_, hlen2, (hold'.append hnr).imp fun _ _ h => h.mono hext, ?_, fun _ k hk => h6 rfl k (by rw [← htot]; exact hk), ?_⟩
    · rw [r2, hcells]
    · intro v hv
      rcases List.mem_append.1 hv with h | h
      · rw [t1] at h; exact h5 v (List.mem_of_mem_drop (List.mem_of_mem_take h))
      · exact hno v h
    · simp only [if_true]
      exact ⟨trivial, by rw [htot, hTl]⟩
  refine {
    sim := ⟨?_, ?_, ?_⟩, ext := hext, fresh := fun K hK => Mu.up_ne _ _ (by omega), next := by simp, size := by omega, own := ?_, frame := fun k _ hk => r3 k (fun e => hk (e ▸ hown)), os := r5, tape := r6, output := r7, low := minN_left _ _, kept := ?_, ro := ?_, back := ?_ }
  · intro K oK hK
    rw [hget] at hK
    split at hK
    · cases hK
    · rename_i hKL
      split at hK
      · rename_i e1
        subst e1
        simp only [Option.some.injEq] at hK
        subst hK
        exact ⟨_, Mu.up_same _ _ _, hobj⟩
      · rename_i hKn
        obtain ⟨k, h9, h10⟩ := hs.obj K oK hK
        exact ⟨k, by rw [Mu.up_ne _ _ hKn]; exact h9, h10.mono hext (r3 _ (hs.inj K L oK _ k _ hK hg hKL h9 hm (.inr rfl)))⟩
  · intro A B oA oB lA lB g1 g2 hne g3 g4 hro
    rw [hget] at g1 g2
    split at g1
    · cases g1
    · rename_i hA
      split at g2
      · cases g2
      · rename_i hB
        split at g1
        · rename_i eA
          subst eA
          rw [Mu.up_same] at g3; cases g3
          split at g2
          · rename_i eB; exact absurd eB.symm hne
          · rename_i hBn
            rw [Mu.up_ne _ _ hBn] at g4
            exact fun e2 => hs.inj B L oB _ lB _ g2 hg hB g4 hm (.inr rfl) e2.symm
        · rename_i hAn
          rw [Mu.up_ne _ _ hAn] at g3
          split at g2
          · rename_i eB
            subst eB
            rw [Mu.up_same] at g4; cases g4
            have := hs.inj A L oA _ lA _ g1 hg hA g3 hm (.inr rfl)
            exact this
          · rename_i hBn
            rw [Mu.up_ne _ _ hBn] at g4
            exact hs.inj A B oA oB lA lB g1 g2 hne g3 g4 hro
  · intro K hK
    simp only [H.next_kill, H.next_new] at hK
    rw [Mu.up_ne _ _ (by omega)]
    exact hs.nxt K (by omega)
  · intro k hk
    obtain ⟨K, oK, lK, g1, g2, g3, g4⟩ := hk
    rw [hget] at g1
    split at g1
    · cases g1
    · split at g1
      · rename_i e1
        subst e1
        rw [Mu.up_same] at g3; cases g3
        exact .inr (g4 ▸ hown)
      · rename_i hKn
        rw [Mu.up_ne _ _ hKn] at g3
        exact .inr ⟨K, oK, lK, g1, g2, g3, g4⟩
  · intro K oK lK h9 h10 h11
    have hKL : K ≠ L := by have := minN_right (σ.new (.row (old ++ new) true false)).low L; simp only [H.kill] at h9; omega
    have hKn : K ≠ σ.next := fun e => by rw [e, hnext] at h11; cases h11
    refine ⟨by rw [hget, if_neg hKL, if_neg hKn]; exact h10, r3 _ (hs.inj K L oK _ lK _ h10 hg hKL h11 hm (.inr rfl))⟩
  · intro K oK h9 h10
    rw [hget] at h9
    split at h9
    · cases h9
    · split at h9
      · cases h9; cases h10
      · exact h9
  · intro K oK h9 h10
    rw [hget] at h10
    split at h10
    · cases h10
    · rw [if_neg (by omega)] at h10
      exact ⟨oK, h10⟩

theorem act_append {ts : Array TypeId} {args : Array Value} {t u e : TypeId} {i : TypeInfo} {z : Value} {mk : Bool} {S X S' X' : Value} {ty : TypeId} (hs : Sim P μ σ W) (ha : AppArgs P ts args t u e i z mk S' X') (hS : VRel μ S S') (hX : VRel μ X X') {r : Value × H}
    (h : aappend σ i.size (cellsOf z) mk S X = some r) : ActOk P μ σ W ((do pure (.value (← Builtin.append_ ts ty args)) : Sem Next).run P W) [r] := by
  have fin : ∀ {v' : Value} {W' : World} {μ' : Mu}, (Builtin.append_ ts ty args).run P W = .ok v' W' → Step P μ σ W μ' r.2 W' → VRel μ' r.1 v' → ActOk P μ σ W ((do pure (.value (← Builtin.append_ ts ty args)) : Sem Next).run P W) [r] := by
    intro v' W' μ' h1 h2 h3
    exact ⟨r, List.mem_singleton.2 rfl, .value v', v', W', μ', by simp only [Sem.run_bind, h1, Result.andThen_ok]; rfl, .inl rfl, h2, h3⟩
  unfold aappend at h
  split at h
  · rename_i new n base len cap hsrc
    obtain ⟨new', hnr, hno, hlen, hcond⟩ := app_src hs ha hX hsrc
    simp only at h
    cases hle : Nat.ble (len + n) cap with
    | true =>
      have hle' := Nat.le_of_ble_eq_true hle
      simp only [hle, cond_true] at h
      cases base with
      | none =>
        simp only [Option.some.injEq] at h
        subst h
        have hS' : S' = .slice none len cap := by cases hS; rfl
        have := app_in ha hS' hcond ty hle'
        exact fin (by rw [this]; rfl) (Step.refl hs) (.sliceNil _ _)
      | some a =>
        simp only at h
        obtain ⟨A, c', hSA, hcc⟩ := inv_slice hS
        have hin := app_in ha hSA hcond ty (by omega)
        split at h
        · -- nothing is appended
          simp only [Option.some.injEq] at h
          subst h
          have hn0 : n = 0 := by
            simp only [List.length_nil] at hlen
            rcases Nat.mul_eq_zero.1 hlen.symm with h | h
            · exact h
            · have := ha.size; omega
          subst hn0
          cases hnr
          rw [hSA] at hS
          exact fin (by rw [hin]; rfl) (Step.refl hs) hS
        · rename_i hnew
          split at h
          · rename_i σ' hw
            simp only [Option.some.injEq] at h
            subst h
            rcases inv_slice' hS with ⟨b, s, hsp, hm, hS2⟩ | ⟨b, s, N, e', c2, hsp, hm, hc2, hN, hS2⟩ | ⟨rfl, rfl, _⟩
            · rw [hS2] at hSA; cases hSA
              obtain ⟨W', r1, r2⟩ := Step.write (P := P) hs hw (b := b) (s := s) (i := s + (a.off + len * i.size)) hm rfl hnr hno
              refine fin (v' := .slice (some ⟨b, s + a.off, none⟩) (len + n) cap) ?_ r2 ?_
              · rw [hin]; simp only [add_eq, Sem.run_bind, Nat.add_assoc, r1, Result.andThen_ok]; rfl
              · have := VRel.slice (μ := μ) (i := a.off) (n := len + n) (c := cap) hm
                have ea : a = ⟨a.block, a.off, none⟩ := by cases a; simp only at hsp; subst hsp; rfl
                rw [ea]; exact this
            · rw [hS2] at hSA; cases hSA
              obtain ⟨W', r1, r2⟩ := Step.write (P := P) hs hw (b := b) (s := s) (i := s + (a.off + len * i.size)) hm rfl hnr hno
              refine fin (v' := .slice (some ⟨b, s + a.off, none⟩) (len + n) c') ?_ r2 ?_
              · rw [hin]; simp only [add_eq, Sem.run_bind, Nat.add_assoc, r1, Result.andThen_ok]; rfl
              · have := VRel.sliceO (μ := μ) (i := a.off) (n := len + n) hm hcc hN
                have ea : a = ⟨a.block, a.off, some e'⟩ := by cases a; simp only at hsp; subst hsp; rfl
                rw [ea]; exact this
            · exfalso
              have : n = 0 := by omega
              subst this
              simp only [Nat.zero_mul] at hlen
              exact hnew (List.eq_nil_of_length_eq_zero hlen)
          · cases h
    | false =>
      have hgt : ¬ len + n ≤ cap := fun h0 => by
        have := Nat.ble_eq_true_of_le h0; rw [hle] at this; cases this
      simp only [hle, cond_false] at h
      cases hli : Nat.ble (len + n) lim with
      | false => simp only [hli, cond_false, reduceCtorEq] at h
      | true =>
        have hlim : len + n ≤ 16777216 := by have := Nat.le_of_ble_eq_true hli; simpa [lim] using this
        simp only [hli, cond_true] at h
        -- a new array
        have grow : ∀ {base' : Option Addr} {c' : Nat} {old old' : List Value}, S' = .slice base' len c' → ¬ len + n ≤ c' → (∀ W', W'.heap = W.heap → (Builtin.firstCells i.size len S').run P W' = .ok ⟨old'⟩ W') → All2 (VRel μ) old old' → (∀ v ∈ old, oc v = true) → old.length = len * i.size →
            ∃ W' v' l cob, (Builtin.append_ ts ty args).run P W = .ok v' W' ∧ Made P μ W W' σ.next (.row (old ++ new) true false) (.slice (some ⟨σ.next, 0, some i.size⟩) (len + n) (len + n)) v' l cob := by
          intro base' c' old old' g1 g2 g3 g4 g5 g6
          exact app_grow hs ha g1 hcond ty g2 hlim g3 g4 g5 hnr hno (by rw [List.length_append, g6, hlen, Nat.add_mul])
        have growNil : ∀ {base' : Option Addr} {c' : Nat}, S' = .slice base' len c' → ¬ len + n ≤ c' → len = 0 → r = (.slice (some ⟨σ.next, 0, some i.size⟩) (len + n) (len + n), σ.new (.row new true false)) → ActOk P μ σ W ((do pure (.value (← Builtin.append_ ts ty args)) : Sem Next).run P W) [r] := by
          intro base' c' g1 g2 g3 g4
          obtain ⟨W', v', l, cob, k1, k2⟩ := grow (old := []) (old' := []) g1 g2 (fun W' _ => by rw [g1, g3]; exact firstCells_zero _ _ _ _ _) .nil (by simp) (by rw [g3]; simp)
          subst g4
          exact fin k1 (made_step hs k2 (fun K => by rw [H.get_new]; rfl) rfl rfl rfl) k2.val
        cases base with
        | none =>
          simp only at h
          cases hl0 : Nat.beq len 0 with
          | false => simp only [hl0, cond_false, reduceCtorEq] at h
          | true =>
            simp only [hl0, cond_true, Option.some.injEq] at h
            have hS' : S' = .slice none len cap := by cases hS; rfl
            exact growNil hS' hgt (Nat.eq_of_beq_eq_true hl0) h.symm
        | some a =>
          simp only at h
          have hexact : a.spot = none → ∃ A c', S' = .slice (some A) len c' ∧ ¬ len + n ≤ c' := by
            intro hsp
            rcases inv_slice' hS with ⟨b, s, _, hm, hS2⟩ | ⟨b, s, N, e', c2, hsp2, _⟩ | ⟨rfl, rfl, A, hS2⟩
            · exact ⟨_, _, hS2, hgt⟩
            · rw [hsp] at hsp2; cases hsp2
            · exact ⟨_, _, hS2, hgt⟩
          cases hz : (Nat.beq a.block zb && (Nat.beq len 0 && a.spot.isNone)) with
          | true =>
            simp only [hz, cond_true, Option.some.injEq] at h
            rw [Bool.and_eq_true, Bool.and_eq_true] at hz
            obtain ⟨A, c', q1, q2⟩ := hexact (by simpa using hz.2.2)
            exact growNil q1 q2 (Nat.eq_of_beq_eq_true hz.2.1) h.symm
          | false =>
            simp only [hz, cond_false] at h
            split at h
            · rename_i cs opn ro hg
              split at h
              · rename_i old hold
                obtain ⟨t1, t2⟩ := takeAt_some hold
                -- the old cells are read
                have hread : ∀ {b s : Nat} {o : Option Nat}, μ a.block = some ⟨b, s, o⟩ → ∃ old', (∀ W' : World, W'.heap = W.heap → (loadCells ⟨b, s + a.off, none⟩ (len * i.size)).run P W' = .ok ⟨old'⟩ W') ∧ All2 (VRel μ) old old' ∧ ∀ v ∈ old, oc v = true := by
                  intro b s o hm
                  have hrd : σ.read a (len * i.size) = some old := by unfold H.read; rw [hg]; exact hold
                  obtain ⟨r', g1, g2, g3, _⟩ := read_runH (P := P) hs hrd hm rfl
                  exact ⟨r', g1, g2, g3⟩
                have hzero : len = 0 → old = [] := fun e0 => by
                  rw [e0] at t2; simp only [Nat.zero_mul] at t2; exact List.eq_nil_of_length_eq_zero t2
                split at h
                · -- known room
                  rename_i hsp
                  simp only [Option.some.injEq] at h
                  subst h
                  rcases inv_slice' hS with ⟨b, s, _, hm, hS2⟩ | ⟨b, s, N, e', c2, hsp2, _⟩ | ⟨rfl, rfl, A, hS2⟩
                  · obtain ⟨old', q1, q2, q3⟩ := hread hm
                    obtain ⟨W', v', l, cob, k1, k2⟩ := grow hS2 hgt (fun W' hW' => by rw [hS2]; exact q1 W' hW') q2 q3 t2
                    exact fin k1 (made_step hs k2 (fun K => by rw [H.get_new]) rfl rfl rfl) k2.val
                  · rw [hsp] at hsp2; cases hsp2
                  · have := hzero rfl
                    subst this
                    exact growNil hS2 (by omega) rfl rfl
                · -- room that nobody knows
                  rename_i e' hsp
                  cases hbe : Nat.beq e' i.size with
                  | false => simp only [hbe, cond_false, reduceCtorEq] at h
                  | true =>
                    simp only [hbe, cond_true, Option.some.injEq] at h
                    have hee := Nat.eq_of_beq_eq_true hbe
                    subst hee
                    subst h
                    -- the new row, the old one forgotten
                    have forget : ∀ {W' : World} {μ' : Mu}, Step P μ σ W μ' (σ.new (.row (old ++ new) true false)) W' → Step P μ σ W μ' ((σ.new (.row (old ++ new) true false)).kill a.block) W' := by
                      intro W' μ' hst
                      exact hst.trans (Step.weaken hst.sim (fun K o hK => by rw [H.get_kill] at hK; split at hK; cases hK; exact hK) (Nat.le_refl _) (minN_left _ _) (fun K o h1 h2 => by rw [H.get_kill, if_neg (by have := minN_right (σ.new (.row (old ++ new) true false)).low a.block; simp only [H.kill] at h1; omega)]; exact h2))
                    rcases inv_slice' hS with ⟨b, s, hsp2, _⟩ | ⟨b, s, N, e2, c2, hsp2, hm, hcc, hN, hS2⟩ | ⟨rfl, rfl, A, hS2⟩
                    · rw [hsp] at hsp2; cases hsp2
                    · rw [hsp] at hsp2; cases hsp2
                      by_cases hin : len + n ≤ c2
                      · obtain ⟨W', r1, r2⟩ := step_inplace (P := P) hs hg hm hold hnr hno hlen hin hN
                        have happ := app_in ha hS2 hcond ty hin
                        refine fin (v' := .slice (some ⟨b, s + a.off, none⟩) (len + n) c2) ?_ r2 ?_
                        · rw [happ]
                          simp only [add_eq, Sem.run_bind, r1, Result.andThen_ok]; rfl
                        · have := VRel.sliceO (μ := μ.up σ.next ⟨b, s + a.off, some N⟩) (i := 0) (n := len + n) (c := len + n) (c' := c2) (e := i.size) (Mu.up_same _ _ _) hin (by omega)
                          simpa using this
                      · obtain ⟨old', q1, q2, q3⟩ := hread hm
                        obtain ⟨W', v', l, cob, k1, k2⟩ := grow hS2 hin (fun W' hW' => by rw [hS2]; exact q1 W' hW') q2 q3 t2
                        exact fin k1 (forget (made_step hs k2 (fun K => by rw [H.get_new]) rfl rfl rfl)) k2.val
                    · have h0 := hzero rfl
                      subst h0
                      obtain ⟨W', v', l, cob, k1, k2⟩ := grow (old := []) (old' := []) hS2 (by omega) (fun W' _ => by rw [hS2]; exact firstCells_zero _ _ _ _ _) .nil (by simp) (by simp)
                      exact fin k1 (forget (made_step hs k2 (fun K => by rw [H.get_new]) rfl rfl rfl)) k2.val
                · cases h
              · cases h
            · cases h
  · cases h
end
end Go.AM

/-
  Copy and clear; and all acts that need no code of their own.
-/
namespace Go.AM

section
variable {P : Program} {μ : Mu} {tm : Tm} {ρ : Operand → Value} {σ : H} {W : World}

theorem firstCells_none (esz : Nat) {X X' : Value} (hx : VRel μ X X') (hX : (∃ a n c, X = .slice a n c) ∨ ∃ s, X = .string s) : (Builtin.firstCells esz 0 X').run P W = .ok ⟨[]⟩ W := by
  rcases hX with ⟨a, n, c, rfl⟩ | ⟨s, rfl⟩
  · cases hx <;> simp [Builtin.firstCells, loadCells, loadCellsFrom]
  · cases hx
    simp only [Builtin.firstCells, Sem.run_pure]
    congr 1
    apply Array.ext'; simp

theorem lenOf_rel {X X' : Value} (hx : VRel μ X X') : (∀ a n c, X = .slice a n c → (Builtin.lenOf X').run P W = .ok n W) ∧ (∀ s, X = .string s → (Builtin.lenOf X').run P W = .ok s.data.toList.length W) := by
  constructor
  · intro a n c h; subst h; cases hx <;> rfl
  · intro s h; subst h; cases hx; simp [Builtin.lenOf]

theorem storeNone (a : Addr) : (storeCells a []).run P W = .ok () W := rfl

theorem act_copy {ts : Array TypeId} {args : Array Value} {ty t e : TypeId} {i : TypeInfo} {d s : Operand} (he : elemO P t = some (e, i)) (hts : ts[0]? = some t) (ha0 : args[0]? = some (ρ d)) (ha1 : args[1]? = some (ρ s)) (hs : Sim P μ σ W) (hd : VRel μ (ev tm d) (ρ d)) (hsr : VRel μ (ev tm s) (ρ s)) {rs : List (Value × H)}
    (hv : aact σ tm (.copy i.size d s) = some rs) : ActOk P μ σ W ((do pure (.value (← Builtin.copy_ ts ty args)) : Sem Next).run P W) rs := by
  obtain ⟨hu, hi, h1, _⟩ := elemO_some he
  have hsz : (sizeOf e).run P W = .ok i.size W := by rw [run_sizeOf W hi, Program.cellsOf, hi]; rfl
  simp only [aact] at hv
  generalize hD : ev tm d = D at hv hd
  generalize hX : ev tm s = X at hv hsr
  generalize hD' : ρ d = D' at ha0 hd
  generalize hX' : ρ s = X' at ha1 hsr
  cases D <;> try (simp only [reduceCtorEq] at hv; done)
  rename_i base dlen dcap
  simp only at hv
  split at hv
  · cases hv
  rename_i on n hn
  have hlen : (Builtin.lenOf X').run P W = .ok n W ∧ ((∃ a n c, X = .slice a n c) ∨ ∃ s, X = .string s) := by
    cases X <;> simp only [reduceCtorEq, Option.some.injEq] at hn
    · subst hn; exact ⟨(lenOf_rel hsr).2 _ rfl, .inr ⟨_, rfl⟩⟩
    · subst hn; exact ⟨(lenOf_rel hsr).1 _ _ _ rfl, .inl ⟨_, _, _, rfl⟩⟩
  cases hb : Nat.beq (Nat.min n dlen) 0 with
  | true =>
    simp only [hb, cond_true, Option.some.injEq] at hv
    subst hv
    have h0 := Nat.eq_of_beq_eq_true hb
    have hf := firstCells_none (P := P) (W := W) i.size hsr hlen.2
    refine ⟨_, List.mem_singleton.2 rfl, .value (goInt 0), _, W, μ, ?_, .inl rfl, Step.refl hs, .int _ _⟩
    obtain ⟨A, c', hDD⟩ : ∃ A c', D' = .slice A dlen c' := by
      cases hd <;> exact ⟨_, _, rfl⟩
    subst hDD
    cases A <;> simp [Builtin.copy_, hts, ha0, ha1, run_underlying hu, hlen.1, h0, hsz, hf, storeNone]
  | false =>
    simp only [hb, cond_false] at hv
    have hm0 : Nat.min n dlen ≠ 0 := fun h => by rw [h] at hb; simp at hb
    split at hv
    · rename_i _ _ cs a hcs
      simp only [Option.map_eq_some_iff] at hv
      obtain ⟨σ', hw, rfl⟩ := hv
      have hcells : ∃ cs', (Builtin.firstCells i.size (Nat.min n dlen) X').run P W = .ok ⟨cs'⟩ W ∧ All2 (VRel μ) cs cs' ∧ ∀ v ∈ cs, oc v = true := by
        cases X <;> try (simp only [reduceCtorEq] at hcs; done)
        · rename_i str
          simp only at hcs
          cases hbe : Nat.beq i.size 1 with
          | false => simp [hbe] at hcs
          | true =>
            simp only [hbe, cond_true, Option.some.injEq] at hcs
            subst hcs
            rw [r_string hsr]
            obtain ⟨q1, q2⟩ := bytes_one (μ := μ) (str.data.toList.take (Nat.min n dlen))
            refine ⟨_, ?_, q1, q2⟩
            simp only [Builtin.firstCells, Sem.run_pure]
            congr 1
            apply Array.ext'
            simp
        · rename_i p n' c
          cases p with
          | none => simp at hcs
          | some a2 =>
            simp only at hcs
            rcases slice_place hsr with ⟨b, s0, o, c', hm, hXX⟩ | ⟨h3, _, _⟩
            · obtain ⟨r', g1, g2, g3, g4⟩ := read_runH (P := P) hs hcs hm rfl
              rw [hXX]
              exact ⟨r', by simpa [Builtin.firstCells] using g1 W rfl, g2, g3⟩
            · simp only [Option.some.injEq] at hn
              exfalso
              subst h3
              subst hn
              exact hm0 (by simp)
      obtain ⟨cs', q1, q2, q3⟩ := hcells
      rcases slice_place hd with ⟨b, s0, o, c', hm, hDD⟩ | ⟨h3, _, _⟩
      · obtain ⟨W', r1, r2⟩ := Step.write (P := P) hs hw hm rfl q2 q3
        subst hDD
        refine ⟨_, List.mem_singleton.2 rfl, .value (goInt (Nat.min n dlen)), _, W', μ, ?_, .inl rfl, r2, .int _ _⟩
        have hmin : n.min dlen = Nat.min n dlen := rfl
        simp [Builtin.copy_, hts, ha0, ha1, run_underlying hu, hlen.1, hsz, q1, r1]
      · exfalso
        subst h3
        exact hm0 (by simp)
    · cases hv

theorem act_clearSl {ts : Array TypeId} {args : Array Value} {ty t e : TypeId} {z : Value} {x : Operand} (hu : P.underlying t = some (.slice e)) (hz : zeroO P e = some z) (hts : ts[0]? = some t) (ha0 : args[0]? = some (ρ x)) (hs : Sim P μ σ W) (hx : VRel μ (ev tm x) (ρ x)) {rs : List (Value × H)}
    (hv : aact σ tm (.clearSl (cellsOf z) x) = some rs) : ActOk P μ σ W ((do pure (.value (← Builtin.clear_ ts ty args)) : Sem Next).run P W) rs := by
  simp only [aact] at hv
  generalize hX : ev tm x = X at hv hx
  generalize hX' : ρ x = X' at ha0 hx
  split at hv
  · simp only [Option.some.injEq] at hv
    subst hv
    refine ⟨_, List.mem_singleton.2 rfl, .value (.tuple #[]), _, W, μ, ?_, .inl rfl, Step.refl hs, .tuple rfl (by simp)⟩
    have : ∃ A c', X' = .slice A 0 c' := by cases hx <;> exact ⟨_, _, rfl⟩
    obtain ⟨A, c', rfl⟩ := this
    cases A <;> simp [Builtin.clear_, hts, ha0, run_underlying hu]
  · rename_i a n c hn0
    simp only [Option.map_eq_some_iff] at hv
    obtain ⟨σ', hw, rfl⟩ := hv
    obtain ⟨hz1, hzp, i, hi, hzl⟩ := run_zeroO hz W
    rcases slice_place hx with ⟨b, s0, o, c', hm, hXX⟩ | ⟨h3, _, _⟩
    · subst hXX
      by_cases h1 : 1 ≤ i.size
      · obtain ⟨z1, z2⟩ := zeros_run hz hi h1 n
        have hrel : All2 (VRel μ) (repeatL (cellsOf z) n) (repeatL (cellsOf z) n) := All2.refl fun v hv => plain0_rel μ (z2 v hv)
        obtain ⟨W', r1, r2⟩ := Step.write (P := P) hs hw hm rfl hrel (fun v hv => plain0_oc (z2 v hv))
        refine ⟨_, List.mem_singleton.2 rfl, .value (.tuple #[]), _, W', μ, ?_, .inl rfl, r2, .tuple rfl (by simp)⟩
        have hn : n ≠ 0 := by
          rintro rfl
          simp at hn0
        obtain ⟨n, rfl⟩ : ∃ m, n = m + 1 := ⟨n - 1, by omega⟩
        simp [Builtin.clear_, hts, ha0, run_underlying hu, hz1, z1, r1]
      · have h0 : i.size = 0 := by omega
        have hz0 : cellsOf z = [] := List.eq_nil_of_length_eq_zero (by rw [hzl, h0])
        have hrp : repeatL (cellsOf z) n = [] := List.eq_nil_of_length_eq_zero (by rw [repeatL_length, hz0]; simp)
        rw [hrp] at hw
        obtain ⟨W', r1, r2⟩ := Step.write (P := P) hs hw hm rfl (vs' := []) .nil (by simp)
        have hn : n ≠ 0 := by
          rintro rfl
          simp at hn0
        obtain ⟨n, rfl⟩ : ∃ m, n = m + 1 := ⟨n - 1, by omega⟩
        have hzc : z.cells = #[] := by
          have hzv : plainV z = true := by cases z <;> first | exact hzp | cases hzp
          rcases VRel.cells (plainV_rel μ hzv) with ⟨t, ht⟩ | ⟨g, _⟩
          · rw [ht] at hzp; cases hzp
          · rw [hz0] at g
            cases hzz : z.cells.toList with
            | nil => exact Array.ext' (by simpa using hzz)
            | cons p q => rw [hzz] at g; cases g
        have hzz : Builtin.zeroCells z.cells (n + 1) = #[] := by simp [Builtin.zeroCells, hzc]
        refine ⟨_, List.mem_singleton.2 rfl, .value (.tuple #[]), _, W', μ, ?_, .inl rfl, r2, .tuple rfl (by simp)⟩
        simp [Builtin.clear_, hts, ha0, run_underlying hu, hz1, hzz, r1]
    · subst h3
      simp at hn0
  · cases hv

theorem act_clearMp {ts : Array TypeId} {args : Array Value} {ty t k e : TypeId} {x : Operand} (hu : P.underlying t = some (.map k e)) (hts : ts[0]? = some t) (ha0 : args[0]? = some (ρ x)) (hs : Sim P μ σ W) (hx : VRel μ (ev tm x) (ρ x)) {rs : List (Value × H)}
    (hv : aact σ tm (.clearMp x) = some rs) : ActOk P μ σ W ((do pure (.value (← Builtin.clear_ ts ty args)) : Sem Next).run P W) rs := by
  simp only [aact] at hv
  generalize hX : ev tm x = X at hv hx
  generalize hX' : ρ x = X' at ha0 hx
  cases X <;> try (simp only [reduceCtorEq] at hv; done)
  rename_i p
  cases p with
  | none =>
    simp only [Option.some.injEq] at hv
    subst hv
    refine ⟨_, List.mem_singleton.2 rfl, .value (.tuple #[]), _, W, μ, ?_, .inl rfl, Step.refl hs, .tuple rfl (by simp)⟩
    have : X' = .map none := by cases hx; rfl
    subst this
    simp [Builtin.clear_, hts, ha0, run_underlying hu]
  | some L =>
    obtain ⟨b, o, hml, rfl⟩ := inv_map hx
    simp only at hv
    split at hv
    · rename_i es clock hg
      simp only [Option.some.injEq] at hv
      subst hv
      obtain ⟨es', he, hr⟩ := map_obj hs hg hml
      have hgo := run_getObj (P := P) he (by simp)
      refine ⟨_, List.mem_singleton.2 rfl, .value (.tuple #[]), _, _, μ, ?_, .inl rfl, map_put (P := P) (W := W) hs hg hml (es2' := #[]) clock .nil, .tuple rfl (by simp)⟩
      simp [Builtin.clear_, hts, ha0, run_underlying hu, hgo, run_setObj (P := P) he (by simp)]
    · cases hv
end
end Go.AM

/-
  All acts that need no code of their own, in one.
-/
namespace Go.AM

section
variable {P : Program} {μ : Mu} {tm : Tm} {ρ : Operand → Value} {σ : H} {W : World}

theorem act_run (hs : Sim P μ σ W) {o : Oper} {a : AOp} (hc : cOp P o = some a) (hcl : a.cls = .act) (hnc : ∀ f xs, a ≠ .call f xs) (hρ : ∀ x ∈ allOpds a, VRel μ (ev tm x) (ρ x)) {rs : List (Value × H)} (hv : aact σ tm a = some rs) :
    ActOk P μ σ W ((execOp ρ o).run P W) rs := by
  obtain ⟨dst, op, type, pos, after, guard⟩ := o
  unfold cOp at hc
  have kill : ∀ {b : AOp}, b.cls ≠ .act → a = b → False := by rintro b hb rfl; exact hb hcl
  cases op <;> simp only [reduceCtorEq, Option.map_eq_some_iff, Option.some.injEq] at hc
  case move x => exact (kill (by simp [AOp.cls]) hc.symm).elim
  case assign x => exact (kill (by simp [AOp.cls]) hc.symm).elim
  case pick x y z => exact (kill (by simp [AOp.cls]) hc.symm).elim
  case alloc e => obtain ⟨z, _, hc⟩ := hc; exact (kill (by simp [AOp.cls]) hc.symm).elim
  case box e x => exact (kill (by simp [AOp.cls]) hc.symm).elim
  case build t ps =>
    exfalso
    split at hc
    · rename_i fs z _ _
      cases hb : (fs.toList.all fun f => (P.info? f.type).isSome) with
      | false => simp [hb] at hc
      | true => simp only [hb, cond_true, Option.map_eq_some_iff] at hc; obtain ⟨_, _, hc⟩ := hc; exact kill (by simp [AOp.cls]) hc.symm
    · split at hc
      · rename_i s _
        cases hb : Nat.beq s 0 with
        | true => simp [hb] at hc
        | false => simp only [hb, cond_false, Option.some.injEq] at hc; exact kill (by simp [AOp.cls]) hc.symm
      · cases hc
    · cases hc
  case buildSlice t len ps =>
    exfalso
    split at hc
    · rename_i e i _
      split at hc
      · cases hb : Nat.ble (len * i.size) 16777216 with
        | false => simp [hb] at hc
        | true => simp only [hb, cond_true, Option.some.injEq] at hc; exact kill (by simp [AOp.cls]) hc.symm
      · cases hc
    · cases hc
  case insert t m k v =>
    obtain ⟨⟨ek, e⟩, hk, rfl⟩ := hc
    have := act_mapUp (P := P) (tm := tm) (ρ := ρ) (W := W) hk hs (hρ m (by simp [allOpds])) (hρ k (by simp [allOpds])) (hρ v (by simp [allOpds])) hv
    exact this
  case mapUpdate t m k v =>
    obtain ⟨⟨ek, e⟩, hk, rfl⟩ := hc
    have := act_mapUp (P := P) (tm := tm) (ρ := ρ) (W := W) hk hs (hρ m (by simp [allOpds])) (hρ k (by simp [allOpds])) (hρ v (by simp [allOpds])) hv
    exact this
  case load t x => obtain ⟨g, _, hc⟩ := hc; exact (kill (by simp [AOp.cls]) hc.symm).elim
  case store t x v =>
    obtain ⟨n, hn, rfl⟩ := hc
    exact act_store (P := P) (tm := tm) (ρ := ρ) (W := W) hn hs (hρ x (by simp [allOpds])) (hρ v (by simp [allOpds])) hv
  case nilCheck x => exact (kill (by simp [AOp.cls]) hc.symm).elim
  case binOp => exact (kill (by simp [AOp.cls]) hc.symm).elim
  case unOp => exact (kill (by simp [AOp.cls]) hc.symm).elim
  case convert s d x =>
    exfalso
    split at hc <;> (try split at hc) <;> simp only [Option.some.injEq, reduceCtorEq] at hc <;> exact kill (by simp [AOp.cls]) hc.symm
  case makeInterface t x =>
    exfalso
    split at hc <;> simp only [Option.some.injEq, reduceCtorEq] at hc <;> exact kill (by simp [AOp.cls]) hc.symm
  case makeFunc fn a b =>
    exfalso
    split at hc <;> simp only [Option.some.injEq, reduceCtorEq] at hc <;> exact kill (by simp [AOp.cls]) hc.symm
  case makeMap t r =>
    exfalso
    cases r with
    | some r => simp only [reduceCtorEq] at hc
    | none =>
      simp only at hc
      split at hc <;> simp only [Option.some.injEq, reduceCtorEq] at hc
      exact kill (by simp [AOp.cls]) hc.symm
  case makeSlice t l c =>
    exfalso
    split at hc
    · simp only [Option.map_eq_some_iff] at hc; obtain ⟨_, _, hc⟩ := hc; exact kill (by simp [AOp.cls]) hc.symm
    · cases hc
  case slice t x lo hi mx =>
    exfalso
    split at hc
    · simp only [Option.some.injEq] at hc; exact kill (by simp [AOp.cls]) hc.symm
    · simp only [Option.map_eq_some_iff] at hc; obtain ⟨_, _, hc⟩ := hc; exact kill (by simp [AOp.cls]) hc.symm
    · cases hc
  case fieldAddr t x f =>
    exfalso
    split at hc
    · split at hc
      · rename_i i _
        cases hb : Nat.beq i.size 0 with
        | true => simp [hb] at hc
        | false => simp only [hb, cond_false, Option.some.injEq] at hc; exact kill (by simp [AOp.cls]) hc.symm
      · cases hc
    · cases hc
  case field t x f =>
    exfalso
    split at hc
    · simp only [Option.map_eq_some_iff] at hc; obtain ⟨_, _, hc⟩ := hc; exact kill (by simp [AOp.cls]) hc.symm
    · cases hc
  case indexAddr t x i =>
    exfalso
    split at hc
    · simp only [Option.map_eq_some_iff] at hc; obtain ⟨_, _, hc⟩ := hc; exact kill (by simp [AOp.cls]) hc.symm
    · simp only [Option.map_eq_some_iff] at hc; obtain ⟨_, _, hc⟩ := hc; exact kill (by simp [AOp.cls]) hc.symm
    · cases hc
  case index t x i =>
    exfalso
    split at hc
    · split at hc
      · simp only [Option.some.injEq] at hc; exact kill (by simp [AOp.cls]) hc.symm
      · cases hc
    · simp only [Option.some.injEq] at hc; exact kill (by simp [AOp.cls]) hc.symm
    · cases hc
  case lookup t x i ok =>
    exfalso
    split at hc
    · simp only [Option.map_eq_some_iff] at hc; obtain ⟨_, _, hc⟩ := hc; exact kill (by simp [AOp.cls]) hc.symm
    · cases hc
  case range t x =>
    have hx := fun (h : x ∈ allOpds a) => hρ x h
    split at hc
    · rename_i hu
      simp only [Option.some.injEq] at hc
      subst hc
      exact act_range (P := P) (tm := tm) (ρ := ρ) (W := W) (.inl ⟨hu, rfl⟩) hs (hx (by simp [allOpds])) hv
    · rename_i k e hu
      simp only [Option.some.injEq] at hc
      subst hc
      exact act_range (P := P) (tm := tm) (ρ := ρ) (W := W) (.inr ⟨⟨k, e, hu⟩, rfl⟩) hs (hx (by simp [allOpds])) hv
    · cases hc
  case next x str =>
    subst hc
    exact act_next (P := P) (tm := tm) (ρ := ρ) (W := W) hs (hρ x (by simp [allOpds])) hv
  case entry x => exact (kill (by simp [AOp.cls]) hc.symm).elim
  case panic x =>
    subst hc
    simp only [aact, reduceCtorEq] at hv
  case typeAssert x t u ok =>
    exfalso
    split at hc
    · cases hc
    · simp only [Option.map_eq_some_iff] at hc; obtain ⟨_, _, hc⟩ := hc; exact kill (by simp [AOp.cls]) hc.symm
    · cases hc
  case extract x i => exact (kill (by simp [AOp.cls]) hc.symm).elim
  case call c =>
    obtain ⟨callee, args, argTypes⟩ := c
    cases callee with
    | value f => simp only [Option.some.injEq] at hc; exact absurd hc.symm (hnc _ _)
    | invoke r m => simp at hc
    | builtin b =>
      simp only at hc
      have hargs : (args.map ρ) = ⟨args.toList.map ρ⟩ := by apply Array.ext'; simp
      have go : ∀ q : Sem Value, (∀ cs, builtin b argTypes type cs (args.map ρ) = (do pure (.value (← q)) : Sem Next)) →
          ActOk P μ σ W ((do pure (.value (← q)) : Sem Next).run P W) rs → ActOk P μ σ W ((execOp ρ ⟨dst, .call ⟨.builtin b, args, argTypes⟩, type, pos, after, guard⟩).run P W) rs := by
        intro q h1 h2
        simpa only [execOp, resolve, invoke, Sem.run_bind, Sem.run_pure, Result.andThen_ok, h1] using h2
      unfold cBuiltin at hc
      cases b <;> try (simp only [reduceCtorEq] at hc; done)
      case len =>
        exfalso
        obtain ⟨t, ht, hc⟩ := single_some hc
        obtain ⟨x, hx, hc⟩ := single_some hc
        unfold cLen at hc
        split at hc <;> simp only [Option.some.injEq, reduceCtorEq] at hc <;> exact kill (by simp [AOp.cls]) hc.symm
      case max => simp only [Option.some.injEq] at hc; exact (kill (by simp [AOp.cls]) hc.symm).elim
      case min => simp only [Option.some.injEq] at hc; exact (kill (by simp [AOp.cls]) hc.symm).elim
      case append =>
        obtain ⟨t, u, ht, hc⟩ := two_some hc
        obtain ⟨s, x, hx, hc⟩ := two_some hc
        have hat0 : argTypes[0]? = some t := by rw [← Array.getElem?_toList, ht]; rfl
        have hat1 : argTypes[1]? = some u := by rw [← Array.getElem?_toList, ht]; rfl
        have hax0 : (args.map ρ)[0]? = some (ρ s) := by rw [hargs, hx]; rfl
        have hax1 : (args.map ρ)[1]? = some (ρ x) := by rw [hargs, hx]; rfl
        unfold cAppend at hc
        split at hc
        · rename_i e i he
          obtain ⟨hu, hi, h1, h2⟩ := elemO_some he
          have mk : ∀ (m : Bool) (z : Value), zeroO P e = some z → (∃ d, P.underlying u = some d ∧ (d matches .int _) = m) → a = .append i.size (cellsOf z) m s x →
              ActOk P μ σ W ((execOp ρ ⟨dst, .call ⟨.builtin .append, args, argTypes⟩, type, pos, after, guard⟩).run P W) rs := by
            intro m z hz hm ha
            subst ha
            simp only [aact, Option.map_eq_some_iff] at hv
            obtain ⟨r, hr, rfl⟩ := hv
            exact go _ (fun _ => rfl) (act_append (P := P) hs ⟨hat0, hat1, hax0, hax1, hu, hi, h1, h2, hz, hm⟩ (hρ s (by simp [allOpds])) (hρ x (by simp [allOpds])) hr)
          split at hc
          · rename_i z k hz hk
            simp only [Option.some.injEq] at hc
            exact mk true z hz ⟨_, hk, rfl⟩ hc.symm
          · rename_i z d hnd hz hk
            simp only [Option.some.injEq] at hc
            refine mk false z hz ⟨_, hk, ?_⟩ hc.symm
            cases d <;> first | rfl | exact absurd rfl (hnd _)
          · cases hc
        · cases hc
      case copy =>
        obtain ⟨t, u, ht, hc⟩ := two_some hc
        obtain ⟨d, s, hx, hc⟩ := two_some hc
        simp only [Option.map_eq_some_iff] at hc
        obtain ⟨⟨e, i⟩, he, rfl⟩ := hc
        have hat0 : argTypes[0]? = some t := by rw [← Array.getElem?_toList, ht]; rfl
        have hax0 : (args.map ρ)[0]? = some (ρ d) := by rw [hargs, hx]; rfl
        have hax1 : (args.map ρ)[1]? = some (ρ s) := by rw [hargs, hx]; rfl
        exact go _ (fun _ => rfl) (act_copy (P := P) he hat0 hax0 hax1 hs (hρ d (by simp [allOpds])) (hρ s (by simp [allOpds])) hv)
      case clear =>
        obtain ⟨t, ht, hc⟩ := single_some hc
        obtain ⟨x, hx, hc⟩ := single_some hc
        have hat0 : argTypes[0]? = some t := by rw [← Array.getElem?_toList, ht]; rfl
        have hax0 : (args.map ρ)[0]? = some (ρ x) := by rw [hargs, hx]; rfl
        unfold cClear at hc
        split at hc
        · rename_i k e hu
          simp only [Option.some.injEq] at hc
          subst hc
          exact go _ (fun _ => rfl) (act_clearMp (P := P) hu hat0 hax0 hs (hρ x (by simp [allOpds])) hv)
        · rename_i e hu
          simp only [Option.map_eq_some_iff] at hc
          obtain ⟨z, hz, rfl⟩ := hc
          exact go _ (fun _ => rfl) (act_clearSl (P := P) hu hz hat0 hax0 hs (hρ x (by simp [allOpds])) hv)
        · cases hc
      case delete =>
        obtain ⟨t, u, ht, hc⟩ := two_some hc
        obtain ⟨m, k, hx, hc⟩ := two_some hc
        simp only [Option.map_eq_some_iff] at hc
        obtain ⟨⟨ek, e⟩, he, rfl⟩ := hc
        have hat0 : argTypes[0]? = some t := by rw [← Array.getElem?_toList, ht]; rfl
        have hax0 : (args.map ρ)[0]? = some (ρ m) := by rw [hargs, hx]; rfl
        have hax1 : (args.map ρ)[1]? = some (ρ k) := by rw [hargs, hx]; rfl
        exact go _ (fun _ => rfl) (act_delete (P := P) he hat0 hax0 hax1 hs (hρ m (by simp [allOpds])) (hρ k (by simp [allOpds])) hv)
end
end Go.AM

