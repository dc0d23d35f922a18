/-
  The abstract machine: code, functions, calls are sound.
-/
import Derived.Calls
import Derived.ProofKit
import Derived.Carry
import Derived.WideKeyArgs
import Derived.OpenShut
import Derived.Test.YtiopfolmngmkjaaAmD
/-
  Code of the abstract machine is sound.
-/
namespace Go.AM

/-- Where the machine is when code has come to an end. -/
inductive Arr (P : Program) (m : Machine) (b : Frame) (k : List Item) (cs : List Frame) (t : Array Value) (d : List Deferred) (W : World) : AX → Prop
  | nrm : Steps P m (lone (wi b t d k) cs W) → Arr P m b k cs t d W .nrm
  | ext {id : Nat} {k' : List Item} : exitTo id k' = exitTo id k → Steps P m (lone (wi b t d (.code (.exit id) :: k')) cs W) → Arr P m b k cs t d W (.ext id)
  | gto {l : Nat} {k' : List Item} : gotoIn l k' = gotoIn l k → Steps P m (lone (wi b t d (.code (.goto l) :: k')) cs W) → Arr P m b k cs t d W (.gto l)
  | ret {k' : List Item} : Steps P m (lone (wi b t d (.code .ret :: k')) cs W) → Arr P m b k cs t d W .ret

theorem Arr.head {P : Program} {m m1 : Machine} {b : Frame} {k : List Item} {cs : List Frame} {t : Array Value} {d : List Deferred} {W : World} {x : AX} (h : Steps P m m1) (a : Arr P m1 b k cs t d W x) : Arr P m b k cs t d W x := by
  cases a with
  | nrm s => exact .nrm (h.trans s)
  | ext e s => exact .ext e (h.trans s)
  | gto e s => exact .gto e (h.trans s)
  | ret s => exact .ret (h.trans s)

/-- Items that no jump stops at. -/
theorem Arr.pass {P : Program} {m : Machine} {b : Frame} {i : Item} {k : List Item} {cs : List Frame} {t : Array Value} {d : List Deferred} {W : World} {x : AX} (hx : x ≠ .nrm) (he : ∀ id, exitTo id (i :: k) = exitTo id k) (hg : ∀ l, gotoIn l (i :: k) = gotoIn l k) (a : Arr P m b (i :: k) cs t d W x) : Arr P m b k cs t d W x := by
  cases a with
  | nrm s => exact absurd rfl hx
  | ext e s => exact .ext (e.trans (he _)) s
  | gto e s => exact .gto (e.trans (hg _)) s
  | ret s => exact .ret s

inductive CRel (P : Program) (nt : Nat) : List Item → ACode → Prop
  | code {c : Code} {a : ACode} : cCode P nt c = some a → CRel P nt [.code c] a
  | scope {body cur : Code} {ab ac : ACode} : cCode P nt body = some ab → cCode P nt cur = some ac → CRel P nt [.code cur, .inScope body] (.scope ab ac)
  | loop {body : Code} {ab : ACode} : cCode P nt body = some ab → CRel P nt [.inLoop body] (.loop ab)

def CodeOk (P : Program) (code : ACode → St → Outs (AX × St)) : Prop :=
  ∀ nt items ac st outs, CRel P nt items ac → code ac st = some outs → ∀ μ b t d W k cs, Glb P μ → Sim P μ st.h W → SRel μ b nt st t d →
    ∃ out ∈ outs, ∃ μ' t' d' W', Step P μ st.h W μ' out.2.h W' ∧ SRel μ' b nt out.2 t' d' ∧ Arr P (lone (wi b t d (items ++ k)) cs W) b k cs t' d' W' out.1

section
variable {P : Program} {b : Frame} {t : Array Value} {d : List Deferred} {k : List Item} {cs : List Frame} {w w' : World}

theorem s_rangeFunc {f : Operand} {params : Array Tmp} {asg body : Code} {l : Nat} {mark : List Deferred} {w1 : World} {nx : Next} {F : Frame}
    (h1 : (Instr.enterLoop b.fn t params asg body b.roundOf).run P w = .ok (l, mark) w1)
    (h2 : (do let d ← Deferred.ofValue ((wi b t (mark ++ d) (.inRangeFunc l :: k)).eval f) ⟨[.func (.yield l) #[] #[]]⟩; invoke d.target d.args : Sem Next).run P w1 = .ok nx w') (h3 : nextFrame P nx = some F) :
    step P (lone (wi b t d (.code (.rangeFunc f params asg body) :: k)) cs w) = .next (lone F (wi b t (mark ++ d) (.inRangeFunc l :: k) :: cs) w') := by
  refine step_lone_go ?_
  have hres : resolve (wi b t (mark ++ d) (.inRangeFunc l :: k)).eval { callee := .value f, args := #[.const (.func (.yield l) #[] #[])], argTypes := #[] } 0 = Deferred.ofValue ((wi b t (mark ++ d) (.inRangeFunc l :: k)).eval f) ⟨[.func (.yield l) #[] #[]]⟩ := by
    simp [resolve, Frame.eval]
  simp only [stepG, stepG.exec, wi, Sem.runT_eq, h1, GStep.bare_after]
  simp only [wi] at h2 hres
  rw [hres]
  simp only [stepG.apply, if_true, Sem.runT_eq, h2, GStep.bare_after]
  cases nx <;> simp only [nextFrame, reduceCtorEq, Option.some.injEq] at h3 <;> subst h3 <;> rfl

theorem s_endRangeFunc {l : Nat} {jump : Option Code} (h : (Instr.endLoop l).run P w = .ok jump w') : step P (lone (wi b t d (.endRangeFunc l :: k)) cs w) = .next (lone (wi b t d ((jump.map Item.code).toList ++ k)) cs w') :=
  step_lone_go (by simp [stepG, stepG.exec, wi, h])
end

theorem findLabel_rel {P : Program} {nt : Nat} (l : Nat) : ∀ {body : Code} {ab : ACode}, cCode P nt body = some ab → (∃ rest ar, findLabel body l = some rest ∧ findLabelA ab l = some ar ∧ cCode P nt rest = some ar) ∨ (findLabel body l = none ∧ findLabelA ab l = none) := by
  intro body
  induction body with
  | seq a c iha ihc =>
    intro ab h
    simp only [cCode] at h
    split at h
    · rename_i x y hx hy
      simp only [Option.some.injEq] at h
      subst h
      rcases iha hx with ⟨rest, ar, h1, h2, h3⟩ | ⟨h1, h2⟩
      · exact .inl ⟨.seq rest c, .seq ar y, by simp [findLabel, h1], by simp [findLabelA, h2], by simp [cCode, h3, hy]⟩
      · rcases ihc hy with ⟨rest, ar, h3, h4, h5⟩ | ⟨h3, h4⟩
        · exact .inl ⟨rest, ar, by simp [findLabel, h1, h3], by simp [findLabelA, h2, h4], h5⟩
        · exact .inr ⟨by simp [findLabel, h1, h3], by simp [findLabelA, h2, h4]⟩
    · cases h
  | label l' =>
    intro ab h
    simp only [cCode, Option.some.injEq] at h
    subst h
    by_cases e : l' = l
    · subst e
      exact .inl ⟨.skip, .skip, by simp [findLabel], by simp [findLabelA], rfl⟩
    · have e2 : Nat.beq l' l = false := by
        cases hb : Nat.beq l' l with
        | false => rfl
        | true => exact absurd (Nat.eq_of_beq_eq_true hb) e
      exact .inr ⟨by simp [findLabel, e], by simp [findLabelA, e2]⟩
  | skip => intro ab h; simp only [cCode, Option.some.injEq] at h; subst h; exact .inr ⟨rfl, rfl⟩
  | region id ops dr =>
    intro ab h
    refine .inr ⟨rfl, ?_⟩
    simp only [cCode, cRegion] at h
    split at h
    · cases h
    · cases dr with
      | false => simp only [cond_false, Option.some.injEq] at h; subst h; rfl
      | true =>
        simp only [cond_true] at h
        obtain ⟨_, h⟩ := cond_some h
        subst h; rfl
  | cond c x y =>
    intro ab h
    refine .inr ⟨rfl, ?_⟩
    simp only [cCode] at h
    split at h
    · obtain ⟨_, h⟩ := cond_some h; subst h; rfl
    · cases h
  | block id x => intro ab h; simp only [cCode, Option.map_eq_some_iff] at h; obtain ⟨_, _, rfl⟩ := h; exact .inr ⟨rfl, rfl⟩
  | loop x => intro ab h; simp only [cCode, Option.map_eq_some_iff] at h; obtain ⟨_, _, rfl⟩ := h; exact .inr ⟨rfl, rfl⟩
  | rangeFunc f ps x y =>
    intro ab h
    refine .inr ⟨rfl, ?_⟩
    simp only [cCode] at h
    split at h
    · obtain ⟨_, h⟩ := cond_some h; subst h; rfl
    · cases h
  | exit id => intro ab h; simp only [cCode, Option.some.injEq] at h; subst h; exact .inr ⟨rfl, rfl⟩
  | scope x => intro ab h; simp only [cCode, Option.map_eq_some_iff] at h; obtain ⟨_, _, rfl⟩ := h; exact .inr ⟨rfl, rfl⟩
  | goto l' => intro ab h; simp only [cCode, Option.some.injEq] at h; subst h; exact .inr ⟨rfl, rfl⟩
  | ret => intro ab h; simp only [cCode, Option.some.injEq] at h; subst h; exact .inr ⟨rfl, rfl⟩
  | refuse w => intro ab h; simp only [cCode, Option.some.injEq] at h; subst h; exact .inr ⟨rfl, rfl⟩

theorem mapO_get {α β : Type} {f : α → Option β} : ∀ {l : List α} {r : List β}, mapO f l = some r → r.length = l.length ∧ ∀ (i : Nat) b, r[i]? = some b → ∃ a, l[i]? = some a ∧ f a = some b
  | [], r, h => by simp only [mapO, Option.some.injEq] at h; subst h; exact ⟨rfl, fun i b hb => by simp at hb⟩
  | a :: l, r, h => by
    simp only [mapO] at h
    split at h
    · rename_i x y hx hy
      simp only [Option.some.injEq] at h
      subst h
      obtain ⟨h1, h2⟩ := mapO_get hy
      refine ⟨by simp [h1], fun i b hb => ?_⟩
      cases i with
      | zero => simp at hb; subst hb; exact ⟨a, rfl, hx⟩
      | succ i => simp at hb; obtain ⟨a', q1, q2⟩ := h2 i b hb; exact ⟨a', by simpa using q1, q2⟩
    · cases h

section
variable {P : Program} {μ : Mu} {σ : H} {W : World}

theorem loop_obj (hs : Sim P μ σ W) {L : Nat} {s : LoopState} {pend : Option AJump} {tm : Tm} {ps : List Tmp} {asg body : ACode} {dfs : Nat} (hg : σ.get L = some (.loop s pend tm ps asg body dfs)) {blk : Nat} {o : Option Nat} (hm : μ L = some ⟨blk, 0, o⟩) :
    ∃ (fn : FuncId) (tmps : Array Value) (ca cb : Code) (d : Nat) (nt : Nat),
      W.heap[blk]? = some (.loop { state := s, pending := pend.map jumpCode, fn := fn, tmps := tmps, params := ⟨ps⟩, assign := ca, body := cb, defers := d }) ∧
      TmRel μ tm tmps ∧ tmps.size = nt ∧ (∀ p ∈ ps, p < nt) ∧ cCode P nt ca = some asg ∧ cCode P nt cb = some body ∧ (∃ o, μ dfs = some ⟨d, 0, o⟩) := by
  obtain ⟨l, h1, _, h2⟩ := hs.obj _ _ hg
  rw [hm] at h1; cases h1
  exact h2

theorem loop_put (hs : Sim P μ σ W) {L : Nat} {s s2 : LoopState} {pend pend2 : Option AJump} {tm : Tm} {ps : List Tmp} {asg body : ACode} {dfs : Nat} (hg : σ.get L = some (.loop s pend tm ps asg body dfs)) {blk : Nat} {o : Option Nat} (hm : μ L = some ⟨blk, 0, o⟩)
    {fn : FuncId} {tmps : Array Value} {ca cb : Code} {d : Nat} (hW : W.heap[blk]? = some (.loop { state := s, pending := pend.map jumpCode, fn := fn, tmps := tmps, params := ⟨ps⟩, assign := ca, body := cb, defers := d })) :
    (setObj blk (.loop { state := s2, pending := pend2.map jumpCode, fn := fn, tmps := tmps, params := ⟨ps⟩, assign := ca, body := cb, defers := d })).run P W = .ok () { W with heap := W.heap.setIfInBounds blk (.loop { state := s2, pending := pend2.map jumpCode, fn := fn, tmps := tmps, params := ⟨ps⟩, assign := ca, body := cb, defers := d }) } ∧
    Step P μ σ W μ (σ.put L (.loop s2 pend2 tm ps asg body dfs)) { W with heap := W.heap.setIfInBounds blk (.loop { state := s2, pending := pend2.map jumpCode, fn := fn, tmps := tmps, params := ⟨ps⟩, assign := ca, body := cb, defers := d }) } := by
  refine ⟨run_setObj hW (by simp), ?_⟩
  obtain ⟨fn', tmps', ca', cb', d', nt, h1, h2, h3, h4, h5, h6, h7⟩ := loop_obj hs hg hm
  rw [hW] at h1
  simp only [Option.some.injEq, Obj.loop.injEq, Loop.mk.injEq] at h1
  obtain ⟨_, _, rfl, rfl, _, rfl, rfl, rfl⟩ := h1
  refine Step.putObj hs hg rfl rfl hm (fun hsome => ⟨rfl, fn, tmps, ca, cb, d, nt, ?_, h2, h3, h4, h5, h6, h7⟩)
  have : blk < W.heap.size := (Array.getElem?_eq_some_iff.1 hW).1
  simp [this]
end
end Go.AM

/-
  The abstract machine's code, one level deeper.
-/
namespace Go.AM

section
variable {P : Program} {R : Rec}

theorem push2 {α : Type} (a : Array α) (x y : α) : ((a.push x).push y)[a.size + 1]? = some y := by
  rw [show a.size + 1 = (a.push x).size by simp, Array.getElem?_push]; simp

theorem enter_run {μ : Mu} {σ : H} {W : World} {b : Frame} {nt : Nat} {st : St} {t : Array Value} {d : List Deferred} (hg : Glb P μ) (hs : Sim P μ st.h W) (hr : SRel μ b nt st t d) {params : Array Tmp} {asg body : Code} {aasg abody : ACode}
    (hca : cCode P nt asg = some aasg) (hcb : cCode P nt body = some abody) (hps : ∀ p ∈ params.toList, p < nt) {l : Nat} {ds : List Nat} {h : H} (he : enterA st params.toList aasg abody = some (l, ds, h)) :
    ∃ blk mark W1 μ1, (Instr.enterLoop b.fn t params asg body b.roundOf).run P W = .ok (blk, mark) W1 ∧ Step P μ st.h W μ1 h W1 ∧ μ1 l = some ⟨blk, 0, none⟩ ∧ SRel μ1 b nt { st with ds := ds, h := h } t (mark ++ d) ∧ l < h.next := by
  unfold enterA at he
  have hrnd := hr.rnd
  split at he
  · rename_i hn
    simp only [Option.some.injEq, Prod.mk.injEq] at he
    obtain ⟨rfl, rfl, rfl⟩ := he
    rw [hn] at hrnd
    simp only at hrnd
    -- the mark, then the loop
    have s1 : Step P μ st.h W (μ.up st.h.next ⟨W.heap.size, 0, none⟩) (st.h.new (.dfd false)) { W with heap := W.heap.push (.deferred (some [])) } :=
      Step.alloc hs (fun K => H.get_new _ _ _) rfl rfl rfl rfl ⟨rfl, by simp⟩
    have s2 : Step P (μ.up st.h.next ⟨W.heap.size, 0, none⟩) (st.h.new (.dfd false)) { W with heap := W.heap.push (.deferred (some [])) }
        ((μ.up st.h.next ⟨W.heap.size, 0, none⟩).up (st.h.next + 1) ⟨W.heap.size + 1, 0, none⟩) ((st.h.new (.dfd false)).new (.loop .ready none st.tm params.toList aasg abody st.h.next))
        { W with heap := (W.heap.push (.deferred (some []))).push (.loop { state := .ready, pending := none, fn := b.fn, tmps := t, params := params, assign := asg, body := body, defers := W.heap.size }) } :=
      Step.alloc s1.sim (fun K => H.get_new _ _ _) rfl rfl rfl (by simp) ⟨rfl, b.fn, t, asg, body, W.heap.size, nt, push2 _ _ _, (hr.tm.mono s1.ext).mono (Mu.up_ext (s1.sim.nxt _ (by simp))), hr.sz, hps, hca, hcb, none, by
        rw [Mu.up_ne _ _ (by simp), Mu.up_same]⟩
    refine ⟨W.heap.size + 1, [{ target := .collected W.heap.size, args := #[] }], _, _, ?_, s1.trans s2, Mu.up_same _ _ _, ?_, by simp⟩
    · rw [hrnd]
      simp [Instr.enterLoop] <;> rfl
    · have hr2 := (hr.mono s1.ext).mono s2.ext
      refine ⟨hr2.tm, hr2.sz, .cons ⟨W.heap.size, none, ?_, rfl⟩ hr2.ds, hr2.rnd⟩
      rw [Mu.up_ne _ _ (by simp), Mu.up_same]
  · rename_i l0 hn
    split at he
    · rename_i dfs hl0
      simp only [Option.some.injEq, Prod.mk.injEq] at he
      obtain ⟨rfl, rfl, rfl⟩ := he
      rw [hn] at hrnd
      obtain ⟨blk0, o0, hb0, hm0⟩ := hrnd
      obtain ⟨fn, tmps, ca, cb, dd, nt2, h1, _, _, _, _, _, od, h7⟩ := loop_obj hs hl0 hm0
      have hgo := run_getObj (P := P) h1 (by simp)
      have s1 : Step P μ st.h W (μ.up st.h.next ⟨W.heap.size, 0, none⟩) (st.h.new (.loop .ready none st.tm params.toList aasg abody dfs))
          { W with heap := W.heap.push (.loop { state := .ready, pending := none, fn := b.fn, tmps := t, params := params, assign := asg, body := body, defers := dd }) } :=
        Step.alloc hs (fun K => H.get_new _ _ _) rfl rfl rfl rfl ⟨rfl, b.fn, t, asg, body, dd, nt, by simp, hr.tm.mono (Mu.up_ext (hs.nxt _ (Nat.le_refl _))), hr.sz, hps, hca, hcb, od, Mu.up_ext (hs.nxt _ (Nat.le_refl _)) _ _ h7⟩
      refine ⟨W.heap.size, [], _, _, ?_, s1, Mu.up_same _ _ _, ?_, by simp⟩
      · rw [hb0]
        simp [Instr.enterLoop, Instr.getLoop, hgo] <;> rfl
      · have hr2 := hr.mono s1.ext
        exact ⟨hr2.tm, hr2.sz, hr2.ds, hr2.rnd⟩
    · cases he

theorem codeF_ok (hm : P.follows .mixedOrders = true) (hR : CallOk P R.call) (hC : CodeOk P R.code) : CodeOk P (codeF R) := by
  intro nt items ac st outs hrel ho μ b t d W k cs hg hs hr
  -- the three that are alike: a body, and then
  have loopGo : ∀ {body : Code} {ab : ACode}, cCode P nt body = some ab → codeF R (.loop ab) st = some outs →
      ∃ out ∈ outs, ∃ μ' t' d' W', Step P μ st.h W μ' out.2.h W' ∧ SRel μ' b nt out.2 t' d' ∧ Arr P (lone (wi b t d (.code body :: .inLoop body :: k)) cs W) b k cs t' d' W' out.1 := by
    intro body ab hb ho
    simp only [codeF] at ho
    obtain ⟨l, hl, hin⟩ := bnd_some ho
    obtain ⟨r, hr1, μ1, t1, d1, W1, q1, q2, q3⟩ := hC nt [.code body] ab st l (.code hb) hl μ b t d W (.inLoop body :: k) cs hg hs hr
    obtain ⟨ra, h1, h2⟩ := hin hr1
    have other : r.1 ≠ .nrm → some [(r.1, r.2)] = some ra → ∃ out ∈ outs, ∃ μ' t' d' W', Step P μ st.h W μ' out.2.h W' ∧ SRel μ' b nt out.2 t' d' ∧ Arr P (lone (wi b t d (.code body :: .inLoop body :: k)) cs W) b k cs t' d' W' out.1 := by
      intro h3 h4
      simp only [Option.some.injEq] at h4
      subst h4
      exact ⟨(r.1, r.2), h2 _ (List.mem_singleton.2 rfl), μ1, t1, d1, W1, q1, q2, q3.pass h3 (fun _ => rfl) (fun _ => rfl)⟩
    obtain ⟨x, st1⟩ := r
    cases x with
    | nrm =>
      simp only at h1
      obtain ⟨out, h5, μ2, t2, d2, W2, r1, r2, r3⟩ := hC nt [.inLoop body] (.loop ab) st1 ra (.loop hb) h1 μ1 b t1 d1 W1 k cs (hg.mono q1.ext) q1.sim q2
      cases q3 with
      | nrm s => exact ⟨out, h2 _ h5, μ2, t2, d2, W2, q1.trans r1, r2, r3.head s⟩
    | ext id => exact other (by simp) h1
    | gto id => exact other (by simp) h1
    | ret => exact other (by simp) h1
  have scopeGo : ∀ {body cur : Code} {ab ac : ACode}, cCode P nt body = some ab → cCode P nt cur = some ac → codeF R (.scope ab ac) st = some outs →
      ∃ out ∈ outs, ∃ μ' t' d' W', Step P μ st.h W μ' out.2.h W' ∧ SRel μ' b nt out.2 t' d' ∧ Arr P (lone (wi b t d (.code cur :: .inScope body :: k)) cs W) b k cs t' d' W' out.1 := by
    intro body cur ab ac hb hcur ho
    simp only [codeF] at ho
    obtain ⟨l, hl, hin⟩ := bnd_some ho
    obtain ⟨r, hr1, μ1, t1, d1, W1, q1, q2, q3⟩ := hC nt [.code cur] ac st l (.code hcur) hl μ b t d W (.inScope body :: k) cs hg hs hr
    obtain ⟨ra, h1, h2⟩ := hin hr1
    obtain ⟨x, st1⟩ := r
    cases x with
    | nrm =>
      simp only [Option.some.injEq] at h1
      subst h1
      cases q3 with
      | nrm s => exact ⟨_, h2 _ (List.mem_singleton.2 rfl), μ1, t1, d1, W1, q1, q2, .nrm (s.trans (.one s_inScope))⟩
    | ext id =>
      simp only [Option.some.injEq] at h1
      subst h1
      cases q3 with
      | ext e s => exact ⟨_, h2 _ (List.mem_singleton.2 rfl), μ1, t1, d1, W1, q1, q2, .ext (e.trans rfl) s⟩
    | ret =>
      simp only [Option.some.injEq] at h1
      subst h1
      cases q3 with
      | ret s => exact ⟨_, h2 _ (List.mem_singleton.2 rfl), μ1, t1, d1, W1, q1, q2, .ret s⟩
    | gto lb =>
      cases q3 with
      | @gto _ k' e s =>
        rcases findLabel_rel (P := P) (nt := nt) lb hb with ⟨rest, ar, f1, f2, f3⟩ | ⟨f1, f2⟩
        · simp only [f2] at h1
          have e2 : gotoIn lb k' = some (.code rest :: .inScope body :: k) := by rw [e]; simp [gotoIn, f1]
          obtain ⟨out, h5, μ2, t2, d2, W2, r1, r2, r3⟩ := hC nt [.code rest, .inScope body] (.scope ab ar) st1 ra (.scope hb f3) h1 μ1 b t1 d1 W1 k cs (hg.mono q1.ext) q1.sim q2
          exact ⟨out, h2 _ h5, μ2, t2, d2, W2, q1.trans r1, r2, r3.head (s.trans (.one (s_goto e2)))⟩
        · simp only [f2, Option.some.injEq] at h1
          subst h1
          have e2 : gotoIn lb k' = gotoIn lb k := by rw [e]; simp [gotoIn, f1]
          exact ⟨_, h2 _ (List.mem_singleton.2 rfl), μ1, t1, d1, W1, q1, q2, .gto e2 s⟩
  cases hrel with
  | loop hb =>
    obtain ⟨out, h1, μ1, t1, d1, W1, q1, q2, q3⟩ := loopGo hb ho
    exact ⟨out, h1, μ1, t1, d1, W1, q1, q2, q3.head (.one s_inLoop)⟩
  | scope hb hcur => exact scopeGo hb hcur ho
  | @code c a hc =>
    cases c with
    | skip =>
      simp only [cCode, Option.some.injEq] at hc
      subst hc
      simp only [codeF, Option.some.injEq] at ho
      subst ho
      exact ⟨_, List.mem_singleton.2 rfl, μ, t, d, W, Step.refl hs, hr, .nrm (.one s_skip)⟩
    | label l =>
      simp only [cCode, Option.some.injEq] at hc
      subst hc
      simp only [codeF, Option.some.injEq] at ho
      subst ho
      exact ⟨_, List.mem_singleton.2 rfl, μ, t, d, W, Step.refl hs, hr, .nrm (.one s_label)⟩
    | region id ops dr =>
      simp only [cCode, cRegion] at hc
      split at hc
      · cases hc
      · rename_i l hl
        obtain ⟨hlen, hops⟩ := mapO_get hl
        have hops' : ∀ (j : Nat) (ao : AOper), l[j]? = some ao → ∃ o, ops[j]? = some o ∧ cOper P ops nt o = some ao := fun j ao hj => by
          obtain ⟨o, h1, h2⟩ := hops j ao hj
          exact ⟨o, by simpa using h1, h2⟩
        cases dr with
        | false =>
          simp only [cond_false, Option.some.injEq] at hc
          subst hc
          simp only [codeF] at ho
          obtain ⟨l2, hl2, hin⟩ := bnd_some ho
          obtain ⟨r, hr1, μ1, W1, t1, q1, q2, q3⟩ := ops_run hR (b := b) (d := d) (k := k) (cs := cs) l 0 (fun j ao hj => by simpa using hops' j ao hj) st l2 hl2 μ W t hg hs hr
          obtain ⟨ra, h1, h2⟩ := hin hr1
          simp only [Option.some.injEq] at h1
          subst h1
          refine ⟨_, h2 _ (List.mem_singleton.2 rfl), μ1, t1, d, W1, q1, q2, .nrm (.head s_region ?_)⟩
          have : List.range ops.size = List.range' 0 l.length := by rw [hlen, List.range_eq_range']; simp
          rw [this]
          exact q3.trans (.one s_regionEnd)
        | true =>
          simp only [cond_true] at hc
          obtain ⟨hok, hc⟩ := cond_some hc
          subst hc
          rw [Bool.and_eq_true] at hok
          simp only [codeF, Option.map_eq_some_iff] at ho
          obtain ⟨st', hst, rfl⟩ := ho
          obtain ⟨μ1, W1, t1, q1, q2, q3⟩ := draw_run (id := id) (k := k) (cs := cs) hR hm (by rw [hlen]; simp) hops' hok.1 hok.2 hst hg hs hr
          exact ⟨_, List.mem_singleton.2 rfl, μ1, t1, d, W1, q1, q2, .nrm q3⟩
    | seq x y =>
      simp only [cCode] at hc
      split at hc
      · rename_i ax ay hx hy
        simp only [Option.some.injEq] at hc
        subst hc
        simp only [codeF] at ho
        obtain ⟨l, hl, hin⟩ := bnd_some ho
        obtain ⟨r, hr1, μ1, t1, d1, W1, q1, q2, q3⟩ := hC nt [.code x] ax st l (.code hx) hl μ b t d W (.code y :: k) cs hg hs hr
        obtain ⟨ra, h1, h2⟩ := hin hr1
        have q4 : Arr P (lone (wi b t d (.code (.seq x y) :: k)) cs W) b (.code y :: k) cs t1 d1 W1 r.1 := q3.head (.one s_seq)
        have other : r.1 ≠ .nrm → some [(r.1, r.2)] = some ra → ∃ out ∈ outs, ∃ μ' t' d' W', Step P μ st.h W μ' out.2.h W' ∧ SRel μ' b nt out.2 t' d' ∧ Arr P (lone (wi b t d (.code (.seq x y) :: k)) cs W) b k cs t' d' W' out.1 := by
          intro h3 h4
          simp only [Option.some.injEq] at h4
          subst h4
          exact ⟨(r.1, r.2), h2 _ (List.mem_singleton.2 rfl), μ1, t1, d1, W1, q1, q2, q4.pass h3 (fun _ => rfl) (fun _ => rfl)⟩
        obtain ⟨x', st1⟩ := r
        cases x' with
        | nrm =>
          simp only at h1
          obtain ⟨out, h5, μ2, t2, d2, W2, r1, r2, r3⟩ := hC nt [.code y] ay st1 ra (.code hy) h1 μ1 b t1 d1 W1 k cs (hg.mono q1.ext) q1.sim q2
          cases q4 with
          | nrm s => exact ⟨out, h2 _ h5, μ2, t2, d2, W2, q1.trans r1, r2, r3.head s⟩
        | ext id => exact other (by simp) h1
        | gto id => exact other (by simp) h1
        | ret => exact other (by simp) h1
      · cases hc
    | cond c x y =>
      simp only [cCode] at hc
      split at hc
      · rename_i ax ay hx hy
        obtain ⟨hopd, hc⟩ := cond_some hc
        subst hc
        simp only [codeF] at ho
        split at ho
        · rename_i q hq
          have hev : (wi b t d (.code (.cond c x y) :: k)).eval c = .bool q := by
            have := ev_rel (fr := wi b t d (.code (.cond c x y) :: k)) hopd hg (fun z _ => hr.tm z)
            rw [hq] at this
            generalize (wi b t d (.code (.cond c x y) :: k)).eval c = u at this
            cases this; rfl
          have hbr : cCode P nt (if q then x else y) = some (bif q then ax else ay) := by cases q <;> simp [hx, hy]
          obtain ⟨out, h5, μ2, t2, d2, W2, r1, r2, r3⟩ := hC nt [.code (if q then x else y)] _ st outs (.code hbr) ho μ b t d W k cs hg hs hr
          exact ⟨out, h5, μ2, t2, d2, W2, r1, r2, r3.head (.one (s_cond hev))⟩
        · cases ho
      · cases hc
    | block id x =>
      simp only [cCode, Option.map_eq_some_iff] at hc
      obtain ⟨ax, hx, rfl⟩ := hc
      simp only [codeF] at ho
      obtain ⟨l, hl, hin⟩ := bnd_some ho
      obtain ⟨r, hr1, μ1, t1, d1, W1, q1, q2, q3⟩ := hC nt [.code x] ax st l (.code hx) hl μ b t d W (.inBlock id :: k) cs hg hs hr
      obtain ⟨ra, h1, h2⟩ := hin hr1
      have q4 : Arr P (lone (wi b t d (.code (.block id x) :: k)) cs W) b (.inBlock id :: k) cs t1 d1 W1 r.1 := q3.head (.one s_block)
      obtain ⟨x', st1⟩ := r
      cases x' with
      | nrm =>
        simp only [Option.some.injEq] at h1
        subst h1
        cases q4 with
        | nrm s => exact ⟨_, h2 _ (List.mem_singleton.2 rfl), μ1, t1, d1, W1, q1, q2, .nrm (s.trans (.one s_inBlock))⟩
      | ext j =>
        cases q4 with
        | @ext _ k' e s =>
          simp only at h1
          cases hb : Nat.beq j id with
          | true =>
            simp only [hb, cond_true, Option.some.injEq] at h1
            subst h1
            have := Nat.eq_of_beq_eq_true hb
            subst this
            exact ⟨_, h2 _ (List.mem_singleton.2 rfl), μ1, t1, d1, W1, q1, q2, .nrm (s.trans (.one (s_exit (by rw [e]; simp [exitTo]))))⟩
          | false =>
            simp only [hb, cond_false, Option.some.injEq] at h1
            subst h1
            have hne : (id == j) = false := by
              cases hq : (id == j) with
              | false => rfl
              | true =>
                rw [beq_iff_eq] at hq
                subst hq
                simp at hb
            exact ⟨_, h2 _ (List.mem_singleton.2 rfl), μ1, t1, d1, W1, q1, q2, .ext (by rw [e]; simp [exitTo, hne]) s⟩
      | gto lb =>
        simp only [Option.some.injEq] at h1
        subst h1
        cases q4 with
        | gto e s => exact ⟨_, h2 _ (List.mem_singleton.2 rfl), μ1, t1, d1, W1, q1, q2, .gto (e.trans rfl) s⟩
      | ret =>
        simp only [Option.some.injEq] at h1
        subst h1
        cases q4 with
        | ret s => exact ⟨_, h2 _ (List.mem_singleton.2 rfl), μ1, t1, d1, W1, q1, q2, .ret s⟩
    | loop x =>
      simp only [cCode, Option.map_eq_some_iff] at hc
      obtain ⟨ax, hx, rfl⟩ := hc
      obtain ⟨out, h1, μ1, t1, d1, W1, q1, q2, q3⟩ := loopGo hx ho
      exact ⟨out, h1, μ1, t1, d1, W1, q1, q2, q3.head (.one s_loop)⟩
    | rangeFunc f ps asg body =>
      simp only [cCode] at hc
      split at hc
      · rename_i aa ab haa hab
        obtain ⟨hok, hc⟩ := cond_some hc
        subst hc
        rw [Bool.and_eq_true, List.all_eq_true] at hok
        simp only [codeF] at ho
        split at ho
        · cases ho
        · rename_i l ds h hent
          obtain ⟨blk, mark, W1, μ1, e1, e2, e3, e4, e5⟩ := enter_run (σ := st.h) hg hs hr haa hab (fun p hp => by simpa using hok.2 p hp) hent
          obtain ⟨l1, hl1, hin⟩ := bnd_some ho
          have hf : VRel μ1 (ev st.tm f) ((wi b t (mark ++ d) (.inRangeFunc blk :: k)).eval f) := ev_rel hok.1 (hg.mono e2.ext) (fun z _ => e4.tm z)
          obtain ⟨r, hr1, μ2, W2, v', q1, q2, nx, F, q3, q4, q5⟩ := hR _ _ _ _ hl1 μ1 W1 _ [.func (.yield blk) #[] #[]] (wi b t (mark ++ d) (.inRangeFunc blk :: k)) cs (hg.mono e2.ext) e2.sim hf (.cons (.yield e3) .nil)
          obtain ⟨ra, h1, h2⟩ := hin hr1
          split at h1
          · rename_i s pend tm2 ps2 asg2 body2 dfs2 hgl
            have hnb : s ≠ .busy := by rintro rfl; cases h1
            have h1' : ra = [(pend.elim AX.nrm jumpX, ({ st with ds := ds, h := r.2.put l (.loop .exhausted pend tm2 ps2 asg2 body2 dfs2) } : St))] := by
              clear hgl
              cases s <;> cases pend <;> first | exact (Option.some.inj h1).symm | exact absurd rfl hnb
            subst h1'
            have hm2 := q1.ext _ _ e3
            obtain ⟨fn, tmps, ca, cb, dd, nt2, g1, _⟩ := loop_obj q1.sim hgl hm2
            obtain ⟨p1, p2⟩ := loop_put (s2 := .exhausted) (pend2 := pend) q1.sim hgl hm2 g1
            have hend : (Instr.endLoop blk).run P W2 = .ok (pend.map jumpCode) { W2 with heap := W2.heap.setIfInBounds blk (.loop { state := .exhausted, pending := pend.map jumpCode, fn := fn, tmps := tmps, params := ⟨ps2⟩, assign := ca, body := cb, defers := dd }) } := by
              have hgo := run_getObj (P := P) g1 (by simp)
              simp [Instr.endLoop, Instr.getLoop, hgo, hnb, p1]
            have hstep : Step P μ st.h W μ2 (r.2.put l (.loop .exhausted pend tm2 ps2 asg2 body2 dfs2)) _ := (e2.trans q1).trans p2
            have hsrel := e4.mono q1.ext
            refine ⟨_, h2 _ (List.mem_singleton.2 rfl), μ2, t, mark ++ d, _, hstep, ⟨hsrel.tm, hsrel.sz, hsrel.ds, hsrel.rnd⟩, ?_⟩
            have hback := q5
            have hfin : (wi b t (mark ++ d) (.inRangeFunc blk :: k)).finish v' = wi b t (mark ++ d) (.endRangeFunc blk :: k) := rfl
            rw [hfin] at hback
            have hall := Steps.trans (.head (s_rangeFunc (cs := cs) (k := k) (d := d) (f := f) e1 q3 q4) hback) (.one (s_endRangeFunc hend))
            cases pend with
            | none => exact .nrm (by simpa using hall)
            | some j =>
              cases j with
              | ret => exact .ret (k' := k) (by simpa [jumpCode] using hall)
              | exit id => exact .ext (k' := k) rfl (by simpa [jumpCode] using hall)
              | goto lb => exact .gto (k' := k) rfl (by simpa [jumpCode] using hall)
          · cases h1
      · cases hc
    | exit id =>
      simp only [cCode, Option.some.injEq] at hc
      subst hc
      simp only [codeF, Option.some.injEq] at ho
      subst ho
      exact ⟨_, List.mem_singleton.2 rfl, μ, t, d, W, Step.refl hs, hr, .ext rfl (.refl _ _)⟩
    | scope x =>
      simp only [cCode, Option.map_eq_some_iff] at hc
      obtain ⟨ax, hx, rfl⟩ := hc
      obtain ⟨out, h1, μ1, t1, d1, W1, q1, q2, q3⟩ := scopeGo hx hx ho
      exact ⟨out, h1, μ1, t1, d1, W1, q1, q2, q3.head (.one s_scope)⟩
    | goto l =>
      simp only [cCode, Option.some.injEq] at hc
      subst hc
      simp only [codeF, Option.some.injEq] at ho
      subst ho
      exact ⟨_, List.mem_singleton.2 rfl, μ, t, d, W, Step.refl hs, hr, .gto rfl (.refl _ _)⟩
    | ret =>
      simp only [cCode, Option.some.injEq] at hc
      subst hc
      simp only [codeF, Option.some.injEq] at ho
      subst ho
      exact ⟨_, List.mem_singleton.2 rfl, μ, t, d, W, Step.refl hs, hr, .ret (.refl _ _)⟩
    | refuse why =>
      simp only [cCode, Option.some.injEq] at hc
      subst hc
      simp only [codeF, reduceCtorEq] at ho
end
end Go.AM

/-
  What a call leaves behind; functions of the abstract machine are sound.
-/
namespace Go.AM

theorem argTm_g : ∀ (vs : List Value) (i : Nat) (tm : Tm) (x : Nat), (argTm i vs tm).g x = if i ≤ x ∧ x < i + vs.length then vs.getD (x - i) undef else tm.g x
  | [], i, tm, x => by simp only [argTm, List.length_nil]; rw [if_neg (by omega)]
  | v :: vs, i, tm, x => by
    rw [argTm, argTm_g vs (i + 1)]
    have hset : Tm.g (Trie.set tm i v) x = if x = i then v else tm.g x := by unfold Tm.g; rw [Trie.get_set]; split <;> simp
    rw [hset]
    simp only [List.length_cons]
    by_cases h : x = i
    · subst h
      rw [if_neg (by omega), if_pos rfl, if_pos (by omega)]
      simp
    · rw [if_neg h]
      by_cases h2 : i + 1 ≤ x ∧ x < i + 1 + vs.length
      · rw [if_pos h2, if_pos (by omega)]
        rw [show x - i = x - (i + 1) + 1 by omega]
        simp
      · rw [if_neg h2, if_neg (by omega)]

theorem enter_tm {μ : Mu} {args args' : List Value} (h : All2 (VRel μ) args args') (n : Nat) : TmRel μ (argTm 0 args .leaf) ((⟨args'⟩ : Array Value) ++ Array.replicate (n - args'.length) undef) := by
  intro x
  rw [argTm_g]
  have hl := h.length_eq
  have hleaf : Tm.g (.leaf : Tm) x = undef := by unfold Tm.g; simp
  by_cases hx : x < args.length
  · rw [if_pos ⟨Nat.zero_le _, by omega⟩]
    have h1 : args[x]? = some (args[x]) := List.getElem?_eq_getElem hx
    obtain ⟨v', h2, h3⟩ := h.get h1
    rw [Nat.sub_zero, List.getD_eq_getElem?_getD, h1, Array.getD_eq_getD_getElem?, Array.getElem?_append_left (by simp; omega)]
    simp only [List.getElem?_toArray, h2, Option.getD_some]
    exact h3
  · rw [if_neg (by omega), hleaf, Array.getD_eq_getD_getElem?]
    have : (((⟨args'⟩ : Array Value) ++ Array.replicate (n - args'.length) undef)[x]?).getD undef = undef := by
      rw [Array.getElem?_append_right (by simp; omega)]
      by_cases hy : x - args'.length < n - args'.length
      · simp [hy]
      · simp [hy]
    rw [this]
    exact undef_rel μ

/-! ### What is dropped behind a call -/
theorem plain2_rel {μ μ' : Mu} {v v' : Value} (hp : plain2 v = true) (h : VRel μ' v v') : VRel μ v v' := by
  by_cases ht : ∃ cs, v = .tuple cs
  · obtain ⟨cs, rfl⟩ := ht
    simp only [plain2, List.all_eq_true] at hp
    cases h with
    | tuple h1 h2 =>
      refine .tuple h1 fun i u u' hu hu' => ?_
      have hpu := hp u (List.mem_of_getElem? hu)
      rw [rel_plainV (h2 i u u' hu hu') hpu]
      exact plainV_rel μ hpu
  · have hp' : plainV v = true := by
      cases v <;> first | exact hp | exact absurd ⟨_, rfl⟩ ht
    rw [rel_plainV h hp']
    exact plainV_rel μ hp'

theorem eqOut_eq {a b : NOut} (h : eqOut a b = true) : a = b := by
  cases a <;> cases b <;> try (simp only [eqOut, Bool.false_eq_true] at h; done)
  case pl.pl => rw [veq_eq h]
  case sl.sl =>
    simp only [eqOut, Bool.and_eq_true, decide_eq_true_eq, beq_iff_eq] at h
    obtain ⟨h1, h2, h3, h4, h5⟩ := h
    rw [veqL_eq (fun _ _ => veq0_eq) h1, h2, h3, Nat.eq_of_beq_eq_true h4, Nat.eq_of_beq_eq_true h5]

theorem dedup_mem {o : NOut} : ∀ (os acc : List NOut), (o ∈ acc ∨ o ∈ os) → o ∈ dedup acc os
  | [], acc, h => by
    rcases h with h | h
    · simpa [dedup] using h
    · cases h
  | x :: os, acc, h => by
    rw [dedup]
    cases ha : acc.any (eqOut x) with
    | true =>
      simp only [cond_true]
      refine dedup_mem os acc ?_
      rcases h with h | h
      · exact .inl h
      · rcases List.mem_cons.1 h with rfl | h
        · obtain ⟨y, h1, h2⟩ := List.any_eq_true.1 ha
          rw [eqOut_eq h2]; exact .inl h1
        · exact .inr h
    | false =>
      simp only [cond_false]
      refine dedup_mem os (x :: acc) ?_
      rcases h with h | h
      · exact .inl (List.mem_cons_of_mem _ h)
      · rcases List.mem_cons.1 h with rfl | h
        · exact .inl (by simp)
        · exact .inr h

section
variable {P : Program} {μ μ' : Mu} {σ : H} {W W' : World}

theorem live_lt (hs : Sim P μ σ W) {L : Nat} {o : AObj} (h : σ.get L = some o) : L < σ.next := by
  obtain ⟨l, h1, _⟩ := hs.obj L o h
  rcases Nat.lt_or_ge L σ.next with h2 | h2
  · exact h2
  · rw [hs.nxt L h2] at h1; cases h1

theorem norm_ok (hs : Sim P μ σ W) {l : List (Value × H)} {r : Value × H} (hr : r ∈ l) (s : Step P μ (σ.withLow σ.next) W μ' r.2 W') {v' : Value} (hv : VRel μ' r.1 v') : ∃ r2 ∈ normAll σ l, ∃ μ2, Step P μ σ W μ2 r2.2 W' ∧ VRel μ2 r2.1 v' := by
  have hmem : outOf σ (normOut σ r) ∈ normAll σ l := List.mem_map_of_mem (dedup_mem _ _ (.inr (List.mem_map_of_mem hr)))
  refine ⟨_, hmem, ?_⟩
  have raw : normOut σ r = .raw r.1 r.2 → ∃ μ2, Step P μ σ W μ2 (outOf σ (normOut σ r)).2 W' ∧ VRel μ2 (outOf σ (normOut σ r)).1 v' := by
    intro e
    rw [e]
    refine ⟨μ', ?_, hv⟩
    show Step P μ σ W μ' (r.2.withLow (minN σ.low r.2.low)) W'
    exact {
      sim := s.sim.weaken (fun L o h => h) (Nat.le_refl _)
      ext := s.ext
      fresh := s.fresh
      next := s.next
      size := s.size
      own := s.own
      frame := s.frame
      os := s.os
      tape := s.tape
      output := s.output
      low := minN_left _ _
      kept := fun L o l h1 h2 h3 => s.kept L o l (Nat.lt_of_lt_of_le h1 (minN_right _ _)) h2 h3
      ro := s.ro
      back := s.back }
  have hk : σ.next ≤ r.2.low → ∀ L o l, σ.get L = some o → μ L = some l → r.2.get L = some o ∧ W'.heap[l.blk]? = W.heap[l.blk]? := by
    intro hlow L o l h1 h2
    exact s.kept L o l (Nat.lt_of_lt_of_le (live_lt hs h1) hlow) h1 h2
  unfold normOut at raw hmem ⊢
  cases hb : Nat.ble σ.next r.2.low with
  | false => rw [hb] at raw; simp only [cond_false] at raw ⊢; exact raw trivial
  | true =>
    have hlow := Nat.le_of_ble_eq_true hb
    have hkk := hk hlow
    simp only [hb, cond_true] at raw ⊢
    cases hp : plain2 r.1 with
    | true =>
      simp only [hp, cond_true] at raw ⊢
      refine ⟨μ, ?_, plain2_rel hp hv⟩
      show Step P μ σ W μ σ W'
      exact {
        sim := ⟨fun L o hL => by
          obtain ⟨l, h1, h2⟩ := hs.obj L o hL
          exact ⟨l, h1, h2.mono (Ext.refl _) (hkk L o l hL h1).2⟩, hs.inj, hs.nxt⟩
        ext := Ext.refl _
        fresh := fun _ _ => rfl
        next := Nat.le_refl _
        size := s.size
        own := fun b h => .inr h
        frame := s.frame
        os := s.os
        tape := s.tape
        output := s.output
        low := Nat.le_refl _
        kept := fun L o l _ h2 h3 => ⟨h2, (hkk L o l h2 h3).2⟩
        ro := fun L o h _ => h
        back := fun L o _ h => ⟨o, h⟩ }
    | false =>
      simp only [hp, cond_false] at raw ⊢
      split at raw
      · rename_i L sp n c hrv
        cases hL : Nat.ble σ.next L with
        | false => simp only [hL, cond_false] at raw ⊢; exact raw trivial
        | true =>
          have hLn := Nat.le_of_ble_eq_true hL
          simp only [hL, cond_true] at raw ⊢
          split at raw
          · rename_i cs opn hg
            cases hpl : cs.all plain0 with
            | false => simp only [hpl, cond_false] at raw ⊢; exact raw trivial
            | true =>
              simp only [cond_true]
              obtain ⟨l, hl, ho⟩ := s.sim.obj L _ hg
              rw [List.all_eq_true] at hpl
              have hnn : μ σ.next = none := hs.nxt _ (Nat.le_refl _)
              have hext : Ext μ (μ.up σ.next l) := Mu.up_ext hnn
              have hgn : ∀ K, (σ.new (.row cs opn false)).get K = if K = σ.next then some (.row cs opn false) else σ.get K := fun K => H.get_new _ _ _
              have hob : ORel P (μ.up σ.next l) W' (.row cs opn false) l := by
                obtain ⟨pre, mid, post, e, fz, h1, h2, h3, h4, h5, h6⟩ := ho
                refine ⟨pre, mid, post, e, fz, h1, h2, ?_, h4, h5, h6⟩
                refine All2.of_idx h3.length_eq fun i a a' ha ha' => ?_
                obtain ⟨a2, q1, q2⟩ := h3.get ha
                rw [ha'] at q1; cases q1
                have hpa := hpl a (List.mem_of_getElem? ha)
                rw [rel_plain0 q2 hpa]
                exact plain0_rel _ hpa
              have hne : ∀ K oK lK, σ.get K = some oK → μ K = some lK → lK.blk ≠ l.blk := by
                intro K oK lK h1 h2
                have h3 := (hkk K oK lK h1 h2).1
                have hKL : K ≠ L := by have := live_lt hs h1; omega
                exact s.sim.inj K L oK _ lK l h3 hg hKL (s.ext _ _ h2) hl (.inr rfl)
              refine ⟨μ.up σ.next l, ?_, ?_⟩
              · show Step P μ σ W (μ.up σ.next l) (σ.new (.row cs opn false)) W'
                exact {
                  sim := ⟨fun K oK hK => by
                      rw [hgn] at hK
                      split at hK
                      · rename_i e
                        subst e; cases hK
                        exact ⟨l, Mu.up_same _ _ _, hob⟩
                      · rename_i e
                        obtain ⟨lK, h1, h2⟩ := hs.obj K oK hK
                        exact ⟨lK, by rw [Mu.up_ne _ _ e]; exact h1, h2.mono hext (hkk K oK lK hK h1).2⟩,
                    fun A B oA oB lA lB hA hB hAB hlA hlB hro => by
                      rw [hgn] at hA hB
                      split at hA
                      · rename_i eA
                        subst eA
                        rw [Mu.up_same] at hlA; cases hlA
                        rw [if_neg (Ne.symm hAB)] at hB
                        rw [Mu.up_ne _ _ (Ne.symm hAB)] at hlB
                        exact fun e => hne B oB lB hB hlB e.symm
                      · rename_i eA
                        rw [Mu.up_ne _ _ eA] at hlA
                        split at hB
                        · rename_i eB
                          subst eB
                          rw [Mu.up_same] at hlB; cases hlB
                          exact hne A oA lA hA hlA
                        · rename_i eB
                          rw [Mu.up_ne _ _ eB] at hlB
                          exact hs.inj A B oA oB lA lB hA hB hAB hlA hlB hro,
                    fun K hK => by
                      simp only [H.next_new] at hK
                      rw [Mu.up_ne _ _ (by omega)]
                      exact hs.nxt K (by omega)⟩
                  ext := hext
                  fresh := fun K hK => Mu.up_ne _ _ (by omega)
                  next := by simp
                  size := s.size
                  own := fun b hb => by
                    obtain ⟨K, oK, lK, h1, h2, h3, h4⟩ := hb
                    rw [hgn] at h1
                    split at h1
                    · rename_i e
                      subst e
                      rw [Mu.up_same] at h3; cases h3
                      rcases s.own b ⟨L, _, l, hg, rfl, hl, h4⟩ with h5 | h5
                      · exact .inl h5
                      · exact .inr h5
                    · rename_i e
                      rw [Mu.up_ne _ _ e] at h3
                      exact .inr ⟨K, oK, lK, h1, h2, h3, h4⟩
                  frame := s.frame
                  os := s.os
                  tape := s.tape
                  output := s.output
                  low := Nat.le_refl _
                  kept := fun K oK lK _ h2 h3 => ⟨by rw [hgn, if_neg (by have := live_lt hs h2; omega)]; exact h2, (hkk K oK lK h2 h3).2⟩
                  ro := fun K oK h1 h2 => by
                    rw [hgn] at h1
                    split at h1
                    · cases h1; cases h2
                    · exact h1
                  back := fun K oK hK h1 => by
                    rw [hgn, if_neg (by omega)] at h1
                    exact ⟨oK, h1⟩ }
              · show VRel (μ.up σ.next l) (.slice (some ⟨σ.next, 0, sp⟩) n c) v'
                rw [hrv] at hv
                rcases inv_slice' hv with ⟨b, s0, hsp, hm, rfl⟩ | ⟨b, s0, N, e, c', hsp, hm, hc, hN, rfl⟩ | ⟨rfl, rfl, A, rfl⟩
                · simp only at hsp hm
                  subst hsp
                  rw [hl] at hm; cases hm
                  exact .slice (Mu.up_same _ _ _)
                · simp only at hsp hm
                  subst hsp
                  rw [hl] at hm; cases hm
                  exact .sliceO (Mu.up_same _ _ _) hc hN
                · exact .sliceZ _ _
          · exact raw rfl
      · exact raw rfl
end
end Go.AM

/-
  Functions, rounds and calls; the whole run.
-/
namespace Go.AM

theorem cFunc_some {P : Program} {F : Func} {af : AFunc} (h : cFunc P F = some af) : ∃ body, F.body = some body ∧ cCode P F.ntmps body = some af.body ∧ mapO (cRes P F.ntmps) F.results.toList = some af.res ∧ af.ntmps = F.ntmps ∧ (F.name == "runtime.NumGoroutine") = false := by
  unfold cFunc at h
  split at h
  · cases h
  · rename_i b hb
    split at h
    · rename_i c r hc hr
      cases hn : (F.name == "runtime.NumGoroutine") with
      | true => rw [hn] at h; cases h
      | false =>
        rw [hn] at h
        simp only [cond_false, Option.some.injEq] at h
        subst h
        exact ⟨b, hb, hc, hr, rfl, rfl⟩
    · cases h

section
variable {P : Program} {μ : Mu} {σ : H} {W : World}

theorem unwind_mark {b : Frame} {t : Array Value} {d : List Deferred} {todo : List Item} {cs : List Frame} {blk : Nat} {w w' : World} (h : (Instr.takeDeferred blk).run P w = .ok [] w') :
    step P (lone { wi b t ({ target := .collected blk, args := #[] } :: d) todo with mode := .returning } cs w) = .next (lone { wi b t d todo with mode := .returning } cs w') :=
  step_lone_go (by simp [stepG, unwind, wi, h])

theorem marks_run {b : Frame} {t : Array Value} {todo : List Item} {cs : List Frame} : ∀ {ds : List Nat} {d : List Deferred} {μ : Mu} {σ h' : H} {W : World}, All2 (MarkRel μ) ds d → takeMarks ds σ = some h' → Sim P μ σ W →
    ∃ W', Step P μ σ W μ h' W' ∧ Steps P (lone { wi b t d todo with mode := .returning } cs W) (lone { wi b t [] todo with mode := .returning } cs W')
  | [], _, μ, σ, h', W, .nil, ht, hs => by
    simp only [takeMarks, Option.some.injEq] at ht
    subst ht
    exact ⟨W, Step.refl hs, .refl _ _⟩
  | L :: ds, _, μ, σ, h', W, .cons h1 h2, ht, hs => by
    obtain ⟨blk, o, hm, rfl⟩ := h1
    simp only [takeMarks] at ht
    split at ht
    · rename_i hg
      obtain ⟨l, q1, _, q2⟩ := hs.obj _ _ hg
      rw [hm] at q1; cases q1
      simp only [Bool.false_eq_true, if_false] at q2
      have hgo := run_getObj (P := P) q2 (by simp)
      have hst : Step P μ σ W μ (σ.put L (.dfd true)) { W with heap := W.heap.setIfInBounds blk (.deferred none) } :=
        Step.putObj hs hg rfl rfl hm (ob := .deferred none) (fun hsome => ⟨rfl, by
          have : blk < W.heap.size := (Array.getElem?_eq_some_iff.1 q2).1
          simp [this]⟩)
      have htake : (Instr.takeDeferred blk).run P W = .ok [] { W with heap := W.heap.setIfInBounds blk (.deferred none) } := by
        simp [Instr.takeDeferred, hgo, run_setObj (P := P) q2 (by simp)]
      obtain ⟨W', r1, r2⟩ := marks_run h2 ht hst.sim
      exact ⟨W', hst.trans r1, .head (unwind_mark htake) r2⟩
    · cases ht

theorem resOne_run (hs : Sim P μ σ W) {tm : Tm} {t : Array Value} (ht : TmRel μ tm t) {nt : Nat} {rv : ResultVar} {ar : ARes} (hc : cRes P nt rv = some ar) {v : Value} (hv : resOne tm σ ar = some v) :
    ∃ v', ((match rv with | .tmp x => pure (t.getD x undef) | .cell a ty => do loadVar ty (← asAddr (t.getD a undef)) : Sem Value)).run P W = .ok v' W ∧ VRel μ v v' := by
  cases rv with
  | tmp x =>
    simp only [cRes, Option.some.injEq] at hc
    subst hc
    simp only [resOne, Option.some.injEq] at hv
    subst hv
    exact ⟨_, rfl, ht x⟩
  | cell a ty =>
    simp only [cRes, Option.map_eq_some_iff] at hc
    obtain ⟨g, hg, rfl⟩ := hc
    simp only [resOne, aread, ev] at hv
    have hx := ht a
    obtain ⟨ha, i, hi, hn, _⟩ := aggOf_run hg W
    show ∃ v', ((do loadVar ty (← asAddr (t.getD a undef)) : Sem Value)).run P W = .ok v' W ∧ VRel μ v v'
    generalize tm.g a = X at hv hx
    generalize t.getD a undef = X' at hx ⊢
    cases X <;> try (simp only [reduceCtorEq] at hv; done)
    rename_i p
    cases p with
    | none => simp only [reduceCtorEq] at hv
    | some p =>
      obtain ⟨b, s, o, hsp, hm, hX⟩ := inv_ptr hx
      cases g with
      | some n =>
        have := hn n rfl; subst this
        simp only [Option.map_eq_some_iff] at hv
        obtain ⟨cs, hr, rfl⟩ := hv
        obtain ⟨r', g1, g2, g3, _⟩ := read_run (P := P) hs hr hm rfl
        refine ⟨.agg ⟨r'⟩, ?_, VRel.aggOf g2 g3⟩
        simp [hX, asAddr, loadVar, ha, run_sizeO hi, g1]
      | none =>
        simp only at hv
        split at hv
        · rename_i cs o1 o2 hgr
          obtain ⟨v', g1, g2⟩ := cell_run hs hgr hv hm
          refine ⟨v', ?_, g2⟩
          simp [hX, asAddr, loadVar, ha, run_load, g1]
        · cases hv

theorem resAll_run (hs : Sim P μ σ W) {tm : Tm} {t : Array Value} (ht : TmRel μ tm t) {nt : Nat} : ∀ {rvs : List ResultVar} {ars : List ARes} {vs : List Value}, mapO (cRes P nt) rvs = some ars → resAll tm σ ars = some vs →
    ∃ vs', (rvs.mapM fun rv => (match rv with | .tmp x => pure (t.getD x undef) | .cell a ty => do loadVar ty (← asAddr (t.getD a undef)) : Sem Value)).run P W = .ok vs' W ∧ All2 (VRel μ) vs vs'
  | [], ars, vs, h1, h2 => by
    simp only [mapO, Option.some.injEq] at h1
    subst h1
    simp only [resAll, Option.some.injEq] at h2
    subst h2
    exact ⟨[], by simp, .nil⟩
  | rv :: rvs, ars, vs, h1, h2 => by
    simp only [mapO] at h1
    split at h1
    · rename_i a as ha has
      simp only [Option.some.injEq] at h1
      subst h1
      simp only [resAll] at h2
      split at h2
      · rename_i v vs2 hv hvs
        simp only [Option.some.injEq] at h2
        subst h2
        obtain ⟨v', q1, q2⟩ := resOne_run hs ht ha hv
        obtain ⟨vs', q3, q4⟩ := resAll_run hs ht has hvs
        refine ⟨v' :: vs', ?_, .cons q2 q4⟩
        rw [List.mapM_cons]
        simp only [Sem.run_bind, q1, Result.andThen_ok, q3, Sem.run_pure]
      · cases h2
    · cases h1

theorem pack_rel {vs vs' : List Value} (h : All2 (VRel μ) vs vs') : VRel μ (pack vs) (if h : (⟨vs'⟩ : Array Value).size = 1 then (⟨vs'⟩ : Array Value)[0] else .tuple ⟨vs'⟩) := by
  cases h with
  | nil => simp [pack]; exact .tuple rfl (by simp)
  | cons h1 h2 =>
    cases h2 with
    | nil => simpa [pack] using h1
    | cons h3 h4 =>
      simp only [pack, List.size_toArray, List.length_cons]
      rw [dif_neg (by omega)]
      exact VRel.tupleOf (.cons h1 (.cons h3 h4))

theorem results_run (hs : Sim P μ σ W) {tm : Tm} {t : Array Value} (ht : TmRel μ tm t) {nt : Nat} {F : Func} {ars : List ARes} {vs : List Value} (h1 : mapO (cRes P nt) F.results.toList = some ars) (h2 : resAll tm σ ars = some vs) :
    ∃ v', (results F t).run P W = .ok v' W ∧ VRel μ (pack vs) v' := by
  obtain ⟨vs', q1, q2⟩ := resAll_run hs ht h1 h2
  refine ⟨_, ?_, pack_rel q2⟩
  unfold results
  rw [Array.mapM_eq_mapM_toList]
  simp only [Sem.run_bind, map_eq_pure_bind, Sem.run_pure]
  erw [q1]
  rfl

/-- The frame that a call of a function begins in. -/
def f0 (f : FuncId) : Frame := { fn := f, tmps := #[], todo := [], defers := [], mode := .run, kind := .normal }

theorem funcF_ok {R : Rec} (hC : CodeOk P R.code) {f : FuncId} {F : Func} {af : AFunc} (hF : P.funcs[f]? = some F) (hcf : cFunc P F = some af) {args : List Value} {h : H} {outs : List (Value × H)} (ho : funcF R af args h = some outs)
    {args' : List Value} (hg : Glb P μ) (hs : Sim P μ h W) (ha : All2 (VRel μ) args args') (cs : List Frame) :
    ∃ r ∈ outs, ∃ μ' W' v' fr, Step P μ h W μ' r.2 W' ∧ VRel μ' r.1 v' ∧ Steps P (lone (Frame.enter P f ⟨args'⟩ .normal) cs W) (lone fr cs W') ∧ fr.fn = f ∧ fr.leaving P W' (.returned v') := by
  obtain ⟨body, hb, hcode, hres, hnt, _⟩ := cFunc_some hcf
  unfold funcF at ho
  cases hle : Nat.ble args.length af.ntmps with
  | false => rw [hle] at ho; cases ho
  | true =>
    rw [hle] at ho
    have hle' := Nat.le_of_ble_eq_true hle
    simp only [cond_true, Option.map_eq_some_iff] at ho
    obtain ⟨l, hl, rfl⟩ := ho
    obtain ⟨l2, hl2, hin⟩ := bnd_some hl
    have hent : Frame.enter P f ⟨args'⟩ .normal = wi (f0 f) ((⟨args'⟩ : Array Value) ++ Array.replicate (F.ntmps - args'.length) undef) [] ([.code body] ++ []) := by
      simp [Frame.enter, hF, hb, wi, f0]
    have hsim : Sim P μ (h.withLow h.next) W := hs.weaken (fun L o h => h) (Nat.le_refl _)
    have hlen := ha.length_eq
    obtain ⟨r, hr, μ1, t1, d1, W1, q1, q2, q3⟩ := hC F.ntmps [.code body] af.body ⟨argTm 0 args .leaf, [], none, h.withLow h.next⟩ l2 (.code hcode) hl2 μ (f0 f) ((⟨args'⟩ : Array Value) ++ Array.replicate (F.ntmps - args'.length) undef) [] W [] cs hg hsim
      ⟨enter_tm ha _, by simp; omega, .nil, rfl⟩
    obtain ⟨ra, h1, h2⟩ := hin hr
    rw [← hent] at q3
    -- the end of the code
    have hend : (r.1 = .nrm ∨ r.1 = .ret) ∧ (∃ todo, Steps P (lone (Frame.enter P f ⟨args'⟩ .normal) cs W) (lone { wi (f0 f) t1 d1 todo with mode := .returning } cs W1)) ∧ (match takeMarks r.2.ds r.2.h with
        | some h' => (resAll r.2.tm h' af.res).map fun vs => [(pack vs, h')]
        | none => none) = some ra := by
      obtain ⟨x, st1⟩ := r
      cases q3 with
      | nrm s => exact ⟨.inl rfl, ⟨_, s.trans (.one (s_end rfl))⟩, h1⟩
      | ret s => exact ⟨.inr rfl, ⟨_, s.trans (.one (s_ret rfl))⟩, h1⟩
      | ext => cases h1
      | gto => cases h1
    obtain ⟨_, ⟨todo, hsteps⟩, h3⟩ := hend
    split at h3
    · rename_i h' hmk
      simp only [Option.map_eq_some_iff] at h3
      obtain ⟨vs, hvs, rfl⟩ := h3
      obtain ⟨W2, r1, r2⟩ := marks_run (b := f0 f) (t := t1) (todo := todo) (cs := cs) q2.ds hmk q1.sim
      obtain ⟨v', r3, r4⟩ := results_run r1.sim q2.tm hres hvs
      have hmem := h2 _ (List.mem_singleton.2 rfl)
      obtain ⟨out, p1, μ2, p2, p3⟩ := norm_ok hs hmem (q1.trans r1) r4
      exact ⟨out, p1, μ2, W2, v', _, p2, p3, hsteps.trans r2, rfl, rfl, rfl, rfl, F, hF, r3⟩
    · cases h3
end
end Go.AM

/-
  Rounds, calls; the whole run is sound.
-/
namespace Go.AM

theorem setTms_rel {μ : Mu} {nt : Nat} : ∀ {ps : List Tmp} {args args' : List Value} {tm tm' : Tm} {t : Array Value}, setTms ps args tm = some tm' → All2 (VRel μ) args args' → TmRel μ tm t → t.size = nt → (∀ p ∈ ps, p < nt) →
    ps.length = args'.length ∧ TmRel μ tm' ((ps.zip args').foldl (fun tmps (x : Tmp × Value) => tmps.setIfInBounds x.1 x.2) t) ∧ ((ps.zip args').foldl (fun tmps (x : Tmp × Value) => tmps.setIfInBounds x.1 x.2) t).size = nt
  | [], [], _, tm, tm', t, h, .nil, ht, hz, _ => by
    simp only [setTms, Option.some.injEq] at h
    subst h
    exact ⟨rfl, ht, hz⟩
  | p :: ps, v :: vs, _, tm, tm', t, h, .cons h1 h2, ht, hz, hp => by
    simp only [setTms] at h
    obtain ⟨q1, q2, q3⟩ := setTms_rel h h2 (ht.set (by rw [hz]; exact hp p (by simp)) h1) (by simpa using hz) (fun x hx => hp x (by simp [hx]))
    exact ⟨by simp [q1], by simpa using q2, by simpa using q3⟩
  | [], _ :: _, _, _, _, _, h, _, _, _, _ => by simp [setTms] at h
  | _ :: _, [], _, _, _, _, h, _, _, _, _ => by simp [setTms] at h

section
variable {P : Program} {μ : Mu} {σ : H} {W : World}

theorem s_beginRound {b : Frame} {t : Array Value} {d : List Deferred} {k : List Item} {cs : List Frame} {w w' : World} {l : Nat} (hr : b.roundOf = some l) (h : (Instr.beginRound l).run P w = .ok () w') :
    step P (lone (wi b t d (.beginRound :: k)) cs w) = .next (lone (wi b t d k) cs w') := by
  refine step_lone_go ?_
  simp [stepG, stepG.exec, wi, hr, stepG.apply, h, Frame.finish]

theorem loop_put' (hs : Sim P μ σ W) {L : Nat} {s : LoopState} (s2 : LoopState) {pend : Option AJump} (pend2 : Option AJump) {tm : Tm} {ps : List Tmp} {asg body : ACode} {dfs : Nat} (hg : σ.get L = some (.loop s pend tm ps asg body dfs)) {blk : Nat} {o : Option Nat} (hm : μ L = some ⟨blk, 0, o⟩)
    {fn : FuncId} {tmps : Array Value} {ca cb : Code} {d : Nat} (hW : W.heap[blk]? = some (.loop { state := s, pending := pend.map jumpCode, fn := fn, tmps := tmps, params := ⟨ps⟩, assign := ca, body := cb, defers := d })) :
    ∃ W', (setObj blk (.loop { state := s2, pending := pend2.map jumpCode, fn := fn, tmps := tmps, params := ⟨ps⟩, assign := ca, body := cb, defers := d })).run P W = .ok () W' ∧ Step P μ σ W μ (σ.put L (.loop s2 pend2 tm ps asg body dfs)) W' := ⟨_, loop_put hs hg hm hW⟩

/-- What is known of the functions is so. -/
structure EnvOk (P : Program) (E : Env) : Prop where
  fn : ∀ k fn, E.fn k = some fn → ∃ F, P.funcs[k]? = some F ∧ cFunc P F = some fn
  sum : ∀ k s, E.sum k = some s → (∃ F, P.funcs[k]? = some F ∧ F.body.isSome = true ∧ (F.name == "runtime.NumGoroutine") = false) ∧
    ∀ args h outs, s args h = some outs → ∀ μ W args' caller cs, Glb P μ → Sim P μ h W → All2 (VRel μ) args args' →
      ∃ r ∈ outs, ∃ μ' W' v', Step P μ h W μ' r.2 W' ∧ VRel μ' r.1 v' ∧ Steps P (lone (Frame.enter P k ⟨args'⟩ .normal) (caller :: cs) W) (lone (caller.finish v') cs W')

theorem roundF_ok {R : Rec} (hC : CodeOk P R.code) {L : Nat} {args : List Value} {h : H} {outs : List (Value × H)} (ho : roundF R L args h = some outs) {blk : Nat} {o : Option Nat} (hm : μ L = some ⟨blk, 0, o⟩) {args' : List Value} (hg : Glb P μ) (hs : Sim P μ h W) (ha : All2 (VRel μ) args args') (caller : Frame) (cs : List Frame) :
    ∃ r ∈ outs, ∃ μ' W' v', Step P μ h W μ' r.2 W' ∧ VRel μ' r.1 v' ∧ ∃ nx F, (Instr.yield blk ⟨args'⟩).run P W = .ok nx W ∧ nextFrame P nx = some F ∧ Steps P (lone F (caller :: cs) W) (lone (caller.finish v') cs W') := by
  unfold roundF at ho
  split at ho
  · rename_i s0 pend0 tm ps asg body dfs hgl
    obtain ⟨fn, tmps, ca, cb, dd, nt, g1, g2, g3, g4, g5, g6, g7⟩ := loop_obj hs hgl hm
    split at ho
    · cases ho
    · rename_i tm' htm
      obtain ⟨e1, e2, e3⟩ := setTms_rel htm ha g2 g3 g4
      obtain ⟨l1, hl1, hin⟩ := bnd_some ho
      have hgo := run_getObj (P := P) g1 (by simp)
      have hy : (Instr.yield blk ⟨args'⟩).run P W = .ok (.round blk fn ((ps.zip args').foldl (fun tmps (x : Tmp × Value) => tmps.setIfInBounds x.1 x.2) tmps) ca cb) W := by
        have hsz : (⟨args'⟩ : Array Value).size = (⟨ps⟩ : Array Tmp).size := by simp [e1]
        simp [Instr.yield, Instr.getLoop, hgo, e1]
      let b1 : Frame := { fn := fn, tmps := #[], todo := [], defers := [], mode := .run, kind := .normal, roundOf := some blk }
      obtain ⟨r, hr, μ1, t1, d1, W1, q1, q2, q3⟩ := hC nt [.code ca] asg ⟨tm', [], some L, h⟩ l1 (.code g5) hl1 μ b1 _ [] W [.beginRound, .code cb] (caller :: cs) hg hs ⟨e2, e3, .nil, blk, o, rfl, hm⟩
      obtain ⟨ra, h1, h2⟩ := hin hr
      have hF : nextFrame P (.round blk fn ((ps.zip args').foldl (fun tmps (x : Tmp × Value) => tmps.setIfInBounds x.1 x.2) tmps) ca cb) = some (wi b1 ((ps.zip args').foldl (fun tmps (x : Tmp × Value) => tmps.setIfInBounds x.1 x.2) tmps) [] ([.code ca] ++ [.beginRound, .code cb])) := rfl
      generalize ((ps.zip args').foldl (fun tmps (x : Tmp × Value) => tmps.setIfInBounds x.1 x.2) tmps) = T at *
      obtain ⟨x, st1⟩ := r
      split at h1
      · rename_i pend1 tm0 ps0 asg0 body0 dfs0 hx hgl1
        simp only at hx hgl1
        subst hx
        cases q3 with
        | nrm s1 =>
          have hm1 := q1.ext _ _ hm
          obtain ⟨fn1, tmps1, ca1, cb1, dd1, nt1, k1, _⟩ := loop_obj q1.sim hgl1 hm1
          obtain ⟨Wb, p1, p2⟩ := loop_put' q1.sim .busy pend1 hgl1 hm1 k1
          have hgo1 := run_getObj (P := P) k1 (by simp)
          have hbr : (Instr.beginRound blk).run P W1 = .ok () Wb := by
            simp only [Instr.beginRound, Instr.getLoop, Sem.run_bind, hgo1, Result.andThen_ok, Sem.run_pure, p1]
          have s2 := s1.trans (.one (s_beginRound (b := b1) (t := t1) (d := d1) (k := [.code cb]) (cs := caller :: cs) rfl hbr))
          obtain ⟨l2, hl2, hin2⟩ := bnd_some h1
          have hq2 : SRel μ1 b1 nt { st1 with h := st1.h.put L (.loop .busy pend1 tm0 ps0 asg0 body0 dfs0) } t1 d1 := ⟨q2.tm, q2.sz, q2.ds, q2.rnd⟩
          obtain ⟨r2, hr2, μ2, t2, d2, W2, u1, u2, u3⟩ := hC nt [.code cb] body _ l2 (.code g6) hl2 μ1 b1 t1 d1 Wb [] (caller :: cs) (hg.mono q1.ext) p2.sim hq2
          obtain ⟨rb, h3, h4⟩ := hin2 hr2
          obtain ⟨y, st2⟩ := r2
          split at h3
          · rename_i s3 pend3 tm3 ps3 asg3 body3 dfs3 hgl2
            simp only [Option.some.injEq] at h3
            subst h3
            have hm2 := u1.ext _ _ hm1
            obtain ⟨fn2, tmps2, ca2, cb2, dd2, nt2, k2, _⟩ := loop_obj u1.sim hgl2 hm2
            have hgo2 := run_getObj (P := P) k2 (by simp)
            -- the end of the round
            have fin : ∀ (j : Option AJump) (todo : List Item), Leaves todo (j.map jumpCode) → Steps P (lone (wi b1 t1 d1 ([.code cb] ++ [])) (caller :: cs) Wb) (lone (wi b1 t2 d2 todo) (caller :: cs) W2) →
                (Value.bool j.isNone, st2.h.put L (.loop (if j.isNone then .ready else .done) j tm3 ps3 asg3 body3 dfs3)) ∈ outs →
                ∃ r ∈ outs, ∃ μ' W' v', Step P μ h W μ' r.2 W' ∧ VRel μ' r.1 v' ∧ ∃ nx F, (Instr.yield blk ⟨args'⟩).run P W = .ok nx W ∧ nextFrame P nx = some F ∧ Steps P (lone F (caller :: cs) W) (lone (caller.finish v') cs W') := by
              intro j todo hlv hst hmem
              obtain ⟨Wc, p3, p4⟩ := loop_put' u1.sim (if j.isNone then .ready else .done) j hgl2 hm2 k2
              have her : (Instr.endRound blk (j.map jumpCode)).run P W2 = .ok (.bool j.isNone) Wc := by
                simp only [Instr.endRound, Instr.getLoop, Sem.run_bind, hgo2, Result.andThen_ok, Sem.run_pure, Option.isNone_map, p3]
              have hlast := s_leave (P := P) (b := b1) (t := t2) (d := d2) (cs := cs) (l := blk) rfl rfl hlv her (caller := caller)
              exact ⟨_, hmem, μ2, Wc, .bool j.isNone, ((q1.trans p2).trans u1).trans p4, .bool _, _, _, hy, hF, (s2.trans hst).trans (.one hlast)⟩
            cases u3 with
            | nrm s => exact fin none [] .nil s (h2 _ (h4 _ (List.mem_singleton.2 rfl)))
            | ext e s => exact fin (some (.exit _)) _ (.exit (e.trans rfl)) s (h2 _ (h4 _ (List.mem_singleton.2 rfl)))
            | gto e s => exact fin (some (.goto _)) _ (.goto (e.trans rfl)) s (h2 _ (h4 _ (List.mem_singleton.2 rfl)))
            | ret s => exact fin (some .ret) _ (.ret _) s (h2 _ (h4 _ (List.mem_singleton.2 rfl)))
          · cases h3
      · cases h1
  · cases ho

theorem callF_ok {E : Env} (hE : EnvOk P E) {R : Rec} (hC : CodeOk P R.code) : CallOk P (callF E R) := by
  intro f args h outs ho μ W f' args' caller cs hg hs hf ha
  unfold callF at ho
  split at ho
  · rename_i k first cap
    cases hf with
    | @func _ _ xs' _ ys' h1 h2 h3 h4 =>
      have r1 : All2 (VRel μ) first.toList xs'.toList := All2.of_idx (by simpa using h1) h3
      have r2 : All2 (VRel μ) cap.toList ys'.toList := All2.of_idx (by simpa using h2) h4
      have rall := (r1.append ha).append r2
      -- the call itself
      have run : ∀ F, P.funcs[k]? = some F → F.body.isSome = true → (F.name == "runtime.NumGoroutine") = false →
          (do let d ← Deferred.ofValue (.func (.func k) xs' ys') ⟨args'⟩; invoke d.target d.args : Sem Next).run P W = .ok (.enter k ⟨xs'.toList ++ args' ++ ys'.toList⟩) W := by
        intro F hF hb hn
        have hbn : F.body ≠ none := fun hq => by rw [hq] at hb; cases hb
        have hn' : F.name ≠ "runtime.NumGoroutine" := by simpa using hn
        have hargs : xs' ++ (⟨args'⟩ : Array Value) ++ ys' = ⟨xs'.toList ++ args' ++ ys'.toList⟩ := by apply Array.ext'; simp
        simp [Deferred.ofValue, invoke, callFunc, hF, hn', hbn]
      split at ho
      · rename_i s hsum
        obtain ⟨⟨F, hF, hb, hn⟩, hsok⟩ := hE.sum k s hsum
        obtain ⟨r, q1, μ', W', v', q2, q3, q4⟩ := hsok _ _ _ ho μ W _ caller cs hg hs rall
        exact ⟨r, q1, μ', W', v', q2, q3, _, _, run F hF hb hn, rfl, q4⟩
      · split at ho
        · rename_i fn hfn
          obtain ⟨F, hF, hcf⟩ := hE.fn k fn hfn
          obtain ⟨body, hb, _, _, _, hn⟩ := cFunc_some hcf
          obtain ⟨r, q1, μ', W', v', fr, q2, q3, q4, q5, q6⟩ := funcF_ok hC hF hcf ho hg hs rall (caller :: cs)
          exact ⟨r, q1, μ', W', v', q2, q3, _, _, run F hF (by rw [hb]; rfl) hn, rfl, q4.trans (.one (step_leave_returned q6))⟩
        · cases ho
  · rename_i L first cap
    cases hf with
    | @yield _ blk o hm =>
      obtain ⟨r, q1, μ', W', v', q2, q3, nx, F, q4, q5, q6⟩ := roundF_ok hC ho hm hg hs ha caller cs
      refine ⟨r, q1, μ', W', v', q2, q3, nx, F, ?_, q5, q6⟩
      have : (#[] : Array Value) ++ (⟨args'⟩ : Array Value) = ⟨args'⟩ := by simp
      simpa [Deferred.ofValue, invoke] using q4
  · cases ho

theorem run_ok {E : Env} (hE : EnvOk P E) (hm : P.follows .mixedOrders = true) : ∀ n, CodeOk P (runN E n).code ∧ CallOk P (runN E n).call
  | 0 => ⟨fun _ _ _ _ _ _ h => (by cases h), fun _ _ _ _ h => (by cases h)⟩
  | n + 1 => by
    obtain ⟨h1, h2⟩ := run_ok hE hm n
    exact ⟨codeF_ok hm h2 h1, callF_ok hE h1⟩

/-- The abstract run of a function's call tells what the call comes to. -/
theorem calls_of {E : Env} (hE : EnvOk P E) (hm : P.follows .mixedOrders = true) {n : Nat} {f : FuncId} {F : Func} {af : AFunc} (hF : P.funcs[f]? = some F) (hcf : cFunc P F = some af) {args args' : List Value} {h : H} {outs : List (Value × H)}
    (ho : funcF (runN E n) af args h = some outs) (hg : Glb P μ) (hs : Sim P μ h W) (ha : All2 (VRel μ) args args') {Q : Ending → World → Prop}
    (hQ : ∀ r ∈ outs, ∀ μ' W' v', Step P μ h W μ' r.2 W' → VRel μ' r.1 v' → Q (.returned v') W') : Calls P f ⟨args'⟩ W Q := by
  intro cs
  obtain ⟨r, q1, μ', W', v', fr, q2, q3, q4, q5, q6⟩ := funcF_ok (run_ok hE hm n).1 hF hcf ho hg hs ha cs
  exact ⟨.returned v', W', fr, hQ r q1 μ' W' v' q2 q3, q4, q5, q6⟩
end
end Go.AM

/-
  A law that answers true and turns nothing that was there: the row's condition behind the call.
-/
namespace Go.AM
open Go.ChangeShapes Go.WideShapes Go.ChangeAt Go.RowKit

section
variable {H : Type} {enc : TypeId × Value → H} {P : Program}

/-- Nothing that was there may be written, so nothing that was there turns. -/
theorem Step.below {μ μ' : Mu} {σ σ' : AM.H} {W W' : World} (s : Step P μ σ W μ' σ' W') (hno : ∀ b, ¬ Own μ σ b) : Below W.heap.size W W' where
  os := s.os
  tape := s.tape
  output := s.output
  size := s.size
  block k hk := s.frame k hk (hno k)

theorem trodAll_below (hl : laidOutB P = true) {W W' : World} (hb : Below W.heap.size W W') {sp' : Nat → Bool} : ∀ {ts : List TypeId} {vs : List Value} {ds : List (DataW H)} {ps : List MemPlace}, (∀ t ∈ ts, P.readableRec t = true ∧ t < P.types.size) →
    DataW.TrodAll enc P W 0 (fun _ => true) true ts vs ds ps → (∀ p ∈ ps, p.block < W.heap.size) → (∀ p ∈ ps, sp' p.block = true) → DataW.TrodAll enc P W' 0 sp' true ts vs ds ps
  | [], _, _, _, _, h, _, _ => by
    obtain ⟨rfl, rfl, rfl⟩ := trodAll_nil h
    exact trodAll_mk0
  | t :: ts, _, _, _, hp, h, hlt, hs => by
    obtain ⟨v, vs', d, ds', p, q, rfl, rfl, rfl, h1, h2⟩ := trodAll_cons h
    obtain ⟨r1, r2⟩ := hp t (by simp)
    exact trodAll_cons_mk (WideElems.Trod_stays hl r1 r2 h1 (fun x hx => hb.same (hlt x (by simp [hx]))) (fun x hx => hs x (by simp [hx])))
      (trodAll_below hl hb (fun u hu => hp u (by simp [hu])) h2 (fun x hx => hlt x (by simp [hx])) (fun x hx => hs x (by simp [hx])))

theorem law_post {f : Func} {s : ChangeSpec} {apart fresh handsOn again : Bool} {W W' : World} {args : Array Value} {ds gs : List (DataW H)} {before : List MemPlace} {tb : TypeId} (hl : laidOutB P = true) (hvars : s.vars = [])
    (hres : f.resultTypes = #[tb]) (htb : P.underlying tb = some .bool) (hpar : ∀ t ∈ f.params.toList, P.readableRec t = true ∧ t < P.types.size)
    (hspec : s.fn H ds = { results := [.lit (.bool true)], args := ds }) (hW : DataW.Whole enc P f.params.toList s.vars apart W args.toList ds gs before) (hb : Below W.heap.size W W') :
    s.post enc P f apart fresh handsOn again W args (.bool true) W' := by
  have hlt : ∀ p ∈ before, p.block < W.heap.size := fun p hp => hW.lt p hp
  have hW0 := hW
  obtain ⟨p, q, hA, hV, rfl, hz, hn⟩ := hW
  rw [hvars] at hV
  obtain ⟨rfl, rfl⟩ := trodVars_none hV
  simp only [List.append_nil] at hlt hz hn
  have hfn : s.fn H (ds ++ []) = { results := [.lit (.bool true)], args := ds } := by rw [List.append_nil]; exact hspec
  have hrs : ∀ (b : Nat) (sp : Nat → Bool) (hd : Bool), DataW.TrodAll enc P W' b sp hd f.resultTypes.toList ((Value.bool true).resultList f.resultTypes.size) [.lit (.bool true)] [] := by
    intro b sp hd
    rw [hres]
    exact trodAll_mk1 (shut_bool htb true)
  have hargs : ∀ sp : Nat → Bool, (∀ x ∈ p, sp x.block = true) → DataW.TrodAll enc P W' 0 sp true f.params.toList args.toList ds p := fun sp hsp => trodAll_below hl hb hpar hA hlt hsp
  have hold : ∀ x ∈ p, (fun b => decide (b < W.heap.size)) x.block = true := fun x hx => by simpa using hlt x hx
  have hvs : ∀ sp, DataW.TrodVars enc P W' sp s.vars ([] : List (DataW H)) [] := fun sp => by rw [hvars]; rfl
  refine ⟨ds, [], p ++ [], [], p, [], hW0, by rw [hfn]; exact hrs _ _ _, by rw [hfn]; exact hargs _ hold, by rw [hfn]; exact hvs _, ?_, fun _ => ?_⟩
  · exact World.keptBut_mono (fun x hx => hx.elim) (hb.frame fun _ => False)
  · refine ⟨ok_one hres rfl (okWide_bool_mk htb _), [.lit (.bool true)] ++ ds, [], ([] ++ p) ++ [], ⟨[] ++ p, [], trodAll_append (hargs _ (fun _ _ => rfl)) (hrs _ _ _), ?_, rfl, ?_, ?_⟩, ?_⟩
    · rw [hvars]; rfl
    · intro b off hp
      have hp' : MemPlace.cell b off ∈ p := by simpa using hp
      have := hlt _ hp'
      rw [hb.frozen (p := ⟨b, off, none⟩) this]
      exact hz b off hp'
    · intro ha
      simpa using hn ha
    · intro x hx _
      simpa using hx
end
end Go.AM

/-
  A call without arguments whose answer is known: as a summary.
-/
namespace Go.AM
open Go.RowKit

/-- A property of all that a table holds. -/
def Trie.All {α : Type} (Q : Nat → α → Prop) : Trie α → (Nat → Nat) → Prop
  | .leaf, _ => True
  | .node l v r, f => (∀ a, v = some a → Q (f 0) a) ∧ Trie.All Q l (fun i => f (2 * i + 1)) ∧ Trie.All Q r (fun i => f (2 * i + 2))

theorem Trie.All.get {α : Type} {Q : Nat → α → Prop} : ∀ {t : Trie α} {f : Nat → Nat}, Trie.All Q t f → ∀ {k : Nat} {a : α}, t.get k = some a → Q (f k) a
  | .leaf, f, _, k, a, h => by rw [Trie.get_leaf] at h; cases h
  | .node l v r, f, ⟨h1, h2, h3⟩, 0, a, h => h1 a h
  | .node l v r, f, ⟨h1, h2, h3⟩, m + 1, a, h => by
    rw [Trie.get_succ] at h
    split at h
    · have : Q (f (2 * (m / 2) + 1)) a := Trie.All.get h2 h
      rwa [show 2 * (m / 2) + 1 = m + 1 by omega] at this
    · have : Q (f (2 * (m / 2) + 2)) a := Trie.All.get h3 h
      rwa [show 2 * (m / 2) + 2 = m + 1 by omega] at this

section
variable {P : Program} {μ : Mu} {σ : AM.H} {W W' : World}

theorem Step.ofBelow (hs : Sim P μ σ W) (hb : Below W.heap.size W W') : Step P μ σ W μ σ W' where
  sim := ⟨fun L o hL => by
    obtain ⟨l, h1, h2⟩ := hs.obj L o hL
    exact ⟨l, h1, h2.mono (Ext.refl _) (hb.block _ h2.some)⟩, hs.inj, hs.nxt⟩
  ext := Ext.refl _
  fresh _ _ := rfl
  next := Nat.le_refl _
  size := hb.size
  own b h := .inr h
  frame b hb' _ := hb.block b hb'
  os := hb.os
  tape := hb.tape
  output := hb.output
  low := Nat.le_refl _
  kept L o l _ h1 h2 := by
    obtain ⟨l', h3, h4⟩ := hs.obj L o h1
    rw [h2] at h3; cases h3
    exact ⟨h1, hb.block _ h4.some⟩
  ro L o h _ := h
  back L o _ h := ⟨o, h⟩

/-- Globals alone. -/
def mu0 (P : Program) : Mu := fun L => if L < P.globals.size then some ⟨L, 0, none⟩ else none

theorem mu0_glb : Glb P (mu0 P) := fun g hg => by simp [mu0, hg]

/-- No object at all. -/
def emptyH (n : Nat) : AM.H := ⟨.leaf, n, big⟩

theorem empty_sim {n : Nat} (hn : P.globals.size ≤ n) (W : World) : Sim P (mu0 P) (emptyH n) W where
  obj L o h := by simp [emptyH, H.get] at h
  inj A B oA oB lA lB h := by simp [emptyH, H.get] at h
  nxt L hL := by
    have : n ≤ L := hL
    simp [mu0]; omega

theorem empty_own {n b : Nat} : ¬ Own μ (emptyH n) b := by
  rintro ⟨L, o, l, h, _⟩
  simp [emptyH, H.get] at h

/-- What a call without arguments answers, whatever the memory. -/
def sumConst (v : Value) (args : List Value) (h : AM.H) : Outs (Value × AM.H) := match args with
  | [] => some [(v, h)]
  | _ => none

theorem closed_sum {E : Env} (hE : EnvOk P E) (hm : P.follows .mixedOrders = true) {n : Nat} {f : FuncId} {F : Func} {af : AFunc} (hF : P.funcs[f]? = some F) (hcf : cFunc P F = some af) {N : Nat} (hN : P.globals.size ≤ N) {v : Value} (hv : plain0 v = true)
    (ho : (funcF (runN E n) af [] (emptyH N)).map (List.map Prod.fst) = some [v]) : ((∃ F, P.funcs[f]? = some F ∧ F.body.isSome = true ∧ (F.name == "runtime.NumGoroutine") = false)) ∧
    ∀ args h outs, sumConst v args h = some outs → ∀ μ W args' caller cs, Glb P μ → Sim P μ h W → All2 (VRel μ) args args' →
      ∃ r ∈ outs, ∃ μ' W' v', Step P μ h W μ' r.2 W' ∧ VRel μ' r.1 v' ∧ Steps P (lone (Frame.enter P f ⟨args'⟩ .normal) (caller :: cs) W) (lone (caller.finish v') cs W') := by
  obtain ⟨body, hb, _, _, _, hn⟩ := cFunc_some hcf
  refine ⟨⟨F, hF, by rw [hb]; rfl, hn⟩, fun args h outs hs μ W args' caller cs _ hsim ha => ?_⟩
  unfold sumConst at hs
  split at hs
  · simp only [Option.some.injEq] at hs
    subst hs
    cases ha
    simp only [Option.map_eq_some_iff] at ho
    obtain ⟨l, ho, hl⟩ := ho
    obtain ⟨r, q1, μ1, W', v', fr, q2, q3, q4, q5, q6⟩ := funcF_ok (run_ok hE hm n).1 hF hcf ho mu0_glb (empty_sim hN W) .nil (caller :: cs)
    have hr1 : r.1 = v := by
      have : r.1 ∈ l.map Prod.fst := List.mem_map_of_mem q1
      rw [hl] at this
      simpa using this
    rw [hr1] at q3
    have := rel_plain0 q3 hv
    subst this
    exact ⟨_, List.mem_singleton.2 rfl, μ, W', _, Step.ofBelow hsim (q2.below fun b => empty_own), plain0_rel _ hv, q4.trans (.one (step_leave_returned q6))⟩
  · cases hs
end
end Go.AM

/-
  What is known of the arguments.
-/
namespace Go.AM

section
variable {P : Program} {W : World} {r : Reach} {base : Nat}

theorem cell_int {u : TypeId} {k : IntKind} {v : Value} (hu : P.underlying u = some (.int k)) (h : Cell.okWide P W r base u v) : ∃ n, v = .int k n ∧ k.has n := by
  cases v <;> simp [Cell.okWide, Cell.ok, hu] at h
  obtain ⟨rfl, h⟩ := h
  exact ⟨_, rfl, h⟩

theorem cell_bool {u : TypeId} {v : Value} (hu : P.underlying u = some .bool) (h : Cell.okWide P W r base u v) : ∃ b, v = .bool b := by
  cases v <;> simp [Cell.okWide, Cell.ok, hu] at h
  exact ⟨_, rfl⟩

theorem cell_string {u : TypeId} {v : Value} (hu : P.underlying u = some .string) (h : Cell.okWide P W r base u v) : ∃ s, v = .string s := by
  cases v <;> simp [Cell.okWide, Cell.ok, hu] at h
  exact ⟨_, rfl⟩

theorem cell_slice {u e : TypeId} {v : Value} (hu : P.underlying u = some (.slice e)) (h : Cell.okWide P W r base u v) : v = .slice none 0 0 ∨ ∃ b off len cap, v = .slice (some ⟨b, off, none⟩) len cap ∧ len ≤ cap ∧ W.has P r base ⟨b, off, none⟩ e cap := by
  cases v <;> try (simp [Cell.okWide, Cell.ok, hu] at h; done)
  rename_i a len cap
  cases a with
  | none =>
    left
    simp only [Cell.okWide, hu, Cell.ok] at h
    cases len <;> cases cap <;> first | rfl | exact h.elim
  | some a =>
    right
    simp only [Cell.okWide, hu, Cell.ok] at h
    obtain ⟨h1, _, h2⟩ := h
    have hs : a.spot = none := h2.2.1
    obtain ⟨b, off, sp⟩ := a
    simp only at hs
    subst hs
    exact ⟨b, off, len, cap, rfl, h1, h2⟩

theorem okWide_struct {t : TypeId} {fs : Array Field} {v : Value} (ht : P.underlying t = some (.struct fs)) (h : Value.okWide P W r base t v) {ts : List TypeId} (hts : P.cellTypes P.depth t = some ts) (hn : P.cellsOf t = ts.length) :
    ∃ cs : Array Value, v = .agg cs ∧ All2 (fun u x => Cell.okWide P W r base u x) ts cs.toList := by
  simp only [Value.okWide, ht] at h
  obtain ⟨cs, rfl, hsz, ts', h1, _, h2⟩ := h
  rw [hts] at h1
  cases h1
  refine ⟨cs, rfl, All2.of_idx (by simp [← hn, hsz]) fun i u x hu hx => ?_⟩
  obtain ⟨u', h3, h4⟩ := h2 i x (by simpa using hx)
  have hi : i < ts.length := (List.getElem?_eq_some_iff.1 hu).1
  rw [Nat.mod_eq_of_lt hi, hu] at h3
  cases h3
  exact h4

theorem okWide_cell {t : TypeId} {v : Value} (hns : ∀ fs, P.underlying t ≠ some (.struct fs)) (hna : ∀ n e, P.underlying t ≠ some (.array n e)) (h : Value.okWide P W r base t v) : Cell.okWide P W r base t v := by
  unfold Value.okWide at h
  split at h
  · rename_i fs hf; exact absurd hf (hns _)
  · rename_i n e hf; exact absurd hf (hna _ _)
  · exact h

theorem cell_oc {u : TypeId} {v : Value} (h : Cell.okWide P W r base u v) : oc v = true := by
  unfold Cell.okWide at h
  split at h <;> first | rfl | skip
  unfold Cell.ok at h
  split at h <;> first | rfl | exact h.elim
end

/-- Globals, and some places that are known by number alone. -/
def muWith (P : Program) (N : Nat) (ls : List (Option Loc)) : Mu := fun L => if L < P.globals.size then some ⟨L, 0, none⟩ else if N ≤ L then (ls[L - N]?).join else none

theorem muWith_glb {P : Program} {N : Nat} {ls : List (Option Loc)} : Glb P (muWith P N ls) := fun g hg => by simp [muWith, hg]

theorem muWith_at {P : Program} {N : Nat} (hN : P.globals.size ≤ N) {ls : List (Option Loc)} (i : Nat) : muWith P N ls (N + i) = (ls[i]?).join := by
  unfold muWith
  rw [if_neg (by omega), if_pos (by omega), Nat.add_sub_cancel_left]

theorem muWith_sim {P : Program} {N M : Nat} {ls : List (Option Loc)} (hN : P.globals.size ≤ N) (hM : M = N + ls.length) (W : World) : Sim P (muWith P N ls) (emptyH M) W where
  obj L o h := by simp [emptyH, H.get] at h
  inj A B oA oB lA lB h := by simp [emptyH, H.get] at h
  nxt L hL := by
    have hL' : M ≤ L := hL
    unfold muWith
    rw [if_neg (by omega), if_pos (by omega), List.getElem?_eq_none (by omega)]
    rfl

/-- A slice of which the length alone is told. -/
theorem slice_abs {P : Program} {W : World} {r : Reach} {base : Nat} {e : TypeId} {v : Value} (h : v = .slice none 0 0 ∨ ∃ b off len cap, v = .slice (some ⟨b, off, none⟩) len cap ∧ len ≤ cap ∧ W.has P r base ⟨b, off, none⟩ e cap) (K : Nat) :
    ∃ (p : Option Addr) (n c : Nat) (l : Option Loc), ∀ μ : Mu, μ K = l → VRel μ (.slice p n c) v := by
  rcases h with rfl | ⟨b, off, len, cap, rfl, _, _⟩
  · exact ⟨none, 0, 0, none, fun μ _ => .sliceNil _ _⟩
  · refine ⟨some ⟨K, 0, none⟩, len, cap, some ⟨b, off, none⟩, fun μ h => ?_⟩
    have := VRel.slice (i := 0) (n := len) (c := cap) h
    simpa using this

/-- All that may come of a run is the answer true. -/
def allTrue (o : Outs (Value × H)) : Bool := match o with
  | some l => l.all fun r => match r.1 with
    | .bool b => b
    | _ => false
  | none => false

theorem allTrue_mem {o : Outs (Value × H)} (h : allTrue o = true) : ∃ l, o = some l ∧ ∀ r ∈ l, r.1 = .bool true := by
  unfold allTrue at h
  split at h
  · rename_i l
    rw [List.all_eq_true] at h
    refine ⟨l, rfl, fun r hr => ?_⟩
    have := h r hr
    split at this
    · rename_i b hb; rw [hb, this]
    · cases this
  · cases h

/-- The abstract run answers true, so the call does, and turns nothing. -/
theorem law_calls {P : Program} {E : Env} (hE : EnvOk P E) (hm : P.follows .mixedOrders = true) {n : Nat} {f : FuncId} {F : Func} {af : AFunc} (hF : P.funcs[f]? = some F) (hcf : cFunc P F = some af) {args args' : List Value} {h : H} {μ : Mu} {W : World}
    (ho : allTrue (funcF (AM.runN E n) af args h) = true) (hg : Glb P μ) (hs : Sim P μ h W) (hown : ∀ b, ¬ Own μ h b) (ha : All2 (VRel μ) args args') :
    Calls P f ⟨args'⟩ W fun e W' => e = .returned (.bool true) ∧ RowKit.Below W.heap.size W W' := by
  obtain ⟨l, h1, h2⟩ := allTrue_mem ho
  refine calls_of hE hm hF hcf h1 hg hs ha fun r hr μ' W' v' s hv => ?_
  rw [h2 r hr] at hv
  have : v' = .bool true := by cases hv; rfl
  exact ⟨by rw [this], s.below hown⟩
end Go.AM

