/-
  A barrier that is none takes nothing.
-/
import Derived.Test.YtiopfolmngmkjaaRes0
namespace Go.Proofs.Ytiopfolmngmkjaa
open Go Go.AM
section
variable {E : Env} (hE : Has E) {m : Bool} {h : H} {Q : Value → H → Prop}
include hE

theorem new_bad (hq : Q (VT [VP none, VI 1]) h) : CallP m E (FN 10) [VI 0, VI 0] h Q := by
  refine callP_of (vk := kz vk10) (ann := az ann10) hE.s10 hE.f10 ?_
  show wpF m E _ _ a10 [VI 0, VI 0] h _
  rw [w10]
  simpa [sh10, ltI, NormP_plain] using hq

theorem ids_none (hq : Q (VS none 0 0) h) : CallP m E (FN 35) [VP none] h Q := by
  refine callP_of (vk := kz vk35) (ann := az ann35) hE.s35 hE.f35 ?_
  show wpF m E _ _ a35 [VP none] h _
  rw [w35]
  simpa [sh35, NormP_plain] using hq

theorem check_none {x0 x1 x3 x4 x5 x6 x7 x8 x9 : Int} {p : Option Addr} {n c : Nat} (hq : Q (VT [VP none, VI 1]) h) : CallP m E (FN 28) [VP none, VA [VI x0, VI x1, VS p n c, VI x3, VI x4, VI x5, VI x6, VI x7, VI x8, VI x9]] h Q := by
  refine callP_of (vk := kz vk28) (ann := az ann28) hE.s28 hE.f28 ?_
  show wpF m E _ _ a28 [VP none, VA [VI x0, VI x1, VS p n c, VI x3, VI x4, VI x5, VI x6, VI x7, VI x8, VI x9]] h _
  rw [w28]
  simp only [sh28, Option.isNone_none, cond_true, forall_eq]
  simpa [NormP_plain] using hq

theorem apply_none {x0 x1 x3 x4 x5 x6 x7 x8 x9 : Int} {p : Option Addr} {n c : Nat} (hq : Q (VI 1) h) : CallP m E (FN 14) [VP none, VA [VI x0, VI x1, VS p n c, VI x3, VI x4, VI x5, VI x6, VI x7, VI x8, VI x9]] h Q := by
  refine callP_of (vk := kz vk14) (ann := az ann14) hE.s14 hE.f14 ?_
  show wpF m E _ _ a14 [VP none, VA [VI x0, VI x1, VS p n c, VI x3, VI x4, VI x5, VI x6, VI x7, VI x8, VI x9]] h _
  rw [w14]
  simp only [sh14, forall_eq]
  simp [ld, H.read, takeAt_if, H.get_new, and_assoc]
  refine check_none hE ⟨_, _, rfl, ?_⟩
  simp
  rw [NormP_plain rfl (by simp)]
  exact hq

theorem done_none (hq : Q (VT [VA [VI 0, VI 0], VS none 0 0, VB false]) h) : CallP m E (FN 16) [VP none] h Q := by
  refine callP_of (vk := kz vk16) (ann := az ann16) hE.s16 hE.f16 ?_
  show wpF m E _ _ a16 [VP none] h _
  rw [w16]
  simp only [sh16, forall_eq]
  refine ids_none hE ⟨_, _, _, rfl, ?_⟩
  refine LoopV.ind (vk := kz vk16) (ann := az ann16) (cur := 0) (fun k vals h' => k = 0 ∧ vals = [VP none, VP (some ⟨h.next, 0, none⟩), VS none 0 0, VI 0, VI 0] ∧ h' = h.enter.new (.row [VI 0, VI 0] false false)) ?_ (k := 0) ⟨rfl, rfl, rfl⟩
  rintro k _ _ ⟨rfl, rfl, rfl⟩ tm
  rw [wL16_0]
  simp [shL16_0, ltI, optP, write_if, H.get_new, setMany, ld, H.read, takeAt_if, H.get_put]
  intro _
  rw [NormP_plain rfl (by simp)]
  exact hq

theorem index_none {f : Fn} {fa fc : Array Value} (hq : Q (VI (-1)) h) : CallP m E (FN 59) [VS none 0 0, .func f fa fc] h Q := by
  refine callP_of (vk := kz vk59) (ann := az ann59) hE.s59 hE.f59 ?_
  show wpF m E _ _ a59 [VS none 0 0, .func f fa fc] h _
  rw [w59]
  simp only [sh59, forall_eq]
  refine LoopV.ind (vk := kz vk59) (ann := az ann59) (cur := 0) (fun k vals h' => k = 0 ∧ vals = [VS none 0 0, .func f fa fc, VI 0, VI 0] ∧ h' = h.enter) ?_ (k := 0) ⟨rfl, rfl, rfl⟩
  rintro k _ _ ⟨rfl, rfl, rfl⟩ tm
  rw [wL59_0]
  simp [shL59_0, ltI]
  rw [NormP_plain rfl (by simp)]
  exact fun _ => hq

theorem deleteFunc_none {f : Fn} {fa fc : Array Value} (hq : Q (VS none 0 0) h) : CallP m E (FN 37) [VS none 0 0, .func f fa fc] h Q := by
  refine callP_of (vk := kz vk37) (ann := az ann37) hE.s37 hE.f37 ?_
  show wpF m E _ _ a37 [VS none 0 0, .func f fa fc] h _
  rw [w37]
  simp only [sh37, forall_eq]
  refine index_none hE ⟨_, rfl, ?_⟩
  simp
  rw [NormP_plain rfl (by simp)]
  exact hq

theorem open_none (hq : Q (VS none 0 0) h) : CallP m E (FN 20) [VP none] h Q := by
  refine callP_of (vk := kz vk20) (ann := az ann20) hE.s20 hE.f20 ?_
  show wpF m E _ _ a20 [VP none] h _
  rw [w20]
  simp [sh20, ld, H.get_new]
  refine ids_none hE ⟨_, _, _, rfl, ?_⟩
  refine deleteFunc_none hE ⟨_, _, _, rfl, ?_⟩
  rw [NormP_plain rfl (by simp)]
  exact hq

theorem acks_none {x0 x1 : Int} (hq : Q (VS none 0 0) h) : CallP m E (FN 22) [VP none, VA [VI x0, VI x1]] h Q := by
  refine callP_of (vk := kz vk22) (ann := az ann22) hE.s22 hE.f22 ?_
  show wpF m E _ _ a22 [VP none, VA [VI x0, VI x1]] h _
  rw [w22]
  simp only [sh22, Option.isNone_none, cond_true, forall_eq]
  rw [NormP_plain rfl (by simp)]
  exact hq

theorem may_none {site : Int} {p : Option Addr} {n c : Nat} {l : List Int} (hl : l.length = n) (hk : Ints h p l) (hlt : ∀ a, p = some a → a.block < h.next) {o0 o1 o2 o3 o4 o5 o6 : Int} (hq : Q (VB false) h) :
    CallP m E (FN 12) [VP none, VI site, VS p n c, VA [VI o0, VI o1, VI o2, VI o3, VI o4, VI o5, VI o6]] h Q := by
  refine callP_of (vk := kz vk12) (ann := az ann12) hE.s12 hE.f12 ?_
  show wpF m E _ _ a12 [VP none, VI site, VS p n c, VA [VI o0, VI o1, VI o2, VI o3, VI o4, VI o5, VI o6]] h _
  rw [w12]
  simp only [sh12, forall_eq]
  refine cond_intro (fun h1 => ?_) fun h1 => ?_
  · rw [NormP_plain rfl (by simp)]; exact hq
  refine cond_intro (fun h2 => ?_) fun h2 => ?_
  · rw [NormP_plain rfl (by simp)]; exact hq
  simp only [ltI_eq, decide_eq_false_iff_not, Bool.not_eq_false', decide_eq_true_eq, Int.ofNat_eq_natCast] at h1 h2
  have hi : site.toNat < l.length := by omega
  obtain ⟨a, rfl, hld⟩ := hk site.toNat _ (List.getElem?_eq_getElem hi)
  have hb := hlt a rfl
  have key : ∀ h' : H, h'.get a.block = h.get a.block → ld h' none ⟨a.block, a.off + site.toNat * 1, none⟩ = some (VI l[site.toNat]) := by
    intro h' e
    rw [Nat.mul_one, ← hld, ld_cell, ld_cell, e]
  have k1 := key (h.enter.new (.row [VI o0, VI o1, VI o2, VI o3, VI o4, VI o5, VI o6] false false)) (by rw [get_new_lt (by simpa using hb)]; rfl)
  refine ⟨⟨by omega, by simpa using h2⟩, l[site.toNat], k1, ?_⟩
  refine cond_intro (fun h3 => ?_) fun h3 => ?_
  · rw [NormP_plain rfl (by simp)]; exact hq
  refine ⟨⟨by omega, by simpa using h2⟩, l[site.toNat], key _ (by rw [H.get_skipTo, get_new_lt (by simpa using hb)]; rfl), ?_⟩
  simp [ld, H.read, takeAt_if, H.get_new, and_assoc]
  refine check_none hE ⟨_, _, rfl, ?_⟩
  simp
  rw [NormP_plain rfl (by simp)]
  exact hq

omit hE in
theorem live_true (hl : E.sum 9 = some (sumConst (.bool true))) (hq : Q (VB true) h) : CallP m E (FN 9) [] h Q :=
  callP_sum hl (Res.one' hq)

theorem submitNil (hl : E.sum 9 = some (sumConst (.bool true))) {p : Option Addr} {n c : Nat} {l : List Int} (hn : l.length = n) (hk : Ints h p l) (hlt : ∀ a, p = some a → a.block < h.next) {x0 x1 x3 x4 x5 x6 x7 x8 x9 : Int} :
    CallP m E (FN 4) [VA [VI x0, VI x1, VS p n c, VI x3, VI x4, VI x5, VI x6, VI x7, VI x8, VI x9]] h fun v _ => v = VB true := by
  refine callP_of (vk := kz vk4) (ann := az ann4) hE.s4 hE.f4 ?_
  show wpF m E _ _ a4 [VA [VI x0, VI x1, VS p n c, VI x3, VI x4, VI x5, VI x6, VI x7, VI x8, VI x9]] h _
  rw [w4]
  simp only [sh4, forall_eq]
  generalize hh : h.enter.new (.row [VI x0, VI x1, VS p n c, VI x3, VI x4, VI x5, VI x6, VI x7, VI x8, VI x9] false false) = h1
  have hg : h1.get h.next = some (.row [VI x0, VI x1, VS p n c, VI x3, VI x4, VI x5, VI x6, VI x7, VI x8, VI x9] false false) := by rw [← hh, H.get_new]; simp
  have hk1 : Ints h1 p l := by
    intro i z hz
    obtain ⟨a, ha, hld⟩ := hk i z hz
    refine ⟨a, ha, ?_⟩
    rw [← hld, ld_cell, ld_cell, ← hh, get_new_lt (by simpa using hlt a ha)]
    rfl
  have hx1 : h1.next = h.next + 1 := by rw [← hh]; rfl
  refine ⟨p, n, c, by simp [ld, hg, addOff], ?_⟩
  have fin : ∀ h' : H, NormP h (fun v _ => v = VB true) (VB true) h' := by
    intro h'
    unfold NormP normOut
    cases Nat.ble h.next h'.low <;> rfl
  refine cond_intro (fun _ => ?_) fun _ => ?_
  · exact live_true hl ⟨_, rfl, fin _⟩
  refine new_bad hE ⟨_, _, rfl, ?_⟩
  refine done_none hE ⟨_, _, _, _, _, _, rfl, ?_⟩
  simp only [cond_false]
  generalize e2 : h1.new (.row [VI 0, VI 0] false false) = h2
  have hg2 : h2.get h.next = some (.row [VI x0, VI x1, VS p n c, VI x3, VI x4, VI x5, VI x6, VI x7, VI x8, VI x9] false false) := by rw [← e2, get_new_lt (by omega)]; exact hg
  have hw : h2.write ⟨h1.next, 0, none⟩ [VI 0, VI 0] = some (h2.put h1.next (.row [VI 0, VI 0] false false)) := by
    rw [write_if, ← e2, H.get_new]
    simp [setMany]
  refine ⟨_, hw, ?_⟩
  generalize hh3 : h2.put h1.next (.row [VI 0, VI 0] false false) = h3
  have hg3 : h3.get h.next = some (.row [VI x0, VI x1, VS p n c, VI x3, VI x4, VI x5, VI x6, VI x7, VI x8, VI x9] false false) := by rw [← hh3, get_put_ne (by omega)]; exact hg2
  have hx3 : h1.next < h3.next := by rw [← hh3, ← e2]; simp
  have hk3 : Ints h3 p l := by
    intro i z hz
    obtain ⟨a, ha, hld⟩ := hk1 i z hz
    have := hlt a ha
    refine ⟨a, ha, ?_⟩
    rw [← hld, ld_cell, ld_cell, ← hh3, get_put_ne (by simp only; omega), ← e2, get_new_lt (by simp only; omega)]
  have l0 : ld h3 (some 10) ⟨h.next, 0, none⟩ = some (VA [VI x0, VI x1, VS p n c, VI x3, VI x4, VI x5, VI x6, VI x7, VI x8, VI x9]) := by simp [ld, hg3, H.read, takeAt_if]
  have l1 : ld h3 (some 2) ⟨h.next, 7, none⟩ = some (VA [VI x7, VI x8]) := by simp [ld, hg3, H.read, takeAt_if]
  have l2 : ld h3 none ⟨h.next, 0, none⟩ = some (VI x0) := by simp [ld, hg3]
  have l3 : ld h3 none ⟨h.next, 2, none⟩ = some (VS p n c) := by simp [ld, hg3]
  have l4 : ld h3 (some 7) ⟨h.next, 3, none⟩ = some (VA [VI x3, VI x4, VI x5, VI x6, VI x7, VI x8, VI x9]) := by simp [ld, hg3, H.read, takeAt_if]
  refine ⟨_, _, _, _, _, _, _, _, _, _, _, _, l0, ?_⟩
  refine apply_none hE ⟨_, rfl, ?_⟩
  simp only [beq_self_eq_true, cond_true]
  refine open_none hE ⟨_, _, _, rfl, ?_⟩
  refine ⟨_, _, l1, ?_⟩
  refine acks_none hE ⟨_, _, _, rfl, ?_⟩
  simp only [Int.ofNat_eq_natCast, Int.natCast_zero, beq_self_eq_true, cond_true]
  refine ⟨_, l2, _, _, _, l3, _, _, _, _, _, _, _, l4, ?_⟩
  refine may_none hE hn hk3 (fun a ha => by have := hlt a ha; omega) ⟨_, rfl, ?_⟩
  simp only [cond_false]
  exact live_true hl ⟨_, rfl, fin _⟩
end
end Go.Proofs.Ytiopfolmngmkjaa
