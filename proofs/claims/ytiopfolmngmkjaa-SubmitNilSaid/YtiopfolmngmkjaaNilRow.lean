/-
  SubmitNil answers true at every message, and turns nothing.
  Conditions: none.
-/
import Derived.Test.YtiopfolmngmkjaaNil
import Derived.KernelRfl
namespace Go.Proofs.Ytiopfolmngmkjaa
open Go.AM Go.RowKit
open Go.ChangeShapes Go.WideShapes Go.ChangeAt
set_option maxRecDepth 100000

theorem nil_walk {H : Type} {enc : TypeId × Value → H} (W : World) (v0 : Value) {d0 : DataW H} {p0 : List MemPlace} (hval : Value.okWide Try.prog W .any 0 38 v0) (hT : DataW.Trod enc Try.prog W 0 (fun _ => true) true 38 v0 d0 p0) :
    Calls Try.prog 4 #[v0] W fun e W' => e = .returned (.bool true) ∧ Below W.heap.size W W' := by
  obtain ⟨cs, rfl, _⟩ := okWide_struct (P := Try.prog) Try.underlying38 hval (ts := [3, 3, 32, 3, 3, 3, 3, 3, 3, 3]) (by kernel_rfl) (by kernel_rfl)
  obtain ⟨n, hn⟩ := hT
  obtain ⟨l⟩ := cs
  have hcs := cells_ok 5 38 _ l (by kernel_rfl : kindsCT Try.prog 5 38 = some [.int .i64, .int .i64, .sl [.int .i64], .int .i64, .int .i64, .int .i64, .int .i64, .int .i64, .int .i64, .int .i64]) ⟨n, _, hn⟩
  cases hcs with | cons h0 hcs => ?_
  cases hcs with | cons h1 hcs => ?_
  cases hcs with | cons h2 hcs => ?_
  cases hcs with | cons h3 hcs => ?_
  cases hcs with | cons h4 hcs => ?_
  cases hcs with | cons h5 hcs => ?_
  cases hcs with | cons h6 hcs => ?_
  cases hcs with | cons h7 hcs => ?_
  cases hcs with | cons h8 hcs => ?_
  cases hcs with | cons h9 hcs => ?_
  cases hcs
  obtain ⟨x0, rfl, _⟩ := h0
  obtain ⟨x1, rfl, _⟩ := h1
  obtain ⟨x3, rfl, _⟩ := h3
  obtain ⟨x4, rfl, _⟩ := h4
  obtain ⟨x5, rfl, _⟩ := h5
  obtain ⟨x6, rfl, _⟩ := h6
  obtain ⟨x7, rfl, _⟩ := h7
  obtain ⟨x8, rfl, _⟩ := h8
  obtain ⟨x9, rfl, _⟩ := h9
  obtain ⟨segs, p, n, c, zs, s1, s2, s3, s4, s5, _⟩ := ints_in (P := Try.prog) h2 (N := 1000) globals_le (by omega)
  refine law_of_callP envOk1 mixed Try.func4 c4 rfl hasE1.f4 (submitNil (m := true) (c := c) (x0 := x0) (x1 := x1) (x3 := x3) (x4 := x4) (x5 := x5) (x6 := x6) (x7 := x7) (x8 := x8) (x9 := x9) hasE1 rfl s3 s4 s5) muWith_glb (seg_sim globals_le s1) (fun b => seg_own) (.cons ?_ .nil)
  refine VRel.aggOf (.cons (.int _ _) (.cons (.int _ _) (.cons s2 (.cons (.int _ _) (.cons (.int _ _) (.cons (.int _ _) (.cons (.int _ _) (.cons (.int _ _) (.cons (.int _ _) (.cons (.int _ _) .nil)))))))))) ?_
  intro v hv
  simp only [List.mem_cons, List.not_mem_nil, or_false] at hv
  rcases hv with rfl | rfl | rfl | rfl | rfl | rfl | rfl | rfl | rfl | rfl <;> rfl

theorem own : ownKnob Try.prog.godebug = none := by kernel_rfl
theorem laidOut : laidOutB Try.prog = true := by kernel_rfl


theorem lifted (os : Os) (started : os.Started) (H : Type) (enc : TypeId × Value → H) :
    ReturnsInHanded {} Try.checked os 4 .any (Rows.submitNilSpec.pre6 enc Try.prog Try.f4 Rows.submitNilRow.domain false) (Rows.submitNilSpec.post enc Try.prog Try.f4 false true false false) := by
  refine returnsInHanded_of_change (C := Try.checked) own started (by kernel_rfl) Try.func4
    (ChangeSpec.witness6 (enc := enc) (C := Try.checked) false ⟨#[], #[.agg #[.int .i64 0, .int .i64 0, .slice none 0 0, .int .i64 0, .int .i64 0, .int .i64 0, .int .i64 0, .int .i64 0, .int .i64 0, .int .i64 0]], []⟩ 8 (by kernel_rfl) (by kernel_rfl) (by kernel_rfl) (by kernel_rfl)) ?_
  intro W base args ds gs before hval0 hW hcnd _
  have hval : ∀ (j : Nat) t v, Try.f4.params[j]? = some t → args[j]? = some v → Value.okWide Try.prog W .any base t v := hval0
  have hW' := hW
  obtain ⟨p, q, hA0, hV, rfl, hfz, hnd⟩ := hW
  have hA : DataW.TrodAll enc Try.prog W 0 (fun _ => true) true Try.f4.params.toList args.toList ds p := hA0
  rw [Try.params4] at hA hval
  obtain ⟨v0, vs0, d0, ds0, p0, q0, hargs, rfl, rfl, h0, r0⟩ := trodAll_cons hA
  obtain ⟨rfl, rfl, rfl⟩ := trodAll_nil r0
  obtain rfl : args = #[v0] := by cases args; simp_all
  obtain ⟨rfl, rfl⟩ := trodVars_none hV
  refine (nil_walk W v0 (hval 0 38 v0 rfl rfl) h0).mono fun e W' ⟨he, hb⟩ => ?_
  subst he
  exact ⟨_, rfl, law_post laidOut rfl rfl Try.underlying4 (by rw [Try.params4]; intro t ht; simp only [List.mem_singleton, Array.toList] at ht; subst ht; exact ⟨by kernel_rfl, of_decide_eq_true (by kernel_rfl)⟩) rfl hW' hb⟩

theorem submitNil_holds : Rows.SubmitNilSaid :=
  OpenClaim.holds_of_wide 4 Try.f4 rfl rfl rfl rfl rfl rfl rfl ⟨rfl, rfl, rfl, rfl, rfl⟩ rfl rfl rfl rfl rfl (by kernel_rfl) Try.func4 (by kernel_rfl)
    (of_decide_eq_true (by kernel_rfl)) (by unfold Func.isWrapper; first | (rw [if_pos (by decide +kernel)]; kernel_rfl) | (rw [if_neg (by decide +kernel)]; exact ⟨rfl, rfl⟩))
    (fun os started H enc _ => lifted os started H enc)
end Go.Proofs.Ytiopfolmngmkjaa
