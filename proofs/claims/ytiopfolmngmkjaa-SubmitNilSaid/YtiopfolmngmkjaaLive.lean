/-
  What the program answers in live(), by its run in the abstract machine; what is known of the program's functions.
-/
import Derived.Test.YtiopfolmngmkjaaEnv
namespace Go.Proofs.Ytiopfolmngmkjaa
open Go.AM Go.RowKit
set_option maxRecDepth 100000

noncomputable def E0 : Env := ⟨fun k => Trie.get tab k, fun _ => none⟩

theorem envOk0 : EnvOk Try.prog E0 := ⟨fun k fn h => Trie.All.get tabOk h, fun k s h => by cases h⟩

theorem mixed : Try.prog.follows .mixedOrders = true := by kernel_rfl

theorem live_run : (funcF (AM.runN E0 10000) a9 [] (emptyH 1000)).map (List.map Prod.fst) = some [.bool true] := by kernel_rfl

/-- live() is known; of all else the code. -/
noncomputable def E1 : Env := ⟨fun k => (Try.prog.funcs[k]?).bind (cFunc Try.prog), fun k => bif Nat.beq k 9 then some (sumConst (.bool true)) else none⟩

theorem E1_fn {k : Nat} {F : Func} {a : AFunc} (h1 : Try.prog.funcs[k]? = some F) (h2 : cFunc Try.prog F = some a) : E1.fn k = some a := by
  simp only [E1, h1]
  exact h2

theorem globals_le : Try.prog.globals.size ≤ 1000 := of_decide_eq_true (by kernel_rfl)

theorem envOk1 : EnvOk Try.prog E1 := by
  refine ⟨fun k fn h => ?_, fun k s h => ?_⟩
  · simp only [E1] at h
    obtain ⟨F, h1, h2⟩ := Option.bind_eq_some_iff.1 h
    exact ⟨F, h1, h2⟩
  · simp only [E1] at h
    cases hk : Nat.beq k 9 with
    | false => rw [hk] at h; cases h
    | true =>
      rw [hk] at h
      cases Nat.eq_of_beq_eq_true hk
      cases h
      exact closed_sum envOk0 mixed Try.func9 c9 globals_le rfl live_run
end Go.Proofs.Ytiopfolmngmkjaa
