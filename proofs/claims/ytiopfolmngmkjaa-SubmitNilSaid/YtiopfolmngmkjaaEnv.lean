/-
  The functions' compiled code is what the abstract machine's compiler makes of the program.
-/
import Derived.Test.YtiopfolmngmkjaaRows
import Derived.Test.YtiopfolmngmkjaaTab
import Derived.Test.YtiopfolmngmkjaaAmE
import Derived.KernelRfl
namespace Go.Proofs.Ytiopfolmngmkjaa
open Go.AM
theorem c4 : cFunc Try.prog Try.f4 = some a4 := by kernel_rfl
theorem q4 : ∃ F, Try.prog.funcs[4]? = some F ∧ cFunc Try.prog F = some a4 := ⟨_, Try.func4, c4⟩
theorem c9 : cFunc Try.prog Try.f9 = some a9 := by kernel_rfl
theorem q9 : ∃ F, Try.prog.funcs[9]? = some F ∧ cFunc Try.prog F = some a9 := ⟨_, Try.func9, c9⟩
theorem c10 : cFunc Try.prog Try.f10 = some a10 := by kernel_rfl
theorem q10 : ∃ F, Try.prog.funcs[10]? = some F ∧ cFunc Try.prog F = some a10 := ⟨_, Try.func10, c10⟩
theorem c12 : cFunc Try.prog Try.f12 = some a12 := by kernel_rfl
theorem q12 : ∃ F, Try.prog.funcs[12]? = some F ∧ cFunc Try.prog F = some a12 := ⟨_, Try.func12, c12⟩
theorem c14 : cFunc Try.prog Try.f14 = some a14 := by kernel_rfl
theorem q14 : ∃ F, Try.prog.funcs[14]? = some F ∧ cFunc Try.prog F = some a14 := ⟨_, Try.func14, c14⟩
theorem c16 : cFunc Try.prog Try.f16 = some a16 := by kernel_rfl
theorem q16 : ∃ F, Try.prog.funcs[16]? = some F ∧ cFunc Try.prog F = some a16 := ⟨_, Try.func16, c16⟩
theorem c18 : cFunc Try.prog Try.f18 = some a18 := by kernel_rfl
theorem q18 : ∃ F, Try.prog.funcs[18]? = some F ∧ cFunc Try.prog F = some a18 := ⟨_, Try.func18, c18⟩
theorem c19 : cFunc Try.prog Try.f19 = some a19 := by kernel_rfl
theorem q19 : ∃ F, Try.prog.funcs[19]? = some F ∧ cFunc Try.prog F = some a19 := ⟨_, Try.func19, c19⟩
theorem c20 : cFunc Try.prog Try.f20 = some a20 := by kernel_rfl
theorem q20 : ∃ F, Try.prog.funcs[20]? = some F ∧ cFunc Try.prog F = some a20 := ⟨_, Try.func20, c20⟩
theorem c22 : cFunc Try.prog Try.f22 = some a22 := by kernel_rfl
theorem q22 : ∃ F, Try.prog.funcs[22]? = some F ∧ cFunc Try.prog F = some a22 := ⟨_, Try.func22, c22⟩
theorem c24 : cFunc Try.prog Try.f24 = some a24 := by kernel_rfl
theorem q24 : ∃ F, Try.prog.funcs[24]? = some F ∧ cFunc Try.prog F = some a24 := ⟨_, Try.func24, c24⟩
theorem c28 : cFunc Try.prog Try.f28 = some a28 := by kernel_rfl
theorem q28 : ∃ F, Try.prog.funcs[28]? = some F ∧ cFunc Try.prog F = some a28 := ⟨_, Try.func28, c28⟩
theorem c30 : cFunc Try.prog Try.f30 = some a30 := by kernel_rfl
theorem q30 : ∃ F, Try.prog.funcs[30]? = some F ∧ cFunc Try.prog F = some a30 := ⟨_, Try.func30, c30⟩
theorem c35 : cFunc Try.prog Try.f35 = some a35 := by kernel_rfl
theorem q35 : ∃ F, Try.prog.funcs[35]? = some F ∧ cFunc Try.prog F = some a35 := ⟨_, Try.func35, c35⟩
theorem c37 : cFunc Try.prog Try.f37 = some a37 := by kernel_rfl
theorem q37 : ∃ F, Try.prog.funcs[37]? = some F ∧ cFunc Try.prog F = some a37 := ⟨_, Try.func37, c37⟩
theorem c38 : cFunc Try.prog Try.f38 = some a38 := by kernel_rfl
theorem q38 : ∃ F, Try.prog.funcs[38]? = some F ∧ cFunc Try.prog F = some a38 := ⟨_, Try.func38, c38⟩
theorem c40 : cFunc Try.prog Try.f40 = some a40 := by kernel_rfl
theorem q40 : ∃ F, Try.prog.funcs[40]? = some F ∧ cFunc Try.prog F = some a40 := ⟨_, Try.func40, c40⟩
theorem c41 : cFunc Try.prog Try.f41 = some a41 := by kernel_rfl
theorem q41 : ∃ F, Try.prog.funcs[41]? = some F ∧ cFunc Try.prog F = some a41 := ⟨_, Try.func41, c41⟩
theorem c43 : cFunc Try.prog Try.f43 = some a43 := by kernel_rfl
theorem q43 : ∃ F, Try.prog.funcs[43]? = some F ∧ cFunc Try.prog F = some a43 := ⟨_, Try.func43, c43⟩
theorem c52 : cFunc Try.prog Try.f52 = some a52 := by kernel_rfl
theorem q52 : ∃ F, Try.prog.funcs[52]? = some F ∧ cFunc Try.prog F = some a52 := ⟨_, Try.func52, c52⟩
theorem c53 : cFunc Try.prog Try.f53 = some a53 := by kernel_rfl
theorem q53 : ∃ F, Try.prog.funcs[53]? = some F ∧ cFunc Try.prog F = some a53 := ⟨_, Try.func53, c53⟩
theorem c56 : cFunc Try.prog Try.f56 = some a56 := by kernel_rfl
theorem q56 : ∃ F, Try.prog.funcs[56]? = some F ∧ cFunc Try.prog F = some a56 := ⟨_, Try.func56, c56⟩
theorem c57 : cFunc Try.prog Try.f57 = some a57 := by kernel_rfl
theorem q57 : ∃ F, Try.prog.funcs[57]? = some F ∧ cFunc Try.prog F = some a57 := ⟨_, Try.func57, c57⟩
theorem c58 : cFunc Try.prog Try.f58 = some a58 := by kernel_rfl
theorem q58 : ∃ F, Try.prog.funcs[58]? = some F ∧ cFunc Try.prog F = some a58 := ⟨_, Try.func58, c58⟩
theorem c59 : cFunc Try.prog Try.f59 = some a59 := by kernel_rfl
theorem q59 : ∃ F, Try.prog.funcs[59]? = some F ∧ cFunc Try.prog F = some a59 := ⟨_, Try.func59, c59⟩
theorem c60 : cFunc Try.prog Try.f60 = some a60 := by kernel_rfl
theorem q60 : ∃ F, Try.prog.funcs[60]? = some F ∧ cFunc Try.prog F = some a60 := ⟨_, Try.func60, c60⟩
theorem c61 : cFunc Try.prog Try.f61 = some a61 := by kernel_rfl
theorem q61 : ∃ F, Try.prog.funcs[61]? = some F ∧ cFunc Try.prog F = some a61 := ⟨_, Try.func61, c61⟩
theorem c62 : cFunc Try.prog Try.f62 = some a62 := by kernel_rfl
theorem q62 : ∃ F, Try.prog.funcs[62]? = some F ∧ cFunc Try.prog F = some a62 := ⟨_, Try.func62, c62⟩
theorem c63 : cFunc Try.prog Try.f63 = some a63 := by kernel_rfl
theorem q63 : ∃ F, Try.prog.funcs[63]? = some F ∧ cFunc Try.prog F = some a63 := ⟨_, Try.func63, c63⟩
theorem c64 : cFunc Try.prog Try.f64 = some a64 := by kernel_rfl
theorem q64 : ∃ F, Try.prog.funcs[64]? = some F ∧ cFunc Try.prog F = some a64 := ⟨_, Try.func64, c64⟩
theorem c65 : cFunc Try.prog Try.f65 = some a65 := by kernel_rfl
theorem q65 : ∃ F, Try.prog.funcs[65]? = some F ∧ cFunc Try.prog F = some a65 := ⟨_, Try.func65, c65⟩
theorem c66 : cFunc Try.prog Try.f66 = some a66 := by kernel_rfl
theorem q66 : ∃ F, Try.prog.funcs[66]? = some F ∧ cFunc Try.prog F = some a66 := ⟨_, Try.func66, c66⟩
theorem c67 : cFunc Try.prog Try.f67 = some a67 := by kernel_rfl
theorem q67 : ∃ F, Try.prog.funcs[67]? = some F ∧ cFunc Try.prog F = some a67 := ⟨_, Try.func67, c67⟩
theorem c75 : cFunc Try.prog Try.f75 = some a75 := by kernel_rfl
theorem q75 : ∃ F, Try.prog.funcs[75]? = some F ∧ cFunc Try.prog F = some a75 := ⟨_, Try.func75, c75⟩
theorem c76 : cFunc Try.prog Try.f76 = some a76 := by kernel_rfl
theorem q76 : ∃ F, Try.prog.funcs[76]? = some F ∧ cFunc Try.prog F = some a76 := ⟨_, Try.func76, c76⟩
theorem c77 : cFunc Try.prog Try.f77 = some a77 := by kernel_rfl
theorem q77 : ∃ F, Try.prog.funcs[77]? = some F ∧ cFunc Try.prog F = some a77 := ⟨_, Try.func77, c77⟩
theorem c78 : cFunc Try.prog Try.f78 = some a78 := by kernel_rfl
theorem q78 : ∃ F, Try.prog.funcs[78]? = some F ∧ cFunc Try.prog F = some a78 := ⟨_, Try.func78, c78⟩
theorem c79 : cFunc Try.prog Try.f79 = some a79 := by kernel_rfl
theorem q79 : ∃ F, Try.prog.funcs[79]? = some F ∧ cFunc Try.prog F = some a79 := ⟨_, Try.func79, c79⟩
theorem c80 : cFunc Try.prog Try.f80 = some a80 := by kernel_rfl
theorem q80 : ∃ F, Try.prog.funcs[80]? = some F ∧ cFunc Try.prog F = some a80 := ⟨_, Try.func80, c80⟩
theorem c81 : cFunc Try.prog Try.f81 = some a81 := by kernel_rfl
theorem q81 : ∃ F, Try.prog.funcs[81]? = some F ∧ cFunc Try.prog F = some a81 := ⟨_, Try.func81, c81⟩
theorem c82 : cFunc Try.prog Try.f82 = some a82 := by kernel_rfl
theorem q82 : ∃ F, Try.prog.funcs[82]? = some F ∧ cFunc Try.prog F = some a82 := ⟨_, Try.func82, c82⟩
theorem c83 : cFunc Try.prog Try.f83 = some a83 := by kernel_rfl
theorem q83 : ∃ F, Try.prog.funcs[83]? = some F ∧ cFunc Try.prog F = some a83 := ⟨_, Try.func83, c83⟩
theorem c84 : cFunc Try.prog Try.f84 = some a84 := by kernel_rfl
theorem q84 : ∃ F, Try.prog.funcs[84]? = some F ∧ cFunc Try.prog F = some a84 := ⟨_, Try.func84, c84⟩
theorem c85 : cFunc Try.prog Try.f85 = some a85 := by kernel_rfl
theorem q85 : ∃ F, Try.prog.funcs[85]? = some F ∧ cFunc Try.prog F = some a85 := ⟨_, Try.func85, c85⟩
theorem c89 : cFunc Try.prog Try.f89 = some a89 := by kernel_rfl
theorem q89 : ∃ F, Try.prog.funcs[89]? = some F ∧ cFunc Try.prog F = some a89 := ⟨_, Try.func89, c89⟩
theorem c90 : cFunc Try.prog Try.f90 = some a90 := by kernel_rfl
theorem q90 : ∃ F, Try.prog.funcs[90]? = some F ∧ cFunc Try.prog F = some a90 := ⟨_, Try.func90, c90⟩
theorem c91 : cFunc Try.prog Try.f91 = some a91 := by kernel_rfl
theorem q91 : ∃ F, Try.prog.funcs[91]? = some F ∧ cFunc Try.prog F = some a91 := ⟨_, Try.func91, c91⟩
theorem c92 : cFunc Try.prog Try.f92 = some a92 := by kernel_rfl
theorem q92 : ∃ F, Try.prog.funcs[92]? = some F ∧ cFunc Try.prog F = some a92 := ⟨_, Try.func92, c92⟩
theorem c98 : cFunc Try.prog Try.f98 = some a98 := by kernel_rfl
theorem q98 : ∃ F, Try.prog.funcs[98]? = some F ∧ cFunc Try.prog F = some a98 := ⟨_, Try.func98, c98⟩
theorem c102 : cFunc Try.prog Try.f102 = some a102 := by kernel_rfl
theorem q102 : ∃ F, Try.prog.funcs[102]? = some F ∧ cFunc Try.prog F = some a102 := ⟨_, Try.func102, c102⟩
theorem c104 : cFunc Try.prog Try.f104 = some a104 := by kernel_rfl
theorem q104 : ∃ F, Try.prog.funcs[104]? = some F ∧ cFunc Try.prog F = some a104 := ⟨_, Try.func104, c104⟩
theorem c112 : cFunc Try.prog Try.f112 = some a112 := by kernel_rfl
theorem q112 : ∃ F, Try.prog.funcs[112]? = some F ∧ cFunc Try.prog F = some a112 := ⟨_, Try.func112, c112⟩
theorem tabOk : Trie.All (fun k fn => ∃ F, Try.prog.funcs[k]? = some F ∧ cFunc Try.prog F = some fn) tab id := ⟨fun _ h => (by cases h), ⟨fun _ h => (by cases h), ⟨fun _ h => (by cases h), ⟨fun _ h => (by cases h), ⟨fun _ h => (by cases h), ⟨fun _ h => (by cases h), ⟨fun _ h => (by cases h; exact q63), trivial, trivial⟩, trivial⟩, ⟨fun _ h => (by cases h), ⟨fun _ h => (by cases h; exact q79), trivial, trivial⟩, trivial⟩⟩, trivial⟩, ⟨fun _ h => (by cases h), ⟨fun _ h => (by cases h; exact q19), ⟨fun _ h => (by cases h; exact q35), ⟨fun _ h => (by cases h; exact q67), trivial, trivial⟩, trivial⟩, ⟨fun _ h => (by cases h), ⟨fun _ h => (by cases h; exact q83), trivial, trivial⟩, trivial⟩⟩, ⟨fun _ h => (by cases h), ⟨fun _ h => (by cases h; exact q43), ⟨fun _ h => (by cases h; exact q75), trivial, trivial⟩, trivial⟩, ⟨fun _ h => (by cases h; exact q59), ⟨fun _ h => (by cases h; exact q91), trivial, trivial⟩, trivial⟩⟩⟩⟩, ⟨fun _ h => (by cases h), ⟨fun _ h => (by cases h; exact q9), ⟨fun _ h => (by cases h), ⟨fun _ h => (by cases h), ⟨fun _ h => (by cases h; exact q65), trivial, trivial⟩, trivial⟩, ⟨fun _ h => (by cases h), ⟨fun _ h => (by cases h; exact q81), trivial, trivial⟩, trivial⟩⟩, ⟨fun _ h => (by cases h), ⟨fun _ h => (by cases h; exact q41), trivial, trivial⟩, ⟨fun _ h => (by cases h; exact q57), ⟨fun _ h => (by cases h; exact q89), trivial, trivial⟩, trivial⟩⟩⟩, ⟨fun _ h => (by cases h), ⟨fun _ h => (by cases h), ⟨fun _ h => (by cases h; exact q37), trivial, trivial⟩, ⟨fun _ h => (by cases h; exact q53), ⟨fun _ h => (by cases h; exact q85), trivial, trivial⟩, trivial⟩⟩, ⟨fun _ h => (by cases h), ⟨fun _ h => (by cases h), ⟨fun _ h => (by cases h; exact q77), trivial, trivial⟩, trivial⟩, ⟨fun _ h => (by cases h; exact q61), trivial, trivial⟩⟩⟩⟩⟩, ⟨fun _ h => (by cases h), ⟨fun _ h => (by cases h; exact q4), ⟨fun _ h => (by cases h), ⟨fun _ h => (by cases h; exact q16), ⟨fun _ h => (by cases h), ⟨fun _ h => (by cases h; exact q64), trivial, trivial⟩, trivial⟩, ⟨fun _ h => (by cases h), ⟨fun _ h => (by cases h; exact q80), trivial, trivial⟩, ⟨fun _ h => (by cases h; exact q112), trivial, trivial⟩⟩⟩, ⟨fun _ h => (by cases h; exact q24), ⟨fun _ h => (by cases h; exact q40), trivial, ⟨fun _ h => (by cases h; exact q104), trivial, trivial⟩⟩, ⟨fun _ h => (by cases h; exact q56), trivial, trivial⟩⟩⟩, ⟨fun _ h => (by cases h; exact q12), ⟨fun _ h => (by cases h; exact q20), trivial, ⟨fun _ h => (by cases h; exact q52), ⟨fun _ h => (by cases h; exact q84), trivial, trivial⟩, trivial⟩⟩, ⟨fun _ h => (by cases h; exact q28), ⟨fun _ h => (by cases h), ⟨fun _ h => (by cases h; exact q76), trivial, trivial⟩, trivial⟩, ⟨fun _ h => (by cases h; exact q60), ⟨fun _ h => (by cases h; exact q92), trivial, trivial⟩, trivial⟩⟩⟩⟩, ⟨fun _ h => (by cases h), ⟨fun _ h => (by cases h; exact q10), ⟨fun _ h => (by cases h; exact q18), ⟨fun _ h => (by cases h), ⟨fun _ h => (by cases h; exact q66), trivial, trivial⟩, ⟨fun _ h => (by cases h; exact q98), trivial, trivial⟩⟩, ⟨fun _ h => (by cases h), ⟨fun _ h => (by cases h; exact q82), trivial, trivial⟩, trivial⟩⟩, ⟨fun _ h => (by cases h), trivial, ⟨fun _ h => (by cases h; exact q58), ⟨fun _ h => (by cases h; exact q90), trivial, trivial⟩, trivial⟩⟩⟩, ⟨fun _ h => (by cases h; exact q14), ⟨fun _ h => (by cases h; exact q22), ⟨fun _ h => (by cases h; exact q38), trivial, ⟨fun _ h => (by cases h; exact q102), trivial, trivial⟩⟩, trivial⟩, ⟨fun _ h => (by cases h; exact q30), ⟨fun _ h => (by cases h), ⟨fun _ h => (by cases h; exact q78), trivial, trivial⟩, trivial⟩, ⟨fun _ h => (by cases h; exact q62), trivial, trivial⟩⟩⟩⟩⟩⟩
end Go.Proofs.Ytiopfolmngmkjaa
