/-
  No cell of these rows narrows 'for every input' (looked for: loops, veiled, ifaces, maps, wideKeys, modest, calm, conditions, laid).
  DERIVED. THE GIVEN ROWS OF THIS SEAT. 5 by the template 'for every input the law returns true; each argument reads behind the call as it read before'; 0 by the template 'total and deterministic' (their statements: YtiopfolmngmkjaaTotals.lean).
  GIVEN WITH THE SEED: the statements are not yours to turn. If you find one false, say at which input.
  Laid BY PROGRAM, IN A SANDBOX (cutbox-rows.mjs): the forced cells as the released guide's own fill.sh prints them over the translation 943f9fc69b1c3040… (all of the seat's roots in one cut). By AI agents, Wed Nov 11 2026. No macro, syntax, notation, axiom, sorry.
-/
import Derived.Test.YtiopfolmngmkjaaChecked
import GoSem.Claim
import GoSem.ClaimJoined
import GoSem.ClaimMapViews
import Derived.JoinedTies
import Derived.KernelRfl
namespace Go.Proofs.Ytiopfolmngmkjaa
/- THE CELL 'sum', in the pinned program and in every row, IS THE sha256 OF THE DUMP (.gsa) THAT YtiopfolmngmkjaaProg.lean LOADS. Nothing in Lean hashes anything: it is a label: what it is worth is what the hold of that sum in a sandbox is worth. -/
noncomputable def Try.pinned : Pinned := { name := "ytiopfolmngmkjaa", sum := "943f9fc69b1c3040002677c6d007b03484c2d876683ead3341358acbc3bbb474", checked := Try.checked }
namespace Rows
def none {H : Type} : Left H := { results := [], args := [] }

/-- 'duetlaw15.SubmitScripts': WHATEVER THE INPUT: true; the input reads as it did. -/
def submitScriptsSpec : ChangeSpec := { name := "submitScripts", fn := fun _ => fun
  | [d1, d2, d3] => { results := [.lit (.bool true)], args := [d1, d2, d3] }
  | _ => none }
def submitScriptsRow : OpenClaim := { program := "ytiopfolmngmkjaa", sum := "943f9fc69b1c3040002677c6d007b03484c2d876683ead3341358acbc3bbb474", func := "duet/duetlaw15.SubmitScripts", spec := "submitScripts", unfollowed := true, recurses := true, plainKeys := false, apart := false }
def SubmitScriptsSaid : Prop := submitScriptsRow.holds Try.pinned (OpenSpec.ofChange submitScriptsSpec)

/-- ITS FALSE NEIGHBOUR: 'it returns false'. Refute it at one input. -/
def submitScriptsWrong : ChangeSpec := { name := "submitScripts", fn := fun _ => fun
  | [d1, d2, d3] => { results := [.lit (.bool false)], args := [d1, d2, d3] }
  | _ => none }
def SubmitScriptsWrongFalsely : Prop := submitScriptsRow.holds Try.pinned (OpenSpec.ofChange submitScriptsWrong)

/-- 'duetlaw15.SubmitNil': WHATEVER THE INPUT: true; the input reads as it did. -/
def submitNilSpec : ChangeSpec := { name := "submitNil", fn := fun _ => fun
  | [d] => { results := [.lit (.bool true)], args := [d] }
  | _ => none }
def submitNilRow : OpenClaim := { program := "ytiopfolmngmkjaa", sum := "943f9fc69b1c3040002677c6d007b03484c2d876683ead3341358acbc3bbb474", func := "duet/duetlaw15.SubmitNil", spec := "submitNil", unfollowed := true, recurses := true, plainKeys := false, apart := false }
def SubmitNilSaid : Prop := submitNilRow.holds Try.pinned (OpenSpec.ofChange submitNilSpec)

/-- ITS FALSE NEIGHBOUR: 'it returns false'. Refute it at one input. -/
def submitNilWrong : ChangeSpec := { name := "submitNil", fn := fun _ => fun
  | [d] => { results := [.lit (.bool false)], args := [d] }
  | _ => none }
def SubmitNilWrongFalsely : Prop := submitNilRow.holds Try.pinned (OpenSpec.ofChange submitNilWrong)

/-- 'duetlaw15.SubmitAll': WHATEVER THE INPUT: true; the input reads as it did. -/
def submitAllSpec : ChangeSpec := { name := "submitAll", fn := fun _ => fun
  | [d1, d2, d3] => { results := [.lit (.bool true)], args := [d1, d2, d3] }
  | _ => none }
def submitAllRow : OpenClaim := { program := "ytiopfolmngmkjaa", sum := "943f9fc69b1c3040002677c6d007b03484c2d876683ead3341358acbc3bbb474", func := "duet/duetlaw15.SubmitAll", spec := "submitAll", unfollowed := true, recurses := true, plainKeys := false, apart := false }
def SubmitAllSaid : Prop := submitAllRow.holds Try.pinned (OpenSpec.ofChange submitAllSpec)

/-- ITS FALSE NEIGHBOUR: 'it returns false'. Refute it at one input. -/
def submitAllWrong : ChangeSpec := { name := "submitAll", fn := fun _ => fun
  | [d1, d2, d3] => { results := [.lit (.bool false)], args := [d1, d2, d3] }
  | _ => none }
def SubmitAllWrongFalsely : Prop := submitAllRow.holds Try.pinned (OpenSpec.ofChange submitAllWrong)

/-- 'duetlaw15.SubmitOne': WHATEVER THE INPUT: true; the input reads as it did. -/
def submitOneSpec : ChangeSpec := { name := "submitOne", fn := fun _ => fun
  | [d1, d2] => { results := [.lit (.bool true)], args := [d1, d2] }
  | _ => none }
def submitOneRow : OpenClaim := { program := "ytiopfolmngmkjaa", sum := "943f9fc69b1c3040002677c6d007b03484c2d876683ead3341358acbc3bbb474", func := "duet/duetlaw15.SubmitOne", spec := "submitOne", inPlace := ["slices.overlaps[duet/api.Msg]"], unfollowed := true, recurses := true, plainKeys := false, apart := false }
def SubmitOneSaid : Prop := submitOneRow.holds Try.pinned (OpenSpec.ofChange submitOneSpec)

/-- ITS FALSE NEIGHBOUR: 'it returns false'. Refute it at one input. -/
def submitOneWrong : ChangeSpec := { name := "submitOne", fn := fun _ => fun
  | [d1, d2] => { results := [.lit (.bool false)], args := [d1, d2] }
  | _ => none }
def SubmitOneWrongFalsely : Prop := submitOneRow.holds Try.pinned (OpenSpec.ofChange submitOneWrong)

/-- 'duetlaw15.SubmitMixed': WHATEVER THE INPUT: true; the input reads as it did. -/
def submitMixedSpec : ChangeSpec := { name := "submitMixed", fn := fun _ => fun
  | [d1, d2] => { results := [.lit (.bool true)], args := [d1, d2] }
  | _ => none }
def submitMixedRow : OpenClaim := { program := "ytiopfolmngmkjaa", sum := "943f9fc69b1c3040002677c6d007b03484c2d876683ead3341358acbc3bbb474", func := "duet/duetlaw15.SubmitMixed", spec := "submitMixed", inPlace := ["slices.overlaps[duet/api.Msg]"], unfollowed := true, recurses := true, plainKeys := false, apart := false }
def SubmitMixedSaid : Prop := submitMixedRow.holds Try.pinned (OpenSpec.ofChange submitMixedSpec)

/-- ITS FALSE NEIGHBOUR: 'it returns false'. Refute it at one input. -/
def submitMixedWrong : ChangeSpec := { name := "submitMixed", fn := fun _ => fun
  | [d1, d2] => { results := [.lit (.bool false)], args := [d1, d2] }
  | _ => none }
def SubmitMixedWrongFalsely : Prop := submitMixedRow.holds Try.pinned (OpenSpec.ofChange submitMixedWrong)

/- THE SECOND FORM. 'bulk': how many values and letters a reading holds, each counted each time it is reached (what is shared counts as often as it is met; a slice's spare places count too). A statement '..UptoSaid' is the law's where the arguments, and the package variables that the reading takes, are together of bulk at most 1048576: NARROWER than '..Said'. Prove '..Said' where nothing that the law and all that it calls make is longer than what came in: it says more and counts as full. Else prove '..UptoSaid'. A law counts once. -/
mutual
def uptoBulk {H : Type} : DataW H → Nat
  | .lit (.string bytes) => bytes.length + 1
  | .lit _ => 1
  | .nil => 1
  | .ptr d => uptoBulk d + 1
  | .slice elems spare => uptoBulkAll elems + uptoBulkAll spare + 1
  | .agg parts => uptoBulkAll parts + 1
  | .iface _ d => uptoBulk d + 1
  | .map entries => uptoBulkEntries entries + 1
  | .held _ => 1
def uptoBulkAll {H : Type} : List (DataW H) → Nat
  | [] => 0
  | d :: r => uptoBulk d + uptoBulkAll r
def uptoBulkEntries {H : Type} : List (Lit × DataW H) → Nat
  | [] => 0
  | x :: r => uptoBulkEntry x + uptoBulkEntries r
def uptoBulkEntry {H : Type} : Lit × DataW H → Nat
  | (.string bytes, d) => bytes.length + uptoBulk d + 1
  | (_, d) => uptoBulk d + 1
 end
def uptoSmall : (H : Type) → List (DataW H) → Bool := fun _ ds => decide (uptoBulkAll ds ≤ 1048576)
def OpenSpec.upto (s : _root_.Go.ChangeSpec) : _root_.Go.OpenSpec := { _root_.Go.OpenSpec.ofChange s with cond := some uptoSmall }

/-- 'duetlaw15.SubmitScripts', WHERE WHAT IT READS IS OF BULK AT MOST 1048576: true; the input reads as it did. -/
def submitScriptsUptoRow : OpenClaim := { program := "ytiopfolmngmkjaa", sum := "943f9fc69b1c3040002677c6d007b03484c2d876683ead3341358acbc3bbb474", func := "duet/duetlaw15.SubmitScripts", spec := "submitScripts", unfollowed := true, recurses := true, plainKeys := false, apart := false, narrowed := true }
def SubmitScriptsUptoSaid : Prop := submitScriptsUptoRow.holds Try.pinned (OpenSpec.upto submitScriptsSpec)

/-- 'duetlaw15.SubmitNil', WHERE WHAT IT READS IS OF BULK AT MOST 1048576: true; the input reads as it did. -/
def submitNilUptoRow : OpenClaim := { program := "ytiopfolmngmkjaa", sum := "943f9fc69b1c3040002677c6d007b03484c2d876683ead3341358acbc3bbb474", func := "duet/duetlaw15.SubmitNil", spec := "submitNil", unfollowed := true, recurses := true, plainKeys := false, apart := false, narrowed := true }
def SubmitNilUptoSaid : Prop := submitNilUptoRow.holds Try.pinned (OpenSpec.upto submitNilSpec)

/-- 'duetlaw15.SubmitAll', WHERE WHAT IT READS IS OF BULK AT MOST 1048576: true; the input reads as it did. -/
def submitAllUptoRow : OpenClaim := { program := "ytiopfolmngmkjaa", sum := "943f9fc69b1c3040002677c6d007b03484c2d876683ead3341358acbc3bbb474", func := "duet/duetlaw15.SubmitAll", spec := "submitAll", unfollowed := true, recurses := true, plainKeys := false, apart := false, narrowed := true }
def SubmitAllUptoSaid : Prop := submitAllUptoRow.holds Try.pinned (OpenSpec.upto submitAllSpec)

/-- 'duetlaw15.SubmitOne', WHERE WHAT IT READS IS OF BULK AT MOST 1048576: true; the input reads as it did. -/
def submitOneUptoRow : OpenClaim := { program := "ytiopfolmngmkjaa", sum := "943f9fc69b1c3040002677c6d007b03484c2d876683ead3341358acbc3bbb474", func := "duet/duetlaw15.SubmitOne", spec := "submitOne", inPlace := ["slices.overlaps[duet/api.Msg]"], unfollowed := true, recurses := true, plainKeys := false, apart := false, narrowed := true }
def SubmitOneUptoSaid : Prop := submitOneUptoRow.holds Try.pinned (OpenSpec.upto submitOneSpec)

/-- 'duetlaw15.SubmitMixed', WHERE WHAT IT READS IS OF BULK AT MOST 1048576: true; the input reads as it did. -/
def submitMixedUptoRow : OpenClaim := { program := "ytiopfolmngmkjaa", sum := "943f9fc69b1c3040002677c6d007b03484c2d876683ead3341358acbc3bbb474", func := "duet/duetlaw15.SubmitMixed", spec := "submitMixed", inPlace := ["slices.overlaps[duet/api.Msg]"], unfollowed := true, recurses := true, plainKeys := false, apart := false, narrowed := true }
def SubmitMixedUptoSaid : Prop := submitMixedUptoRow.holds Try.pinned (OpenSpec.upto submitMixedSpec)

end Rows
end Go.Proofs.Ytiopfolmngmkjaa
