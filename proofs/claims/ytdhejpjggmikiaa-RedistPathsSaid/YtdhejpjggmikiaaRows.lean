/-
  No cell of these rows narrows 'for every input' (looked for: loops, veiled, ifaces, maps, wideKeys, modest, calm, conditions, laid).
  DERIVED. THE GIVEN ROWS OF THIS SEAT. 5 by the template 'for every input the law returns true; each argument reads behind the call as it read before'; 0 by the template 'total and deterministic' (their statements: YtdhejpjggmikiaaTotals.lean).
  GIVEN WITH THE SEED: the statements are not yours to turn. If you find one false, say at which input.
  Laid BY PROGRAM, IN A SANDBOX (cutbox-rows.mjs): the forced cells as the released guide's own fill.sh prints them over the translation 17bd956a315180c0… (all of the seat's roots in one cut). By AI agents, Wed Nov 11 2026. No macro, syntax, notation, axiom, sorry.
-/
import Derived.Test.YtdhejpjggmikiaaChecked
import GoSem.Claim
import GoSem.ClaimJoined
import GoSem.ClaimMapViews
import Derived.JoinedTies
import Derived.KernelRfl
namespace Go.Proofs.Ytdhejpjggmikiaa
/- THE CELL 'sum', in the pinned program and in every row, IS THE sha256 OF THE DUMP (.gsa) THAT YtdhejpjggmikiaaProg.lean LOADS. Nothing in Lean hashes anything: it is a label: what it is worth is what the hold of that sum in a sandbox is worth. -/
noncomputable def Try.pinned : Pinned := { name := "ytdhejpjggmikiaa", sum := "17bd956a315180c0a4b8eb0ffd7b90da7b2d68e84cb040454724f18727af1bac", checked := Try.checked }
namespace Rows
def none {H : Type} : Left H := { results := [], args := [] }

/-- 'octroilaw15.RedistPasses': WHATEVER THE INPUT: true; the input reads as it did. -/
def redistPassesSpec : ChangeSpec := { name := "redistPasses", fn := fun _ => fun
  | [d1, d2] => { results := [.lit (.bool true)], args := [d1, d2] }
  | _ => none }
def redistPassesRow : OpenClaim := { program := "ytdhejpjggmikiaa", sum := "17bd956a315180c0a4b8eb0ffd7b90da7b2d68e84cb040454724f18727af1bac", func := "octroi/octroilaw15.RedistPasses", spec := "redistPasses", apart := false }
def RedistPassesSaid : Prop := redistPassesRow.holds Try.pinned (OpenSpec.ofChange redistPassesSpec)

/-- ITS FALSE NEIGHBOUR: 'it returns false'. Refute it at one input. -/
def redistPassesWrong : ChangeSpec := { name := "redistPasses", fn := fun _ => fun
  | [d1, d2] => { results := [.lit (.bool false)], args := [d1, d2] }
  | _ => none }
def RedistPassesWrongFalsely : Prop := redistPassesRow.holds Try.pinned (OpenSpec.ofChange redistPassesWrong)

/-- 'octroilaw15.RedistOwn': WHATEVER THE INPUT: true; the input reads as it did. -/
def redistOwnSpec : ChangeSpec := { name := "redistOwn", fn := fun _ => fun
  | [d1, d2, d3] => { results := [.lit (.bool true)], args := [d1, d2, d3] }
  | _ => none }
def redistOwnRow : OpenClaim := { program := "ytdhejpjggmikiaa", sum := "17bd956a315180c0a4b8eb0ffd7b90da7b2d68e84cb040454724f18727af1bac", func := "octroi/octroilaw15.RedistOwn", spec := "redistOwn", apart := false }
def RedistOwnSaid : Prop := redistOwnRow.holds Try.pinned (OpenSpec.ofChange redistOwnSpec)

/-- ITS FALSE NEIGHBOUR: 'it returns false'. Refute it at one input. -/
def redistOwnWrong : ChangeSpec := { name := "redistOwn", fn := fun _ => fun
  | [d1, d2, d3] => { results := [.lit (.bool false)], args := [d1, d2, d3] }
  | _ => none }
def RedistOwnWrongFalsely : Prop := redistOwnRow.holds Try.pinned (OpenSpec.ofChange redistOwnWrong)

/-- 'octroilaw15.RedistAccepts': WHATEVER THE INPUT: true; the input reads as it did. -/
def redistAcceptsSpec : ChangeSpec := { name := "redistAccepts", fn := fun _ => fun
  | [d1, d2, d3, d4] => { results := [.lit (.bool true)], args := [d1, d2, d3, d4] }
  | _ => none }
def redistAcceptsRow : OpenClaim := { program := "ytdhejpjggmikiaa", sum := "17bd956a315180c0a4b8eb0ffd7b90da7b2d68e84cb040454724f18727af1bac", func := "octroi/octroilaw15.RedistAccepts", spec := "redistAccepts", apart := false }
def RedistAcceptsSaid : Prop := redistAcceptsRow.holds Try.pinned (OpenSpec.ofChange redistAcceptsSpec)

/-- ITS FALSE NEIGHBOUR: 'it returns false'. Refute it at one input. -/
def redistAcceptsWrong : ChangeSpec := { name := "redistAccepts", fn := fun _ => fun
  | [d1, d2, d3, d4] => { results := [.lit (.bool false)], args := [d1, d2, d3, d4] }
  | _ => none }
def RedistAcceptsWrongFalsely : Prop := redistAcceptsRow.holds Try.pinned (OpenSpec.ofChange redistAcceptsWrong)

/-- 'octroilaw15.RedistDeepens': WHATEVER THE INPUT: true; the input reads as it did. -/
def redistDeepensSpec : ChangeSpec := { name := "redistDeepens", fn := fun _ => fun
  | [d1, d2] => { results := [.lit (.bool true)], args := [d1, d2] }
  | _ => none }
def redistDeepensRow : OpenClaim := { program := "ytdhejpjggmikiaa", sum := "17bd956a315180c0a4b8eb0ffd7b90da7b2d68e84cb040454724f18727af1bac", func := "octroi/octroilaw15.RedistDeepens", spec := "redistDeepens", apart := false }
def RedistDeepensSaid : Prop := redistDeepensRow.holds Try.pinned (OpenSpec.ofChange redistDeepensSpec)

/-- ITS FALSE NEIGHBOUR: 'it returns false'. Refute it at one input. -/
def redistDeepensWrong : ChangeSpec := { name := "redistDeepens", fn := fun _ => fun
  | [d1, d2] => { results := [.lit (.bool false)], args := [d1, d2] }
  | _ => none }
def RedistDeepensWrongFalsely : Prop := redistDeepensRow.holds Try.pinned (OpenSpec.ofChange redistDeepensWrong)

/-- 'octroilaw15.RedistPaths': WHATEVER THE INPUT: true; the input reads as it did. -/
def redistPathsSpec : ChangeSpec := { name := "redistPaths", fn := fun _ => fun
  | [d] => { results := [.lit (.bool true)], args := [d] }
  | _ => none }
def redistPathsRow : OpenClaim := { program := "ytdhejpjggmikiaa", sum := "17bd956a315180c0a4b8eb0ffd7b90da7b2d68e84cb040454724f18727af1bac", func := "octroi/octroilaw15.RedistPaths", spec := "redistPaths", apart := false }
def RedistPathsSaid : Prop := redistPathsRow.holds Try.pinned (OpenSpec.ofChange redistPathsSpec)

/-- ITS FALSE NEIGHBOUR: 'it returns false'. Refute it at one input. -/
def redistPathsWrong : ChangeSpec := { name := "redistPaths", fn := fun _ => fun
  | [d] => { results := [.lit (.bool false)], args := [d] }
  | _ => none }
def RedistPathsWrongFalsely : Prop := redistPathsRow.holds Try.pinned (OpenSpec.ofChange redistPathsWrong)

/- THE SECOND FORM. 'bulk': how many values and letters a reading holds, each counted each time it is reached (what is shared counts as often as it is met; a slice's spare places count too). A statement '..UptoSaid' is the law's where the arguments, and the package variables that the reading takes, are together of bulk at most 1048576: NARROWER than '..Said'. Prove '..Said' where nothing that the law and all that it calls make is longer than what came in: it says more and counts as full. Else prove '..UptoSaid'. A law counts once. -/
mutual
def uptoBulk {H : Type} : DataW H → Nat
  | .lit (.string bytes) => bytes.length + 1
  | .lit _ => 1
  | .nil => 1
  | .ptr d => uptoBulk d + 1
  | .slice elems spare => uptoBulkAll elems + uptoBulkAll spare + 1
  | .agg parts => uptoBulkAll parts + 1
  | .iface _ d => uptoBulk d + 1
  | .map entries => uptoBulkEntries entries + 1
  | .held _ => 1
def uptoBulkAll {H : Type} : List (DataW H) → Nat
  | [] => 0
  | d :: r => uptoBulk d + uptoBulkAll r
def uptoBulkEntries {H : Type} : List (Lit × DataW H) → Nat
  | [] => 0
  | x :: r => uptoBulkEntry x + uptoBulkEntries r
def uptoBulkEntry {H : Type} : Lit × DataW H → Nat
  | (.string bytes, d) => bytes.length + uptoBulk d + 1
  | (_, d) => uptoBulk d + 1
 end
def uptoSmall : (H : Type) → List (DataW H) → Bool := fun _ ds => decide (uptoBulkAll ds ≤ 1048576)
def OpenSpec.upto (s : _root_.Go.ChangeSpec) : _root_.Go.OpenSpec := { _root_.Go.OpenSpec.ofChange s with cond := some uptoSmall }

/-- 'octroilaw15.RedistPasses', WHERE WHAT IT READS IS OF BULK AT MOST 1048576: true; the input reads as it did. -/
def redistPassesUptoRow : OpenClaim := { program := "ytdhejpjggmikiaa", sum := "17bd956a315180c0a4b8eb0ffd7b90da7b2d68e84cb040454724f18727af1bac", func := "octroi/octroilaw15.RedistPasses", spec := "redistPasses", apart := false, narrowed := true }
def RedistPassesUptoSaid : Prop := redistPassesUptoRow.holds Try.pinned (OpenSpec.upto redistPassesSpec)

/-- 'octroilaw15.RedistOwn', WHERE WHAT IT READS IS OF BULK AT MOST 1048576: true; the input reads as it did. -/
def redistOwnUptoRow : OpenClaim := { program := "ytdhejpjggmikiaa", sum := "17bd956a315180c0a4b8eb0ffd7b90da7b2d68e84cb040454724f18727af1bac", func := "octroi/octroilaw15.RedistOwn", spec := "redistOwn", apart := false, narrowed := true }
def RedistOwnUptoSaid : Prop := redistOwnUptoRow.holds Try.pinned (OpenSpec.upto redistOwnSpec)

/-- 'octroilaw15.RedistAccepts', WHERE WHAT IT READS IS OF BULK AT MOST 1048576: true; the input reads as it did. -/
def redistAcceptsUptoRow : OpenClaim := { program := "ytdhejpjggmikiaa", sum := "17bd956a315180c0a4b8eb0ffd7b90da7b2d68e84cb040454724f18727af1bac", func := "octroi/octroilaw15.RedistAccepts", spec := "redistAccepts", apart := false, narrowed := true }
def RedistAcceptsUptoSaid : Prop := redistAcceptsUptoRow.holds Try.pinned (OpenSpec.upto redistAcceptsSpec)

/-- 'octroilaw15.RedistDeepens', WHERE WHAT IT READS IS OF BULK AT MOST 1048576: true; the input reads as it did. -/
def redistDeepensUptoRow : OpenClaim := { program := "ytdhejpjggmikiaa", sum := "17bd956a315180c0a4b8eb0ffd7b90da7b2d68e84cb040454724f18727af1bac", func := "octroi/octroilaw15.RedistDeepens", spec := "redistDeepens", apart := false, narrowed := true }
def RedistDeepensUptoSaid : Prop := redistDeepensUptoRow.holds Try.pinned (OpenSpec.upto redistDeepensSpec)

/-- 'octroilaw15.RedistPaths', WHERE WHAT IT READS IS OF BULK AT MOST 1048576: true; the input reads as it did. -/
def redistPathsUptoRow : OpenClaim := { program := "ytdhejpjggmikiaa", sum := "17bd956a315180c0a4b8eb0ffd7b90da7b2d68e84cb040454724f18727af1bac", func := "octroi/octroilaw15.RedistPaths", spec := "redistPaths", apart := false, narrowed := true }
def RedistPathsUptoSaid : Prop := redistPathsUptoRow.holds Try.pinned (OpenSpec.upto redistPathsSpec)

end Rows
end Go.Proofs.Ytdhejpjggmikiaa
