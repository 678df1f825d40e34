/-
  No cell of these rows narrows 'for every input' (looked for: loops, veiled, ifaces, maps, wideKeys, modest, calm, conditions, laid).
  DERIVED. THE GIVEN ROWS OF THIS SEAT. 6 by the template 'for every input the law returns true; each argument reads behind the call as it read before'; 0 by the template 'total and deterministic' (their statements: YtchmcmioilmnpaaTotals.lean).
  GIVEN WITH THE SEED: the statements are not yours to turn. If you find one false, say at which input.
  Laid BY PROGRAM, IN A SANDBOX (cutbox-rows.mjs): the forced cells as the released guide's own fill.sh prints them over the translation 89f32aa4bf45f4b8… (all of the seat's roots in one cut). By AI agents, Wed Nov 11 2026. No macro, syntax, notation, axiom, sorry.
-/
import Derived.Test.YtchmcmioilmnpaaChecked
import GoSem.Claim
import GoSem.ClaimJoined
import GoSem.ClaimMapViews
import Derived.JoinedTies
import Derived.KernelRfl
namespace Go.Proofs.Ytchmcmioilmnpaa
/- THE CELL 'sum', in the pinned program and in every row, IS THE sha256 OF THE DUMP (.gsa) THAT YtchmcmioilmnpaaProg.lean LOADS. Nothing in Lean hashes anything: it is a label: what it is worth is what the hold of that sum in a sandbox is worth. -/
noncomputable def Try.pinned : Pinned := { name := "ytchmcmioilmnpaa", sum := "89f32aa4bf45f4b8f58f03194503fe106d0d4960511b6057600d535370d288ae", checked := Try.checked }
namespace Rows
def none {H : Type} : Left H := { results := [], args := [] }

/-- 'octroilaw11.NeighDoes': WHATEVER THE INPUT: true; the input reads as it did. -/
def neighDoesSpec : ChangeSpec := { name := "neighDoes", fn := fun _ => fun
  | [d] => { results := [.lit (.bool true)], args := [d] }
  | _ => none }
def neighDoesRow : OpenClaim := { program := "ytchmcmioilmnpaa", sum := "89f32aa4bf45f4b8f58f03194503fe106d0d4960511b6057600d535370d288ae", func := "octroi/octroilaw11.NeighDoes", spec := "neighDoes", apart := false }
def NeighDoesSaid : Prop := neighDoesRow.holds Try.pinned (OpenSpec.ofChange neighDoesSpec)

/-- ITS FALSE NEIGHBOUR: 'it returns false'. Refute it at one input. -/
def neighDoesWrong : ChangeSpec := { name := "neighDoes", fn := fun _ => fun
  | [d] => { results := [.lit (.bool false)], args := [d] }
  | _ => none }
def NeighDoesWrongFalsely : Prop := neighDoesRow.holds Try.pinned (OpenSpec.ofChange neighDoesWrong)

/-- 'octroilaw11.NeighLost': WHATEVER THE INPUT: true; the input reads as it did. -/
def neighLostSpec : ChangeSpec := { name := "neighLost", fn := fun _ => fun
  | [d1, d2] => { results := [.lit (.bool true)], args := [d1, d2] }
  | _ => none }
def neighLostRow : OpenClaim := { program := "ytchmcmioilmnpaa", sum := "89f32aa4bf45f4b8f58f03194503fe106d0d4960511b6057600d535370d288ae", func := "octroi/octroilaw11.NeighLost", spec := "neighLost", apart := false }
def NeighLostSaid : Prop := neighLostRow.holds Try.pinned (OpenSpec.ofChange neighLostSpec)

/-- ITS FALSE NEIGHBOUR: 'it returns false'. Refute it at one input. -/
def neighLostWrong : ChangeSpec := { name := "neighLost", fn := fun _ => fun
  | [d1, d2] => { results := [.lit (.bool false)], args := [d1, d2] }
  | _ => none }
def NeighLostWrongFalsely : Prop := neighLostRow.holds Try.pinned (OpenSpec.ofChange neighLostWrong)

/-- 'octroilaw11.NeighBack': WHATEVER THE INPUT: true; the input reads as it did. -/
def neighBackSpec : ChangeSpec := { name := "neighBack", fn := fun _ => fun
  | [d1, d2, d3] => { results := [.lit (.bool true)], args := [d1, d2, d3] }
  | _ => none }
def neighBackRow : OpenClaim := { program := "ytchmcmioilmnpaa", sum := "89f32aa4bf45f4b8f58f03194503fe106d0d4960511b6057600d535370d288ae", func := "octroi/octroilaw11.NeighBack", spec := "neighBack", apart := false }
def NeighBackSaid : Prop := neighBackRow.holds Try.pinned (OpenSpec.ofChange neighBackSpec)

/-- ITS FALSE NEIGHBOUR: 'it returns false'. Refute it at one input. -/
def neighBackWrong : ChangeSpec := { name := "neighBack", fn := fun _ => fun
  | [d1, d2, d3] => { results := [.lit (.bool false)], args := [d1, d2, d3] }
  | _ => none }
def NeighBackWrongFalsely : Prop := neighBackRow.holds Try.pinned (OpenSpec.ofChange neighBackWrong)

/-- 'octroilaw11.NeighTwice': WHATEVER THE INPUT: true; the input reads as it did. -/
def neighTwiceSpec : ChangeSpec := { name := "neighTwice", fn := fun _ => fun
  | [d1, d2] => { results := [.lit (.bool true)], args := [d1, d2] }
  | _ => none }
def neighTwiceRow : OpenClaim := { program := "ytchmcmioilmnpaa", sum := "89f32aa4bf45f4b8f58f03194503fe106d0d4960511b6057600d535370d288ae", func := "octroi/octroilaw11.NeighTwice", spec := "neighTwice", apart := false }
def NeighTwiceSaid : Prop := neighTwiceRow.holds Try.pinned (OpenSpec.ofChange neighTwiceSpec)

/-- ITS FALSE NEIGHBOUR: 'it returns false'. Refute it at one input. -/
def neighTwiceWrong : ChangeSpec := { name := "neighTwice", fn := fun _ => fun
  | [d1, d2] => { results := [.lit (.bool false)], args := [d1, d2] }
  | _ => none }
def NeighTwiceWrongFalsely : Prop := neighTwiceRow.holds Try.pinned (OpenSpec.ofChange neighTwiceWrong)

/-- 'octroilaw11.NeighTold': WHATEVER THE INPUT: true; the input reads as it did. -/
def neighToldSpec : ChangeSpec := { name := "neighTold", fn := fun _ => fun
  | [d1, d2] => { results := [.lit (.bool true)], args := [d1, d2] }
  | _ => none }
def neighToldRow : OpenClaim := { program := "ytchmcmioilmnpaa", sum := "89f32aa4bf45f4b8f58f03194503fe106d0d4960511b6057600d535370d288ae", func := "octroi/octroilaw11.NeighTold", spec := "neighTold", apart := false }
def NeighToldSaid : Prop := neighToldRow.holds Try.pinned (OpenSpec.ofChange neighToldSpec)

/-- ITS FALSE NEIGHBOUR: 'it returns false'. Refute it at one input. -/
def neighToldWrong : ChangeSpec := { name := "neighTold", fn := fun _ => fun
  | [d1, d2] => { results := [.lit (.bool false)], args := [d1, d2] }
  | _ => none }
def NeighToldWrongFalsely : Prop := neighToldRow.holds Try.pinned (OpenSpec.ofChange neighToldWrong)

/-- 'octroilaw11.NeighFar': WHATEVER THE INPUT: true; the input reads as it did. -/
def neighFarSpec : ChangeSpec := { name := "neighFar", fn := fun _ => fun
  | [d1, d2] => { results := [.lit (.bool true)], args := [d1, d2] }
  | _ => none }
def neighFarRow : OpenClaim := { program := "ytchmcmioilmnpaa", sum := "89f32aa4bf45f4b8f58f03194503fe106d0d4960511b6057600d535370d288ae", func := "octroi/octroilaw11.NeighFar", spec := "neighFar", apart := false }
def NeighFarSaid : Prop := neighFarRow.holds Try.pinned (OpenSpec.ofChange neighFarSpec)

/-- ITS FALSE NEIGHBOUR: 'it returns false'. Refute it at one input. -/
def neighFarWrong : ChangeSpec := { name := "neighFar", fn := fun _ => fun
  | [d1, d2] => { results := [.lit (.bool false)], args := [d1, d2] }
  | _ => none }
def NeighFarWrongFalsely : Prop := neighFarRow.holds Try.pinned (OpenSpec.ofChange neighFarWrong)

/- THE SECOND FORM. 'bulk': how many values and letters a reading holds, each counted each time it is reached (what is shared counts as often as it is met; a slice's spare places count too). A statement '..UptoSaid' is the law's where the arguments, and the package variables that the reading takes, are together of bulk at most 1048576: NARROWER than '..Said'. Prove '..Said' where nothing that the law and all that it calls make is longer than what came in: it says more and counts as full. Else prove '..UptoSaid'. A law counts once. -/
mutual
def uptoBulk {H : Type} : DataW H → Nat
  | .lit (.string bytes) => bytes.length + 1
  | .lit _ => 1
  | .nil => 1
  | .ptr d => uptoBulk d + 1
  | .slice elems spare => uptoBulkAll elems + uptoBulkAll spare + 1
  | .agg parts => uptoBulkAll parts + 1
  | .iface _ d => uptoBulk d + 1
  | .map entries => uptoBulkEntries entries + 1
  | .held _ => 1
def uptoBulkAll {H : Type} : List (DataW H) → Nat
  | [] => 0
  | d :: r => uptoBulk d + uptoBulkAll r
def uptoBulkEntries {H : Type} : List (Lit × DataW H) → Nat
  | [] => 0
  | x :: r => uptoBulkEntry x + uptoBulkEntries r
def uptoBulkEntry {H : Type} : Lit × DataW H → Nat
  | (.string bytes, d) => bytes.length + uptoBulk d + 1
  | (_, d) => uptoBulk d + 1
 end
def uptoSmall : (H : Type) → List (DataW H) → Bool := fun _ ds => decide (uptoBulkAll ds ≤ 1048576)
def OpenSpec.upto (s : _root_.Go.ChangeSpec) : _root_.Go.OpenSpec := { _root_.Go.OpenSpec.ofChange s with cond := some uptoSmall }

/-- 'octroilaw11.NeighDoes', WHERE WHAT IT READS IS OF BULK AT MOST 1048576: true; the input reads as it did. -/
def neighDoesUptoRow : OpenClaim := { program := "ytchmcmioilmnpaa", sum := "89f32aa4bf45f4b8f58f03194503fe106d0d4960511b6057600d535370d288ae", func := "octroi/octroilaw11.NeighDoes", spec := "neighDoes", apart := false, narrowed := true }
def NeighDoesUptoSaid : Prop := neighDoesUptoRow.holds Try.pinned (OpenSpec.upto neighDoesSpec)

/-- 'octroilaw11.NeighLost', WHERE WHAT IT READS IS OF BULK AT MOST 1048576: true; the input reads as it did. -/
def neighLostUptoRow : OpenClaim := { program := "ytchmcmioilmnpaa", sum := "89f32aa4bf45f4b8f58f03194503fe106d0d4960511b6057600d535370d288ae", func := "octroi/octroilaw11.NeighLost", spec := "neighLost", apart := false, narrowed := true }
def NeighLostUptoSaid : Prop := neighLostUptoRow.holds Try.pinned (OpenSpec.upto neighLostSpec)

/-- 'octroilaw11.NeighBack', WHERE WHAT IT READS IS OF BULK AT MOST 1048576: true; the input reads as it did. -/
def neighBackUptoRow : OpenClaim := { program := "ytchmcmioilmnpaa", sum := "89f32aa4bf45f4b8f58f03194503fe106d0d4960511b6057600d535370d288ae", func := "octroi/octroilaw11.NeighBack", spec := "neighBack", apart := false, narrowed := true }
def NeighBackUptoSaid : Prop := neighBackUptoRow.holds Try.pinned (OpenSpec.upto neighBackSpec)

/-- 'octroilaw11.NeighTwice', WHERE WHAT IT READS IS OF BULK AT MOST 1048576: true; the input reads as it did. -/
def neighTwiceUptoRow : OpenClaim := { program := "ytchmcmioilmnpaa", sum := "89f32aa4bf45f4b8f58f03194503fe106d0d4960511b6057600d535370d288ae", func := "octroi/octroilaw11.NeighTwice", spec := "neighTwice", apart := false, narrowed := true }
def NeighTwiceUptoSaid : Prop := neighTwiceUptoRow.holds Try.pinned (OpenSpec.upto neighTwiceSpec)

/-- 'octroilaw11.NeighTold', WHERE WHAT IT READS IS OF BULK AT MOST 1048576: true; the input reads as it did. -/
def neighToldUptoRow : OpenClaim := { program := "ytchmcmioilmnpaa", sum := "89f32aa4bf45f4b8f58f03194503fe106d0d4960511b6057600d535370d288ae", func := "octroi/octroilaw11.NeighTold", spec := "neighTold", apart := false, narrowed := true }
def NeighToldUptoSaid : Prop := neighToldUptoRow.holds Try.pinned (OpenSpec.upto neighToldSpec)

/-- 'octroilaw11.NeighFar', WHERE WHAT IT READS IS OF BULK AT MOST 1048576: true; the input reads as it did. -/
def neighFarUptoRow : OpenClaim := { program := "ytchmcmioilmnpaa", sum := "89f32aa4bf45f4b8f58f03194503fe106d0d4960511b6057600d535370d288ae", func := "octroi/octroilaw11.NeighFar", spec := "neighFar", apart := false, narrowed := true }
def NeighFarUptoSaid : Prop := neighFarUptoRow.holds Try.pinned (OpenSpec.upto neighFarSpec)

end Rows
end Go.Proofs.Ytchmcmioilmnpaa
