/-
  No cell of these rows narrows 'for every input' (looked for: loops, veiled, ifaces, maps, wideKeys, modest, calm, conditions, laid).
  DERIVED. THE GIVEN ROWS OF THIS SEAT. 9 by the template 'for every input the law returns true; each argument reads behind the call as it read before'; 0 by the template 'total and deterministic' (their statements: YtjgfdhkphmhbcaaTotals.lean).
  GIVEN WITH THE SEED: the statements are not yours to turn. If you find one false, say at which input.
  Laid BY PROGRAM, IN A SANDBOX (cutbox-rows.mjs): the forced cells as the released guide's own fill.sh prints them over the translation 4432269ccc166a89… (all of the seat's roots in one cut). By AI agents, Wed Nov 11 2026. No macro, syntax, notation, axiom, sorry.
-/
import Derived.Test.YtjgfdhkphmhbcaaChecked
import GoSem.Claim
import GoSem.ClaimJoined
import GoSem.ClaimMapViews
import Derived.JoinedTies
import Derived.KernelRfl
namespace Go.Proofs.Ytjgfdhkphmhbcaa
/- THE CELL 'sum', in the pinned program and in every row, IS THE sha256 OF THE DUMP (.gsa) THAT YtjgfdhkphmhbcaaProg.lean LOADS. Nothing in Lean hashes anything: it is a label: what it is worth is what the hold of that sum in a sandbox is worth. -/
noncomputable def Try.pinned : Pinned := { name := "ytjgfdhkphmhbcaa", sum := "4432269ccc166a898bd833fd48c70628581d187c1b14cc333571ef69c84734ae", checked := Try.checked }
namespace Rows
def none {H : Type} : Left H := { results := [], args := [] }

/-- 'octroilaw14.TransTells': WHATEVER THE INPUT: true; the input reads as it did. -/
def transTellsSpec : ChangeSpec := { name := "transTells", fn := fun _ => fun
  | [d1, d2, d3] => { results := [.lit (.bool true)], args := [d1, d2, d3] }
  | _ => none }
def transTellsRow : OpenClaim := { program := "ytjgfdhkphmhbcaa", sum := "4432269ccc166a898bd833fd48c70628581d187c1b14cc333571ef69c84734ae", func := "octroi/octroilaw14.TransTells", spec := "transTells", apart := false }
def TransTellsSaid : Prop := transTellsRow.holds Try.pinned (OpenSpec.ofChange transTellsSpec)

/-- ITS FALSE NEIGHBOUR: 'it returns false'. Refute it at one input. -/
def transTellsWrong : ChangeSpec := { name := "transTells", fn := fun _ => fun
  | [d1, d2, d3] => { results := [.lit (.bool false)], args := [d1, d2, d3] }
  | _ => none }
def TransTellsWrongFalsely : Prop := transTellsRow.holds Try.pinned (OpenSpec.ofChange transTellsWrong)

/-- 'octroilaw14.TransKeeps': WHATEVER THE INPUT: true; the input reads as it did. -/
def transKeepsSpec : ChangeSpec := { name := "transKeeps", fn := fun _ => fun
  | [d1, d2, d3] => { results := [.lit (.bool true)], args := [d1, d2, d3] }
  | _ => none }
def transKeepsRow : OpenClaim := { program := "ytjgfdhkphmhbcaa", sum := "4432269ccc166a898bd833fd48c70628581d187c1b14cc333571ef69c84734ae", func := "octroi/octroilaw14.TransKeeps", spec := "transKeeps", apart := false }
def TransKeepsSaid : Prop := transKeepsRow.holds Try.pinned (OpenSpec.ofChange transKeepsSpec)

/-- ITS FALSE NEIGHBOUR: 'it returns false'. Refute it at one input. -/
def transKeepsWrong : ChangeSpec := { name := "transKeeps", fn := fun _ => fun
  | [d1, d2, d3] => { results := [.lit (.bool false)], args := [d1, d2, d3] }
  | _ => none }
def TransKeepsWrongFalsely : Prop := transKeepsRow.holds Try.pinned (OpenSpec.ofChange transKeepsWrong)

/-- 'octroilaw14.TransSeeds': WHATEVER THE INPUT: true; the input reads as it did. -/
def transSeedsSpec : ChangeSpec := { name := "transSeeds", fn := fun _ => fun
  | [d1, d2, d3, d4] => { results := [.lit (.bool true)], args := [d1, d2, d3, d4] }
  | _ => none }
def transSeedsRow : OpenClaim := { program := "ytjgfdhkphmhbcaa", sum := "4432269ccc166a898bd833fd48c70628581d187c1b14cc333571ef69c84734ae", func := "octroi/octroilaw14.TransSeeds", spec := "transSeeds", apart := false }
def TransSeedsSaid : Prop := transSeedsRow.holds Try.pinned (OpenSpec.ofChange transSeedsSpec)

/-- ITS FALSE NEIGHBOUR: 'it returns false'. Refute it at one input. -/
def transSeedsWrong : ChangeSpec := { name := "transSeeds", fn := fun _ => fun
  | [d1, d2, d3, d4] => { results := [.lit (.bool false)], args := [d1, d2, d3, d4] }
  | _ => none }
def TransSeedsWrongFalsely : Prop := transSeedsRow.holds Try.pinned (OpenSpec.ofChange transSeedsWrong)

/-- 'octroilaw14.TransFirst': WHATEVER THE INPUT: true; the input reads as it did. -/
def transFirstSpec : ChangeSpec := { name := "transFirst", fn := fun _ => fun
  | [d1, d2] => { results := [.lit (.bool true)], args := [d1, d2] }
  | _ => none }
def transFirstRow : OpenClaim := { program := "ytjgfdhkphmhbcaa", sum := "4432269ccc166a898bd833fd48c70628581d187c1b14cc333571ef69c84734ae", func := "octroi/octroilaw14.TransFirst", spec := "transFirst", apart := false }
def TransFirstSaid : Prop := transFirstRow.holds Try.pinned (OpenSpec.ofChange transFirstSpec)

/-- ITS FALSE NEIGHBOUR: 'it returns false'. Refute it at one input. -/
def transFirstWrong : ChangeSpec := { name := "transFirst", fn := fun _ => fun
  | [d1, d2] => { results := [.lit (.bool false)], args := [d1, d2] }
  | _ => none }
def TransFirstWrongFalsely : Prop := transFirstRow.holds Try.pinned (OpenSpec.ofChange transFirstWrong)

/-- 'octroilaw13.FilterPermits': WHATEVER THE INPUT: true; the input reads as it did. -/
def filterPermitsSpec : ChangeSpec := { name := "filterPermits", fn := fun _ => fun
  | [d1, d2, d3] => { results := [.lit (.bool true)], args := [d1, d2, d3] }
  | _ => none }
def filterPermitsRow : OpenClaim := { program := "ytjgfdhkphmhbcaa", sum := "4432269ccc166a898bd833fd48c70628581d187c1b14cc333571ef69c84734ae", func := "octroi/octroilaw13.FilterPermits", spec := "filterPermits", apart := false }
def FilterPermitsSaid : Prop := filterPermitsRow.holds Try.pinned (OpenSpec.ofChange filterPermitsSpec)

/-- ITS FALSE NEIGHBOUR: 'it returns false'. Refute it at one input. -/
def filterPermitsWrong : ChangeSpec := { name := "filterPermits", fn := fun _ => fun
  | [d1, d2, d3] => { results := [.lit (.bool false)], args := [d1, d2, d3] }
  | _ => none }
def FilterPermitsWrongFalsely : Prop := filterPermitsRow.holds Try.pinned (OpenSpec.ofChange filterPermitsWrong)

/-- 'octroilaw13.FilterFirst': WHATEVER THE INPUT: true; the input reads as it did. -/
def filterFirstSpec : ChangeSpec := { name := "filterFirst", fn := fun _ => fun
  | [d1, d2, d3, d4] => { results := [.lit (.bool true)], args := [d1, d2, d3, d4] }
  | _ => none }
def filterFirstRow : OpenClaim := { program := "ytjgfdhkphmhbcaa", sum := "4432269ccc166a898bd833fd48c70628581d187c1b14cc333571ef69c84734ae", func := "octroi/octroilaw13.FilterFirst", spec := "filterFirst", apart := false }
def FilterFirstSaid : Prop := filterFirstRow.holds Try.pinned (OpenSpec.ofChange filterFirstSpec)

/-- ITS FALSE NEIGHBOUR: 'it returns false'. Refute it at one input. -/
def filterFirstWrong : ChangeSpec := { name := "filterFirst", fn := fun _ => fun
  | [d1, d2, d3, d4] => { results := [.lit (.bool false)], args := [d1, d2, d3, d4] }
  | _ => none }
def FilterFirstWrongFalsely : Prop := filterFirstRow.holds Try.pinned (OpenSpec.ofChange filterFirstWrong)

/-- 'octroilaw13.FilterAll': WHATEVER THE INPUT: true; the input reads as it did. -/
def filterAllSpec : ChangeSpec := { name := "filterAll", fn := fun _ => fun
  | [d1, d2, d3, d4] => { results := [.lit (.bool true)], args := [d1, d2, d3, d4] }
  | _ => none }
def filterAllRow : OpenClaim := { program := "ytjgfdhkphmhbcaa", sum := "4432269ccc166a898bd833fd48c70628581d187c1b14cc333571ef69c84734ae", func := "octroi/octroilaw13.FilterAll", spec := "filterAll", apart := false }
def FilterAllSaid : Prop := filterAllRow.holds Try.pinned (OpenSpec.ofChange filterAllSpec)

/-- ITS FALSE NEIGHBOUR: 'it returns false'. Refute it at one input. -/
def filterAllWrong : ChangeSpec := { name := "filterAll", fn := fun _ => fun
  | [d1, d2, d3, d4] => { results := [.lit (.bool false)], args := [d1, d2, d3, d4] }
  | _ => none }
def FilterAllWrongFalsely : Prop := filterAllRow.holds Try.pinned (OpenSpec.ofChange filterAllWrong)

/-- 'octroilaw13.FilterTags': WHATEVER THE INPUT: true; the input reads as it did. -/
def filterTagsSpec : ChangeSpec := { name := "filterTags", fn := fun _ => fun
  | [d1, d2, d3] => { results := [.lit (.bool true)], args := [d1, d2, d3] }
  | _ => none }
def filterTagsRow : OpenClaim := { program := "ytjgfdhkphmhbcaa", sum := "4432269ccc166a898bd833fd48c70628581d187c1b14cc333571ef69c84734ae", func := "octroi/octroilaw13.FilterTags", spec := "filterTags", apart := false }
def FilterTagsSaid : Prop := filterTagsRow.holds Try.pinned (OpenSpec.ofChange filterTagsSpec)

/-- ITS FALSE NEIGHBOUR: 'it returns false'. Refute it at one input. -/
def filterTagsWrong : ChangeSpec := { name := "filterTags", fn := fun _ => fun
  | [d1, d2, d3] => { results := [.lit (.bool false)], args := [d1, d2, d3] }
  | _ => none }
def FilterTagsWrongFalsely : Prop := filterTagsRow.holds Try.pinned (OpenSpec.ofChange filterTagsWrong)

/-- 'octroilaw13.FilterLens': WHATEVER THE INPUT: true; the input reads as it did. -/
def filterLensSpec : ChangeSpec := { name := "filterLens", fn := fun _ => fun
  | [d1, d2] => { results := [.lit (.bool true)], args := [d1, d2] }
  | _ => none }
def filterLensRow : OpenClaim := { program := "ytjgfdhkphmhbcaa", sum := "4432269ccc166a898bd833fd48c70628581d187c1b14cc333571ef69c84734ae", func := "octroi/octroilaw13.FilterLens", spec := "filterLens", apart := false }
def FilterLensSaid : Prop := filterLensRow.holds Try.pinned (OpenSpec.ofChange filterLensSpec)

/-- ITS FALSE NEIGHBOUR: 'it returns false'. Refute it at one input. -/
def filterLensWrong : ChangeSpec := { name := "filterLens", fn := fun _ => fun
  | [d1, d2] => { results := [.lit (.bool false)], args := [d1, d2] }
  | _ => none }
def FilterLensWrongFalsely : Prop := filterLensRow.holds Try.pinned (OpenSpec.ofChange filterLensWrong)

/- THE SECOND FORM. 'bulk': how many values and letters a reading holds, each counted each time it is reached (what is shared counts as often as it is met; a slice's spare places count too). A statement '..UptoSaid' is the law's where the arguments, and the package variables that the reading takes, are together of bulk at most 1048576: NARROWER than '..Said'. Prove '..Said' where nothing that the law and all that it calls make is longer than what came in: it says more and counts as full. Else prove '..UptoSaid'. A law counts once. -/
mutual
def uptoBulk {H : Type} : DataW H → Nat
  | .lit (.string bytes) => bytes.length + 1
  | .lit _ => 1
  | .nil => 1
  | .ptr d => uptoBulk d + 1
  | .slice elems spare => uptoBulkAll elems + uptoBulkAll spare + 1
  | .agg parts => uptoBulkAll parts + 1
  | .iface _ d => uptoBulk d + 1
  | .map entries => uptoBulkEntries entries + 1
  | .held _ => 1
def uptoBulkAll {H : Type} : List (DataW H) → Nat
  | [] => 0
  | d :: r => uptoBulk d + uptoBulkAll r
def uptoBulkEntries {H : Type} : List (Lit × DataW H) → Nat
  | [] => 0
  | x :: r => uptoBulkEntry x + uptoBulkEntries r
def uptoBulkEntry {H : Type} : Lit × DataW H → Nat
  | (.string bytes, d) => bytes.length + uptoBulk d + 1
  | (_, d) => uptoBulk d + 1
 end
def uptoSmall : (H : Type) → List (DataW H) → Bool := fun _ ds => decide (uptoBulkAll ds ≤ 1048576)
def OpenSpec.upto (s : _root_.Go.ChangeSpec) : _root_.Go.OpenSpec := { _root_.Go.OpenSpec.ofChange s with cond := some uptoSmall }

/-- 'octroilaw14.TransTells', WHERE WHAT IT READS IS OF BULK AT MOST 1048576: true; the input reads as it did. -/
def transTellsUptoRow : OpenClaim := { program := "ytjgfdhkphmhbcaa", sum := "4432269ccc166a898bd833fd48c70628581d187c1b14cc333571ef69c84734ae", func := "octroi/octroilaw14.TransTells", spec := "transTells", apart := false, narrowed := true }
def TransTellsUptoSaid : Prop := transTellsUptoRow.holds Try.pinned (OpenSpec.upto transTellsSpec)

/-- 'octroilaw14.TransKeeps', WHERE WHAT IT READS IS OF BULK AT MOST 1048576: true; the input reads as it did. -/
def transKeepsUptoRow : OpenClaim := { program := "ytjgfdhkphmhbcaa", sum := "4432269ccc166a898bd833fd48c70628581d187c1b14cc333571ef69c84734ae", func := "octroi/octroilaw14.TransKeeps", spec := "transKeeps", apart := false, narrowed := true }
def TransKeepsUptoSaid : Prop := transKeepsUptoRow.holds Try.pinned (OpenSpec.upto transKeepsSpec)

/-- 'octroilaw14.TransSeeds', WHERE WHAT IT READS IS OF BULK AT MOST 1048576: true; the input reads as it did. -/
def transSeedsUptoRow : OpenClaim := { program := "ytjgfdhkphmhbcaa", sum := "4432269ccc166a898bd833fd48c70628581d187c1b14cc333571ef69c84734ae", func := "octroi/octroilaw14.TransSeeds", spec := "transSeeds", apart := false, narrowed := true }
def TransSeedsUptoSaid : Prop := transSeedsUptoRow.holds Try.pinned (OpenSpec.upto transSeedsSpec)

/-- 'octroilaw14.TransFirst', WHERE WHAT IT READS IS OF BULK AT MOST 1048576: true; the input reads as it did. -/
def transFirstUptoRow : OpenClaim := { program := "ytjgfdhkphmhbcaa", sum := "4432269ccc166a898bd833fd48c70628581d187c1b14cc333571ef69c84734ae", func := "octroi/octroilaw14.TransFirst", spec := "transFirst", apart := false, narrowed := true }
def TransFirstUptoSaid : Prop := transFirstUptoRow.holds Try.pinned (OpenSpec.upto transFirstSpec)

/-- 'octroilaw13.FilterPermits', WHERE WHAT IT READS IS OF BULK AT MOST 1048576: true; the input reads as it did. -/
def filterPermitsUptoRow : OpenClaim := { program := "ytjgfdhkphmhbcaa", sum := "4432269ccc166a898bd833fd48c70628581d187c1b14cc333571ef69c84734ae", func := "octroi/octroilaw13.FilterPermits", spec := "filterPermits", apart := false, narrowed := true }
def FilterPermitsUptoSaid : Prop := filterPermitsUptoRow.holds Try.pinned (OpenSpec.upto filterPermitsSpec)

/-- 'octroilaw13.FilterFirst', WHERE WHAT IT READS IS OF BULK AT MOST 1048576: true; the input reads as it did. -/
def filterFirstUptoRow : OpenClaim := { program := "ytjgfdhkphmhbcaa", sum := "4432269ccc166a898bd833fd48c70628581d187c1b14cc333571ef69c84734ae", func := "octroi/octroilaw13.FilterFirst", spec := "filterFirst", apart := false, narrowed := true }
def FilterFirstUptoSaid : Prop := filterFirstUptoRow.holds Try.pinned (OpenSpec.upto filterFirstSpec)

/-- 'octroilaw13.FilterAll', WHERE WHAT IT READS IS OF BULK AT MOST 1048576: true; the input reads as it did. -/
def filterAllUptoRow : OpenClaim := { program := "ytjgfdhkphmhbcaa", sum := "4432269ccc166a898bd833fd48c70628581d187c1b14cc333571ef69c84734ae", func := "octroi/octroilaw13.FilterAll", spec := "filterAll", apart := false, narrowed := true }
def FilterAllUptoSaid : Prop := filterAllUptoRow.holds Try.pinned (OpenSpec.upto filterAllSpec)

/-- 'octroilaw13.FilterTags', WHERE WHAT IT READS IS OF BULK AT MOST 1048576: true; the input reads as it did. -/
def filterTagsUptoRow : OpenClaim := { program := "ytjgfdhkphmhbcaa", sum := "4432269ccc166a898bd833fd48c70628581d187c1b14cc333571ef69c84734ae", func := "octroi/octroilaw13.FilterTags", spec := "filterTags", apart := false, narrowed := true }
def FilterTagsUptoSaid : Prop := filterTagsUptoRow.holds Try.pinned (OpenSpec.upto filterTagsSpec)

/-- 'octroilaw13.FilterLens', WHERE WHAT IT READS IS OF BULK AT MOST 1048576: true; the input reads as it did. -/
def filterLensUptoRow : OpenClaim := { program := "ytjgfdhkphmhbcaa", sum := "4432269ccc166a898bd833fd48c70628581d187c1b14cc333571ef69c84734ae", func := "octroi/octroilaw13.FilterLens", spec := "filterLens", apart := false, narrowed := true }
def FilterLensUptoSaid : Prop := filterLensUptoRow.holds Try.pinned (OpenSpec.upto filterLensSpec)

end Rows
end Go.Proofs.Ytjgfdhkphmhbcaa
