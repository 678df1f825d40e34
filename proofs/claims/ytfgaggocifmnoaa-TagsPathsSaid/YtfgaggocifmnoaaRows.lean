/-
  No cell of these rows narrows 'for every input' (looked for: loops, veiled, ifaces, maps, wideKeys, modest, calm, conditions, laid).
  DERIVED. THE GIVEN ROWS OF THIS SEAT. 7 by the template 'for every input the law returns true; each argument reads behind the call as it read before'; 0 by the template 'total and deterministic' (their statements: YtfgaggocifmnoaaTotals.lean).
  GIVEN WITH THE SEED: the statements are not yours to turn. If you find one false, say at which input.
  Laid BY PROGRAM, IN A SANDBOX (cutbox-rows.mjs): the forced cells as the released guide's own fill.sh prints them over the translation e5eb4339cc9a4191… (all of the seat's roots in one cut). By AI agents, Wed Nov 11 2026. No macro, syntax, notation, axiom, sorry.
-/
import Derived.Test.YtfgaggocifmnoaaChecked
import GoSem.Claim
import GoSem.ClaimJoined
import GoSem.ClaimMapViews
import Derived.JoinedTies
import Derived.KernelRfl
namespace Go.Proofs.Ytfgaggocifmnoaa
/- THE CELL 'sum', in the pinned program and in every row, IS THE sha256 OF THE DUMP (.gsa) THAT YtfgaggocifmnoaaProg.lean LOADS. Nothing in Lean hashes anything: it is a label: what it is worth is what the hold of that sum in a sandbox is worth. -/
noncomputable def Try.pinned : Pinned := { name := "ytfgaggocifmnoaa", sum := "e5eb4339cc9a419189e69cff921d581fb31812113e4dd74d75fa427e6ec82416", checked := Try.checked }
namespace Rows
def none {H : Type} : Left H := { results := [], args := [] }

/-- 'octroilaw03.TagsMake': WHATEVER THE INPUT: true; the input reads as it did. -/
def tagsMakeSpec : ChangeSpec := { name := "tagsMake", fn := fun _ => fun
  | [d1, d2, d3] => { results := [.lit (.bool true)], args := [d1, d2, d3] }
  | _ => none }
def tagsMakeRow : OpenClaim := { program := "ytfgaggocifmnoaa", sum := "e5eb4339cc9a419189e69cff921d581fb31812113e4dd74d75fa427e6ec82416", func := "octroi/octroilaw03.TagsMake", spec := "tagsMake", apart := false }
def TagsMakeSaid : Prop := tagsMakeRow.holds Try.pinned (OpenSpec.ofChange tagsMakeSpec)

/-- ITS FALSE NEIGHBOUR: 'it returns false'. Refute it at one input. -/
def tagsMakeWrong : ChangeSpec := { name := "tagsMake", fn := fun _ => fun
  | [d1, d2, d3] => { results := [.lit (.bool false)], args := [d1, d2, d3] }
  | _ => none }
def TagsMakeWrongFalsely : Prop := tagsMakeRow.holds Try.pinned (OpenSpec.ofChange tagsMakeWrong)

/-- 'octroilaw03.TagsPaths': WHATEVER THE INPUT: true; the input reads as it did. -/
def tagsPathsSpec : ChangeSpec := { name := "tagsPaths", fn := fun _ => fun
  | [d] => { results := [.lit (.bool true)], args := [d] }
  | _ => none }
def tagsPathsRow : OpenClaim := { program := "ytfgaggocifmnoaa", sum := "e5eb4339cc9a419189e69cff921d581fb31812113e4dd74d75fa427e6ec82416", func := "octroi/octroilaw03.TagsPaths", spec := "tagsPaths", apart := false }
def TagsPathsSaid : Prop := tagsPathsRow.holds Try.pinned (OpenSpec.ofChange tagsPathsSpec)

/-- ITS FALSE NEIGHBOUR: 'it returns false'. Refute it at one input. -/
def tagsPathsWrong : ChangeSpec := { name := "tagsPaths", fn := fun _ => fun
  | [d] => { results := [.lit (.bool false)], args := [d] }
  | _ => none }
def TagsPathsWrongFalsely : Prop := tagsPathsRow.holds Try.pinned (OpenSpec.ofChange tagsPathsWrong)

/-- 'octroilaw03.TagsSplit': WHATEVER THE INPUT: true; the input reads as it did. -/
def tagsSplitSpec : ChangeSpec := { name := "tagsSplit", fn := fun _ => fun
  | [d1, d2] => { results := [.lit (.bool true)], args := [d1, d2] }
  | _ => none }
def tagsSplitRow : OpenClaim := { program := "ytfgaggocifmnoaa", sum := "e5eb4339cc9a419189e69cff921d581fb31812113e4dd74d75fa427e6ec82416", func := "octroi/octroilaw03.TagsSplit", spec := "tagsSplit", apart := false }
def TagsSplitSaid : Prop := tagsSplitRow.holds Try.pinned (OpenSpec.ofChange tagsSplitSpec)

/-- ITS FALSE NEIGHBOUR: 'it returns false'. Refute it at one input. -/
def tagsSplitWrong : ChangeSpec := { name := "tagsSplit", fn := fun _ => fun
  | [d1, d2] => { results := [.lit (.bool false)], args := [d1, d2] }
  | _ => none }
def TagsSplitWrongFalsely : Prop := tagsSplitRow.holds Try.pinned (OpenSpec.ofChange tagsSplitWrong)

/-- 'octroilaw03.TagsGrow': WHATEVER THE INPUT: true; the input reads as it did. -/
def tagsGrowSpec : ChangeSpec := { name := "tagsGrow", fn := fun _ => fun
  | [d1, d2, d3] => { results := [.lit (.bool true)], args := [d1, d2, d3] }
  | _ => none }
def tagsGrowRow : OpenClaim := { program := "ytfgaggocifmnoaa", sum := "e5eb4339cc9a419189e69cff921d581fb31812113e4dd74d75fa427e6ec82416", func := "octroi/octroilaw03.TagsGrow", spec := "tagsGrow", apart := false }
def TagsGrowSaid : Prop := tagsGrowRow.holds Try.pinned (OpenSpec.ofChange tagsGrowSpec)

/-- ITS FALSE NEIGHBOUR: 'it returns false'. Refute it at one input. -/
def tagsGrowWrong : ChangeSpec := { name := "tagsGrow", fn := fun _ => fun
  | [d1, d2, d3] => { results := [.lit (.bool false)], args := [d1, d2, d3] }
  | _ => none }
def TagsGrowWrongFalsely : Prop := tagsGrowRow.holds Try.pinned (OpenSpec.ofChange tagsGrowWrong)

/-- 'octroilaw03.TagsWithin': WHATEVER THE INPUT: true; the input reads as it did. -/
def tagsWithinSpec : ChangeSpec := { name := "tagsWithin", fn := fun _ => fun
  | [d1, d2, d3] => { results := [.lit (.bool true)], args := [d1, d2, d3] }
  | _ => none }
def tagsWithinRow : OpenClaim := { program := "ytfgaggocifmnoaa", sum := "e5eb4339cc9a419189e69cff921d581fb31812113e4dd74d75fa427e6ec82416", func := "octroi/octroilaw03.TagsWithin", spec := "tagsWithin", apart := false }
def TagsWithinSaid : Prop := tagsWithinRow.holds Try.pinned (OpenSpec.ofChange tagsWithinSpec)

/-- ITS FALSE NEIGHBOUR: 'it returns false'. Refute it at one input. -/
def tagsWithinWrong : ChangeSpec := { name := "tagsWithin", fn := fun _ => fun
  | [d1, d2, d3] => { results := [.lit (.bool false)], args := [d1, d2, d3] }
  | _ => none }
def TagsWithinWrongFalsely : Prop := tagsWithinRow.holds Try.pinned (OpenSpec.ofChange tagsWithinWrong)

/-- 'octroilaw03.TagsBack': WHATEVER THE INPUT: true; the input reads as it did. -/
def tagsBackSpec : ChangeSpec := { name := "tagsBack", fn := fun _ => fun
  | [d] => { results := [.lit (.bool true)], args := [d] }
  | _ => none }
def tagsBackRow : OpenClaim := { program := "ytfgaggocifmnoaa", sum := "e5eb4339cc9a419189e69cff921d581fb31812113e4dd74d75fa427e6ec82416", func := "octroi/octroilaw03.TagsBack", spec := "tagsBack", apart := false }
def TagsBackSaid : Prop := tagsBackRow.holds Try.pinned (OpenSpec.ofChange tagsBackSpec)

/-- ITS FALSE NEIGHBOUR: 'it returns false'. Refute it at one input. -/
def tagsBackWrong : ChangeSpec := { name := "tagsBack", fn := fun _ => fun
  | [d] => { results := [.lit (.bool false)], args := [d] }
  | _ => none }
def TagsBackWrongFalsely : Prop := tagsBackRow.holds Try.pinned (OpenSpec.ofChange tagsBackWrong)

/-- 'octroilaw03.TagsAsk': WHATEVER THE INPUT: true; the input reads as it did. -/
def tagsAskSpec : ChangeSpec := { name := "tagsAsk", fn := fun _ => fun
  | [d1, d2, d3] => { results := [.lit (.bool true)], args := [d1, d2, d3] }
  | _ => none }
def tagsAskRow : OpenClaim := { program := "ytfgaggocifmnoaa", sum := "e5eb4339cc9a419189e69cff921d581fb31812113e4dd74d75fa427e6ec82416", func := "octroi/octroilaw03.TagsAsk", spec := "tagsAsk", apart := false }
def TagsAskSaid : Prop := tagsAskRow.holds Try.pinned (OpenSpec.ofChange tagsAskSpec)

/-- ITS FALSE NEIGHBOUR: 'it returns false'. Refute it at one input. -/
def tagsAskWrong : ChangeSpec := { name := "tagsAsk", fn := fun _ => fun
  | [d1, d2, d3] => { results := [.lit (.bool false)], args := [d1, d2, d3] }
  | _ => none }
def TagsAskWrongFalsely : Prop := tagsAskRow.holds Try.pinned (OpenSpec.ofChange tagsAskWrong)

/- THE SECOND FORM. 'bulk': how many values and letters a reading holds, each counted each time it is reached (what is shared counts as often as it is met; a slice's spare places count too). A statement '..UptoSaid' is the law's where the arguments, and the package variables that the reading takes, are together of bulk at most 1048576: NARROWER than '..Said'. Prove '..Said' where nothing that the law and all that it calls make is longer than what came in: it says more and counts as full. Else prove '..UptoSaid'. A law counts once. -/
mutual
def uptoBulk {H : Type} : DataW H → Nat
  | .lit (.string bytes) => bytes.length + 1
  | .lit _ => 1
  | .nil => 1
  | .ptr d => uptoBulk d + 1
  | .slice elems spare => uptoBulkAll elems + uptoBulkAll spare + 1
  | .agg parts => uptoBulkAll parts + 1
  | .iface _ d => uptoBulk d + 1
  | .map entries => uptoBulkEntries entries + 1
  | .held _ => 1
def uptoBulkAll {H : Type} : List (DataW H) → Nat
  | [] => 0
  | d :: r => uptoBulk d + uptoBulkAll r
def uptoBulkEntries {H : Type} : List (Lit × DataW H) → Nat
  | [] => 0
  | x :: r => uptoBulkEntry x + uptoBulkEntries r
def uptoBulkEntry {H : Type} : Lit × DataW H → Nat
  | (.string bytes, d) => bytes.length + uptoBulk d + 1
  | (_, d) => uptoBulk d + 1
 end
def uptoSmall : (H : Type) → List (DataW H) → Bool := fun _ ds => decide (uptoBulkAll ds ≤ 1048576)
def OpenSpec.upto (s : _root_.Go.ChangeSpec) : _root_.Go.OpenSpec := { _root_.Go.OpenSpec.ofChange s with cond := some uptoSmall }

/-- 'octroilaw03.TagsMake', WHERE WHAT IT READS IS OF BULK AT MOST 1048576: true; the input reads as it did. -/
def tagsMakeUptoRow : OpenClaim := { program := "ytfgaggocifmnoaa", sum := "e5eb4339cc9a419189e69cff921d581fb31812113e4dd74d75fa427e6ec82416", func := "octroi/octroilaw03.TagsMake", spec := "tagsMake", apart := false, narrowed := true }
def TagsMakeUptoSaid : Prop := tagsMakeUptoRow.holds Try.pinned (OpenSpec.upto tagsMakeSpec)

/-- 'octroilaw03.TagsPaths', WHERE WHAT IT READS IS OF BULK AT MOST 1048576: true; the input reads as it did. -/
def tagsPathsUptoRow : OpenClaim := { program := "ytfgaggocifmnoaa", sum := "e5eb4339cc9a419189e69cff921d581fb31812113e4dd74d75fa427e6ec82416", func := "octroi/octroilaw03.TagsPaths", spec := "tagsPaths", apart := false, narrowed := true }
def TagsPathsUptoSaid : Prop := tagsPathsUptoRow.holds Try.pinned (OpenSpec.upto tagsPathsSpec)

/-- 'octroilaw03.TagsSplit', WHERE WHAT IT READS IS OF BULK AT MOST 1048576: true; the input reads as it did. -/
def tagsSplitUptoRow : OpenClaim := { program := "ytfgaggocifmnoaa", sum := "e5eb4339cc9a419189e69cff921d581fb31812113e4dd74d75fa427e6ec82416", func := "octroi/octroilaw03.TagsSplit", spec := "tagsSplit", apart := false, narrowed := true }
def TagsSplitUptoSaid : Prop := tagsSplitUptoRow.holds Try.pinned (OpenSpec.upto tagsSplitSpec)

/-- 'octroilaw03.TagsGrow', WHERE WHAT IT READS IS OF BULK AT MOST 1048576: true; the input reads as it did. -/
def tagsGrowUptoRow : OpenClaim := { program := "ytfgaggocifmnoaa", sum := "e5eb4339cc9a419189e69cff921d581fb31812113e4dd74d75fa427e6ec82416", func := "octroi/octroilaw03.TagsGrow", spec := "tagsGrow", apart := false, narrowed := true }
def TagsGrowUptoSaid : Prop := tagsGrowUptoRow.holds Try.pinned (OpenSpec.upto tagsGrowSpec)

/-- 'octroilaw03.TagsWithin', WHERE WHAT IT READS IS OF BULK AT MOST 1048576: true; the input reads as it did. -/
def tagsWithinUptoRow : OpenClaim := { program := "ytfgaggocifmnoaa", sum := "e5eb4339cc9a419189e69cff921d581fb31812113e4dd74d75fa427e6ec82416", func := "octroi/octroilaw03.TagsWithin", spec := "tagsWithin", apart := false, narrowed := true }
def TagsWithinUptoSaid : Prop := tagsWithinUptoRow.holds Try.pinned (OpenSpec.upto tagsWithinSpec)

/-- 'octroilaw03.TagsBack', WHERE WHAT IT READS IS OF BULK AT MOST 1048576: true; the input reads as it did. -/
def tagsBackUptoRow : OpenClaim := { program := "ytfgaggocifmnoaa", sum := "e5eb4339cc9a419189e69cff921d581fb31812113e4dd74d75fa427e6ec82416", func := "octroi/octroilaw03.TagsBack", spec := "tagsBack", apart := false, narrowed := true }
def TagsBackUptoSaid : Prop := tagsBackUptoRow.holds Try.pinned (OpenSpec.upto tagsBackSpec)

/-- 'octroilaw03.TagsAsk', WHERE WHAT IT READS IS OF BULK AT MOST 1048576: true; the input reads as it did. -/
def tagsAskUptoRow : OpenClaim := { program := "ytfgaggocifmnoaa", sum := "e5eb4339cc9a419189e69cff921d581fb31812113e4dd74d75fa427e6ec82416", func := "octroi/octroilaw03.TagsAsk", spec := "tagsAsk", apart := false, narrowed := true }
def TagsAskUptoSaid : Prop := tagsAskUptoRow.holds Try.pinned (OpenSpec.upto tagsAskSpec)

end Rows
end Go.Proofs.Ytfgaggocifmnoaa
