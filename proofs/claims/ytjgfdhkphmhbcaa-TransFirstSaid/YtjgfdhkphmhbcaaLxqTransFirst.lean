/- Printed by the session's own program out of the translation: for each Go function a Lean function with the same answers, and the proof that the code comes to them. No conditions. -/
import Derived.Test.YtjgfdhkphmhbcaaLx3
import Derived.Test.YtjgfdhkphmhbcaaLxo
namespace Go.Proofs.Ytjgfdhkphmhbcaa.L
open Go.Proofs.YtjgfdhkphmhbcaaLab
open Go.RowKit Go.Proofs.YtjgfdhkphmhbcaaW.PrintWords Go.Proofs.YtjgfdhkphmhbcaaW.PrintLast Go.Proofs.YtjgfdhkphmhbcaaW.PrintMore
attribute [local go_sem] max2_int min2_int max_two min_two max_three min_three max_four min_four   -- for this text's walks alone
set_option linter.unusedVariables false
set_option linter.unusedSimpArgs false

open Go.Proofs.YtjgfdhkphmhbcaaOpen
def octroilaw14_TransFirst.Pure : Prop := ∀ (l0 : List (S30)) (a1 : Int), l0.length ≤ maxLen → (∀ y_ ∈ l0, good30 y_) → (Lit.int .i64 a1).wf = true → ∃ k, octroilaw14_TransFirst.f k l0 a1 = some true
end Go.Proofs.Ytjgfdhkphmhbcaa.L
