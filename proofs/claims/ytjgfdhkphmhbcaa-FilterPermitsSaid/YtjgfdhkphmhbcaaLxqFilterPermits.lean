/- Printed by the session's own program out of the translation: for each Go function a Lean function with the same answers, and the proof that the code comes to them. No conditions. -/
import Derived.Test.YtjgfdhkphmhbcaaLx7
import Derived.Test.YtjgfdhkphmhbcaaLxo
namespace Go.Proofs.Ytjgfdhkphmhbcaa.L
open Go.Proofs.YtjgfdhkphmhbcaaLab
open Go.RowKit Go.Proofs.YtjgfdhkphmhbcaaW.PrintWords Go.Proofs.YtjgfdhkphmhbcaaW.PrintLast Go.Proofs.YtjgfdhkphmhbcaaW.PrintMore
attribute [local go_sem] max2_int min2_int max_two min_two max_three min_three max_four min_four   -- for this text's walks alone
set_option linter.unusedVariables false
set_option linter.unusedSimpArgs false

open Go.Proofs.YtjgfdhkphmhbcaaOpen
def octroilaw13_FilterPermits.Pure : Prop := ∀ (l0 : List (S42)) (a1_0 : Int) (a1_1 : Int) (a2 : Int), l0.length ≤ maxLen → (∀ y_ ∈ l0, good42 y_) → (Lit.int .u32 a1_0).wf = true → (Lit.int .i64 a1_1).wf = true → (Lit.int .u16 a2).wf = true → ∃ k, octroilaw13_FilterPermits.f k l0 a1_0 a1_1 a2 = some true
end Go.Proofs.Ytjgfdhkphmhbcaa.L
