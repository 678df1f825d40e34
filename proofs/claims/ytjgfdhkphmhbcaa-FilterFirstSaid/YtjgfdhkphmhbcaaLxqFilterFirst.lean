/- Printed by the session's own program out of the translation: for each Go function a Lean function with the same answers, and the proof that the code comes to them. No conditions. -/
import Derived.Test.YtjgfdhkphmhbcaaLx8
import Derived.Test.YtjgfdhkphmhbcaaLxo
namespace Go.Proofs.Ytjgfdhkphmhbcaa.L
open Go.Proofs.YtjgfdhkphmhbcaaLab
open Go.RowKit Go.Proofs.YtjgfdhkphmhbcaaW.PrintWords Go.Proofs.YtjgfdhkphmhbcaaW.PrintLast Go.Proofs.YtjgfdhkphmhbcaaW.PrintMore
attribute [local go_sem] max2_int min2_int max_two min_two max_three min_three max_four min_four   -- for this text's walks alone
set_option linter.unusedVariables false
set_option linter.unusedSimpArgs false

open Go.Proofs.YtjgfdhkphmhbcaaOpen
def octroilaw13_FilterFirst.Pure : Prop := ∀ (l0 : List (S42)) (l1 : List (S42)) (a2_0 : Int) (a2_1 : Int) (a3 : Int), l0.length ≤ maxLen → (∀ y_ ∈ l0, good42 y_) → l1.length ≤ maxLen → (∀ y_ ∈ l1, good42 y_) → (Lit.int .u32 a2_0).wf = true → (Lit.int .i64 a2_1).wf = true → (Lit.int .u16 a3).wf = true → ∃ k, octroilaw13_FilterFirst.f k l0 l1 a2_0 a2_1 a3 = some true
end Go.Proofs.Ytjgfdhkphmhbcaa.L
