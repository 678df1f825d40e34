/- Printed by the session's own program out of the translation: for each Go function a Lean function with the same answers, and the proof that the code comes to them. No conditions. -/
import Derived.Test.YtjgfdhkphmhbcaaLx9
import Derived.Test.YtjgfdhkphmhbcaaLxo
namespace Go.Proofs.Ytjgfdhkphmhbcaa.L
open Go.Proofs.YtjgfdhkphmhbcaaLab
open Go.RowKit Go.Proofs.YtjgfdhkphmhbcaaW.PrintWords Go.Proofs.YtjgfdhkphmhbcaaW.PrintLast Go.Proofs.YtjgfdhkphmhbcaaW.PrintMore
attribute [local go_sem] max2_int min2_int max_two min_two max_three min_three max_four min_four   -- for this text's walks alone
set_option linter.unusedVariables false
set_option linter.unusedSimpArgs false

open Go.Proofs.YtjgfdhkphmhbcaaOpen
def octroilaw13_FilterLens.Pure : Prop := ∀ (a0_0 : Bool) (a0_1 : Int) (a0_2 : Int) (a0_3 : Int) (a0_4 : Int) (a0_5 : Int) (a0_6 : Int) (a1_0 : Int) (a1_1 : Int), (Lit.int .u32 a0_1).wf = true → (Lit.int .i64 a0_2).wf = true → (Lit.int .i64 a0_3).wf = true → (Lit.int .i64 a0_4).wf = true → (Lit.int .u16 a0_5).wf = true → (Lit.int .u16 a0_6).wf = true → (Lit.int .u32 a1_0).wf = true → (Lit.int .i64 a1_1).wf = true → ∃ k, octroilaw13_FilterLens.f k a0_0 a0_1 a0_2 a0_3 a0_4 a0_5 a0_6 a1_0 a1_1 = some true
end Go.Proofs.Ytjgfdhkphmhbcaa.L
