/- Printed by the session's own program out of the translation: for each Go function a Lean function with the same answers, and the proof that the code comes to them. No conditions. -/
import Derived.Test.YtdhejpjggmikiaaLx14
import Derived.Test.YtdhejpjggmikiaaLxo
namespace Go.Proofs.Ytdhejpjggmikiaa.L
open Go.Proofs.YtdhejpjggmikiaaLab
open Go.RowKit Go.Proofs.YtdhejpjggmikiaaW.PrintWords Go.Proofs.YtdhejpjggmikiaaW.PrintLast Go.Proofs.YtdhejpjggmikiaaW.PrintMore
attribute [local go_sem] max2_int min2_int max_two min_two max_three min_three max_four min_four   -- for this text's walks alone
set_option linter.unusedVariables false
set_option linter.unusedSimpArgs false

open Go.Proofs.YtdhejpjggmikiaaOpen
def octroilaw15_RedistAccepts.Pure : Prop := ∀ (a0 : Int) (a1_0 : Int) (a1_1 : Int) (a1_2 : Int) (a1_3 : Int) (a1_4 : Int) (a1_5 : Int) (a1_6 : Int) (a2 : Int) (a3 : Bool), (Lit.int .i64 a0).wf = true → (Lit.int .u32 a1_0).wf = true → (Lit.int .i64 a1_1).wf = true → (Lit.int .i64 a1_2).wf = true → (Lit.int .i64 a1_3).wf = true → (Lit.int .i64 a1_4).wf = true → (Lit.int .i64 a1_5).wf = true → (Lit.int .u16 a1_6).wf = true → (Lit.int .i64 a2).wf = true → ∃ k, octroilaw15_RedistAccepts.f k a0 a1_0 a1_1 a1_2 a1_3 a1_4 a1_5 a1_6 a2 a3 = some true
end Go.Proofs.Ytdhejpjggmikiaa.L
