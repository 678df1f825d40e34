/- Printed by the session's own program out of the translation: for each Go function a Lean function with the same answers, and the proof that the code comes to them. No conditions. -/
import Derived.Test.YtchmcmioilmnpaaLx4
import Derived.Test.YtchmcmioilmnpaaLxo
namespace Go.Proofs.Ytchmcmioilmnpaa.L
open Go.Proofs.YtchmcmioilmnpaaLab
open Go.RowKit Go.Proofs.YtchmcmioilmnpaaW.PrintWords Go.Proofs.YtchmcmioilmnpaaW.PrintLast Go.Proofs.YtchmcmioilmnpaaW.PrintMore
attribute [local go_sem] max2_int min2_int max_two min_two max_three min_three max_four min_four   -- for this text's walks alone
set_option linter.unusedVariables false
set_option linter.unusedSimpArgs false

open Go.Proofs.YtchmcmioilmnpaaOpen
def octroilaw11_NeighTold.Pure : Prop := ∀ (l0 : List (S29)) (a1 : Int), l0.length ≤ maxLen → (∀ y_ ∈ l0, good29 y_) → (Lit.int .i64 a1).wf = true → ∃ k, octroilaw11_NeighTold.f k l0 a1 = some true
end Go.Proofs.Ytchmcmioilmnpaa.L
