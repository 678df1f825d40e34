/- Printed by the session's own program out of the translation: for each Go function a Lean function with the same answers, and the proof that the code comes to them. No conditions. -/
import Derived.Test.YtchmcmioilmnpaaLx0
import Derived.Test.YtchmcmioilmnpaaOpen
namespace Go.Proofs.Ytchmcmioilmnpaa.L
open Go.Proofs.YtchmcmioilmnpaaLab
open Go.RowKit Go.Proofs.YtchmcmioilmnpaaW.PrintWords Go.Proofs.YtchmcmioilmnpaaW.PrintLast Go.Proofs.YtchmcmioilmnpaaW.PrintMore
attribute [local go_sem] max2_int min2_int max_two min_two max_three min_three max_four min_four   -- for this text's walks alone
set_option linter.unusedVariables false
set_option linter.unusedSimpArgs false

open Go.Proofs.YtchmcmioilmnpaaOpen
def good29 (x : S29) : Prop := ((Lit.int .i64 x.f0).wf = true) ∧ ((Lit.int .i64 x.f1).wf = true)
theorem opens29 {H : Type} {enc : TypeId × Value → H} {w : World} {base : Nat} {spare : Nat → Bool} {held : Bool} : Opens enc Try.prog w base spare held 29 k29 good29 := by
  intro fuel cs x h
  obtain ⟨a, hK, hg⟩ := opens_iso (fun x : S29 => (x.f0, x.f1)) (fun p => (⟨p.1, p.2⟩ : S29)) (fun _ => rfl) (opens_struct Try.underlying29 (by kernel_rfl) (opensF_cons rfl (opens_int Try.underlying3) (opensF_last (by kernel_rfl) (opens_int Try.underlying3)))) fuel cs x h
  exact ⟨a, hK, hg⟩
end Go.Proofs.Ytchmcmioilmnpaa.L
