/- Printed by the session's own program out of the translation: for each Go function a Lean function with the same answers, and the proof that the code comes to them. No conditions. -/
import Derived.Test.YtdhejpjggmikiaaLx0
import Derived.Test.YtdhejpjggmikiaaOpen
namespace Go.Proofs.Ytdhejpjggmikiaa.L
open Go.Proofs.YtdhejpjggmikiaaLab
open Go.RowKit Go.Proofs.YtdhejpjggmikiaaW.PrintWords Go.Proofs.YtdhejpjggmikiaaW.PrintLast Go.Proofs.YtdhejpjggmikiaaW.PrintMore
attribute [local go_sem] max2_int min2_int max_two min_two max_three min_three max_four min_four   -- for this text's walks alone
set_option linter.unusedVariables false
set_option linter.unusedSimpArgs false

open Go.Proofs.YtdhejpjggmikiaaOpen
def good28 (x : S28) : Prop := ((Lit.int .u32 x.f0).wf = true) ∧ ((Lit.int .i64 x.f1).wf = true)
theorem opens28 {H : Type} {enc : TypeId × Value → H} {w : World} {base : Nat} {spare : Nat → Bool} {held : Bool} : Opens enc Try.prog w base spare held 28 k28 good28 := by
  intro fuel cs x h
  obtain ⟨a, hK, hg⟩ := opens_iso (fun x : S28 => (x.f0, x.f1)) (fun p => (⟨p.1, p.2⟩ : S28)) (fun _ => rfl) (opens_struct Try.underlying28 (by kernel_rfl) (opensF_cons rfl (opens_int Try.underlying26) (opensF_last (by kernel_rfl) (opens_int Try.underlying3)))) fuel cs x h
  exact ⟨a, hK, hg⟩
def good61 (x : S61) : Prop := (True) ∧ (good28 x.f1) ∧ ((Lit.int .i64 x.f2).wf = true) ∧ ((Lit.int .i64 x.f3).wf = true) ∧ ((Lit.int .u16 x.f4).wf = true) ∧ ((Lit.int .u16 x.f5).wf = true)
theorem opens61 {H : Type} {enc : TypeId × Value → H} {w : World} {base : Nat} {spare : Nat → Bool} {held : Bool} : Opens enc Try.prog w base spare held 61 k61 good61 := by
  intro fuel cs x h
  obtain ⟨a, hK, hg⟩ := opens_iso (fun x : S61 => (x.f0, x.f1, x.f2, x.f3, x.f4, x.f5)) (fun p => (⟨p.1, p.2.1, p.2.2.1, p.2.2.2.1, p.2.2.2.2.1, p.2.2.2.2.2⟩ : S61)) (fun _ => rfl) (opens_struct Try.underlying61 (by kernel_rfl) (opensF_cons rfl (opens_bool Try.underlying4) (opensF_cons (by kernel_rfl) opens28 (opensF_cons (by kernel_rfl) (opens_int Try.underlying3) (opensF_cons (by kernel_rfl) (opens_int Try.underlying3) (opensF_cons (by kernel_rfl) (opens_int Try.underlying29) (opensF_last (by kernel_rfl) (opens_int Try.underlying29)))))))) fuel cs x h
  exact ⟨a, hK, hg⟩
def good64 (x : S64) : Prop := ((Lit.int .i64 x.f0).wf = true) ∧ ((Lit.int .i64 x.f1).wf = true)
theorem opens64 {H : Type} {enc : TypeId × Value → H} {w : World} {base : Nat} {spare : Nat → Bool} {held : Bool} : Opens enc Try.prog w base spare held 64 k64 good64 := by
  intro fuel cs x h
  obtain ⟨a, hK, hg⟩ := opens_iso (fun x : S64 => (x.f0, x.f1)) (fun p => (⟨p.1, p.2⟩ : S64)) (fun _ => rfl) (opens_struct Try.underlying64 (by kernel_rfl) (opensF_cons rfl (opens_int Try.underlying3) (opensF_last (by kernel_rfl) (opens_int Try.underlying3)))) fuel cs x h
  exact ⟨a, hK, hg⟩
end Go.Proofs.Ytdhejpjggmikiaa.L
