/- Printed by the session's own program out of the translation: for each Go function a Lean function with the same answers, and the proof that the code comes to them. No conditions. -/
import Derived.Test.YtjgfdhkphmhbcaaLx0
import Derived.Test.YtjgfdhkphmhbcaaOpen
namespace Go.Proofs.Ytjgfdhkphmhbcaa.L
open Go.Proofs.YtjgfdhkphmhbcaaLab
open Go.RowKit Go.Proofs.YtjgfdhkphmhbcaaW.PrintWords Go.Proofs.YtjgfdhkphmhbcaaW.PrintLast Go.Proofs.YtjgfdhkphmhbcaaW.PrintMore
attribute [local go_sem] max2_int min2_int max_two min_two max_three min_three max_four min_four   -- for this text's walks alone
set_option linter.unusedVariables false
set_option linter.unusedSimpArgs false

open Go.Proofs.YtjgfdhkphmhbcaaOpen
def good30 (x : S30) : Prop := ((Lit.int .i64 x.f0).wf = true) ∧ ((Lit.int .i64 x.f1).wf = true)
theorem opens30 {H : Type} {enc : TypeId × Value → H} {w : World} {base : Nat} {spare : Nat → Bool} {held : Bool} : Opens enc Try.prog w base spare held 30 k30 good30 := by
  intro fuel cs x h
  obtain ⟨a, hK, hg⟩ := opens_iso (fun x : S30 => (x.f0, x.f1)) (fun p => (⟨p.1, p.2⟩ : S30)) (fun _ => rfl) (opens_struct Try.underlying30 (by kernel_rfl) (opensF_cons rfl (opens_int Try.underlying3) (opensF_last (by kernel_rfl) (opens_int Try.underlying3)))) fuel cs x h
  exact ⟨a, hK, hg⟩
def good35 (x : S35) : Prop := ((Lit.int .u32 x.f0).wf = true) ∧ ((Lit.int .i64 x.f1).wf = true)
theorem opens35 {H : Type} {enc : TypeId × Value → H} {w : World} {base : Nat} {spare : Nat → Bool} {held : Bool} : Opens enc Try.prog w base spare held 35 k35 good35 := by
  intro fuel cs x h
  obtain ⟨a, hK, hg⟩ := opens_iso (fun x : S35 => (x.f0, x.f1)) (fun p => (⟨p.1, p.2⟩ : S35)) (fun _ => rfl) (opens_struct Try.underlying35 (by kernel_rfl) (opensF_cons rfl (opens_int Try.underlying33) (opensF_last (by kernel_rfl) (opens_int Try.underlying3)))) fuel cs x h
  exact ⟨a, hK, hg⟩
def good42 (x : S42) : Prop := (True) ∧ (good35 x.f1) ∧ ((Lit.int .i64 x.f2).wf = true) ∧ ((Lit.int .i64 x.f3).wf = true) ∧ ((Lit.int .u16 x.f4).wf = true) ∧ ((Lit.int .u16 x.f5).wf = true)
theorem opens42 {H : Type} {enc : TypeId × Value → H} {w : World} {base : Nat} {spare : Nat → Bool} {held : Bool} : Opens enc Try.prog w base spare held 42 k42 good42 := by
  intro fuel cs x h
  obtain ⟨a, hK, hg⟩ := opens_iso (fun x : S42 => (x.f0, x.f1, x.f2, x.f3, x.f4, x.f5)) (fun p => (⟨p.1, p.2.1, p.2.2.1, p.2.2.2.1, p.2.2.2.2.1, p.2.2.2.2.2⟩ : S42)) (fun _ => rfl) (opens_struct Try.underlying42 (by kernel_rfl) (opensF_cons rfl (opens_bool Try.underlying4) (opensF_cons (by kernel_rfl) opens35 (opensF_cons (by kernel_rfl) (opens_int Try.underlying3) (opensF_cons (by kernel_rfl) (opens_int Try.underlying3) (opensF_cons (by kernel_rfl) (opens_int Try.underlying36) (opensF_last (by kernel_rfl) (opens_int Try.underlying36)))))))) fuel cs x h
  exact ⟨a, hK, hg⟩
end Go.Proofs.Ytjgfdhkphmhbcaa.L
