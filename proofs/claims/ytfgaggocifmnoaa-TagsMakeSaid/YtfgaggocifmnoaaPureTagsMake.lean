/- Any tag with any domain, and that of any list, is what the document says, or refused (lists of at most 100 numbers). -/
import Derived.Test.YtfgaggocifmnoaaLx2
import Derived.Test.YtfgaggocifmnoaaTagsRef
namespace Go.Proofs.Ytfgaggocifmnoaa.Pure
open Go Go.RowKit Go.Proofs.Ytfgaggocifmnoaa.L Go.Proofs.YtfgaggocifmnoaaW.PrintWords Go.Proofs.YtfgaggocifmnoaaPlain Go.Proofs.YtfgaggocifmnoaaBits Go.Proofs.Ytfgaggocifmnoaa.TagsPlain

theorem TagsMake : octroilaw03_TagsMake.Pure := by
  intro a d l ha _ hl _ _
  obtain ⟨A, rfl⟩ := tag_of ha
  apply Ev.rounds
  unfold octroilaw03_TagsMake.f
  refine Ev.bnd _ awake_ev ?_
  refine Ev.ite (fun _ => Ev.now _) (fun _ => ?_)
  refine Ev.bndc _ (Add_eq A d) ?_
  refine Ev.bnd _ (RefAdd_ev A d) ?_
  refine Ev.bnd _ (Of_ev l hl) ?_
  refine Ev.bnd _ (RefOf_ev l hl) ?_
  exact Ev.pos rfl (Ev.pos rfl (Ev.pos rfl (Ev.pos rfl (Ev.some_ (by simp)))))
end Go.Proofs.Ytfgaggocifmnoaa.Pure
