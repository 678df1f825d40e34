/- A tag is that of its domains, which are as many as it is deep. -/
import Derived.Test.YtfgaggocifmnoaaTagsAll
namespace Go.Proofs.Ytfgaggocifmnoaa.Pure
open Go Go.RowKit Go.Proofs.Ytfgaggocifmnoaa.L Go.Proofs.YtfgaggocifmnoaaW.PrintWords Go.Proofs.YtfgaggocifmnoaaPlain Go.Proofs.YtfgaggocifmnoaaBits Go.Proofs.Ytfgaggocifmnoaa.TagsPlain

theorem TagsBack : octroilaw03_TagsBack.Pure := by
  intro a ha
  obtain ⟨A, rfl⟩ := tag_of ha
  obtain ⟨h1, h2⟩ := allS_back A
  apply Ev.rounds
  unfold octroilaw03_TagsBack.f
  refine Ev.bnd _ awake_ev ?_
  refine Ev.bnd _ (All_ev A) ?_
  refine Ev.bnd _ (Of_ev (allS A) (by rw [h2]; have := pc_le A; unfold maxLen; omega)) ?_
  rw [h1]
  refine Ev.pos rfl (Ev.pos rfl (Ev.pos rfl ?_))
  refine Ev.bnd _ (Depth_ev A) ?_
  exact Ev.some_ (by rw [h2]; simp)
end Go.Proofs.Ytfgaggocifmnoaa.Pure
