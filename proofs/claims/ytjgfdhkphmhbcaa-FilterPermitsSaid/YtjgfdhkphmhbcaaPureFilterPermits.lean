/- Whether any filter may be, and lets any prefix with any tag through, and by which rule, is what the document says (at most 100 rules). -/
import Derived.Test.YtjgfdhkphmhbcaaLxqFilterPermits
import Derived.Test.YtjgfdhkphmhbcaaFilterRef
namespace Go.Proofs.Ytjgfdhkphmhbcaa.Pure
open Go Go.RowKit Go.Proofs.Ytjgfdhkphmhbcaa.L Go.Proofs.YtjgfdhkphmhbcaaW.PrintWords Go.Proofs.YtjgfdhkphmhbcaaPlain Go.Proofs.YtjgfdhkphmhbcaaBits Go.Proofs.Ytjgfdhkphmhbcaa.FilterPlain

theorem FilterPermits : octroilaw13_FilterPermits.Pure := by
  intro l a m t hl hg ha _ ht
  obtain ⟨Y, rfl⟩ := addr_of ha
  obtain ⟨T, rfl⟩ := tag_of ht
  obtain ⟨L, rfl⟩ := ru_of l (fun y hy => ⟨(hg y hy).2.1.1, (hg y hy).2.2.2.2.1, (hg y hy).2.2.2.2.2⟩)
  rw [List.length_map] at hl
  apply Ev.rounds
  unfold octroilaw13_FilterPermits.f
  refine Ev.bnd _ awake_ev ?_
  refine Ev.ite (fun _ => Ev.now _) (fun _ => ?_)
  refine Ev.bnd _ (Permits_ev L hl Y m T) ?_
  refine Ev.bnd _ (RefPermits_ev L hl Y m T) ?_
  refine Ev.pos rfl (Ev.pos (by simp) (Ev.pos rfl ?_))
  refine Ev.bnd _ (MayF_ev L hl) ?_
  refine Ev.bnd _ (RefMayF_ev L hl) ?_
  exact Ev.some_ (by simp)
end Go.Proofs.Ytjgfdhkphmhbcaa.Pure
