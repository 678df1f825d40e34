/- Any route, by any rule, is what the document says, or refused with the first error that it says. -/
import Derived.Test.YtdhejpjggmikiaaLxqRedistPasses
import Derived.Test.YtdhejpjggmikiaaRedistRef
namespace Go.Proofs.Ytdhejpjggmikiaa.Pure
open Go Go.RowKit Go.Proofs.Ytdhejpjggmikiaa.L Go.Proofs.YtdhejpjggmikiaaW.PrintWords Go.Proofs.YtdhejpjggmikiaaPlain Go.Proofs.YtdhejpjggmikiaaBits Go.Proofs.Ytdhejpjggmikiaa.FilterPlain Go.Proofs.Ytdhejpjggmikiaa.RedistPlain

theorem RedistPasses : octroilaw15_RedistPasses.Pure := by
  intro fr tu l B s a m dom dist met nxt t _ _ hl hg hB _ _ ha _ _ _ _ _ ht
  obtain ⟨P, rfl⟩ := addr_of ha
  obtain ⟨T, rfl⟩ := tag_of ht
  obtain ⟨L, rfl⟩ := ru_of l (fun y hy => ⟨(hg y hy).2.1.1, (hg y hy).2.2.2.2.1, (hg y hy).2.2.2.2.2⟩)
  rw [List.length_map] at hl
  apply Ev.rounds
  unfold octroilaw15_RedistPasses.f
  refine Ev.bnd _ RedistPlain.awake_ev ?_
  refine Ev.bndc _ (few_eq _ _ _ _ _) ?_
  refine Ev.pos rfl ?_
  refine Ev.step (fun k => by simp only [octroilaw15_RedistPasses.j0]; rfl) ?_
  refine Ev.ite (fun _ => Ev.now _) (fun _ => ?_)
  refine Ev.bnd _ (Pass_ev fr tu L hl B hB s P m dom dist met nxt T) ?_
  refine Ev.bnd _ (RefPass_ev fr tu L hl B hB s P m dom dist met nxt T) ?_
  refine Ev.pos (by simp) (Ev.pos rfl ?_)
  refine Ev.bnd _ (RedistPlain.May_ev fr tu L hl B hB s) ?_
  refine Ev.bnd _ (RedistPlain.RefMay_ev fr tu L hl B hB s) ?_
  exact Ev.some_ (by simp)
end Go.Proofs.Ytdhejpjggmikiaa.Pure
