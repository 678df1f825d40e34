/- Whether any translation may be, and what any metric becomes by it, is what the document says (for at most 100 bands; beyond that the law asks the chapter's examples alone). -/
import Derived.Test.YtjgfdhkphmhbcaaLxqTransTells
import Derived.Test.YtjgfdhkphmhbcaaTransPlain
namespace Go.Proofs.Ytjgfdhkphmhbcaa.Pure
open Go Go.RowKit Go.Proofs.Ytjgfdhkphmhbcaa.L Go.Proofs.YtjgfdhkphmhbcaaW.PrintWords Go.Proofs.YtjgfdhkphmhbcaaPlain Go.Proofs.Ytjgfdhkphmhbcaa.TransPlain

theorem TransTells : octroilaw14_TransTells.Pure := by
  intro l seed n hl _ _ _
  apply Ev.rounds
  unfold octroilaw14_TransTells.f
  refine Ev.bnd _ awake_ev ?_
  refine Ev.ite (fun _ => Ev.now _) (fun _ => ?_)
  refine Ev.bnd _ (To_ev l hl seed n) ?_
  refine Ev.bnd _ (RefTo_ev l hl seed n) ?_
  refine Ev.pos rfl (Ev.pos rfl (Ev.pos (by simp) ?_))
  refine Ev.bnd _ (May_ev l hl) ?_
  refine Ev.bnd _ (RefMay_ev l hl) ?_
  exact Ev.some_ (by simp)
end Go.Proofs.Ytjgfdhkphmhbcaa.Pure
