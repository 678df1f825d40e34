/- The depth of two tags together, and of what both have, is that of the one and the other. -/
import Derived.Test.YtfgaggocifmnoaaLx2
import Derived.Test.YtfgaggocifmnoaaTagsPlain
namespace Go.Proofs.Ytfgaggocifmnoaa.Pure
open Go Go.RowKit Go.Proofs.Ytfgaggocifmnoaa.L Go.Proofs.YtfgaggocifmnoaaW.PrintWords Go.Proofs.YtfgaggocifmnoaaPlain Go.Proofs.YtfgaggocifmnoaaBits Go.Proofs.Ytfgaggocifmnoaa.TagsPlain

theorem TagsSplit : octroilaw03_TagsSplit.Pure := by
  intro a b ha hb
  obtain ⟨A, rfl⟩ := tag_of ha
  obtain ⟨B, rfl⟩ := tag_of hb
  apply Ev.rounds
  unfold octroilaw03_TagsSplit.f
  rw [or16, and16]
  refine Ev.bnd _ awake_ev ?_
  refine Ev.pos rfl ?_
  refine Ev.bnd _ (Depth_ev _) ?_
  refine Ev.bnd _ (Depth_ev _) ?_
  refine Ev.bnd _ (Depth_ev _) ?_
  refine Ev.bnd _ (Depth_ev _) ?_
  have h := pcF_split 16 A.toNat B.toNat
  have l1 := pc_le A
  have l2 := pc_le B
  have h' : pc (A ||| B) + pc (A &&& B) = pc A + pc B := by unfold pc; rw [BitVec.toNat_or, BitVec.toNat_and]; exact h
  refine Ev.pos (by rw [wrap64_id _ (by omega) (by omega), wrap64_id _ (by omega) (by omega)]; omega) (Ev.pos (by omega) (Ev.some_ ?_))
  exact decide_eq_true (by omega)
end Go.Proofs.Ytfgaggocifmnoaa.Pure
