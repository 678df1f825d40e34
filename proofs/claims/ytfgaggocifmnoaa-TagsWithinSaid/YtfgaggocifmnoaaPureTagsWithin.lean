/- What one tag has that has all of another one is at least as much; of two that have each other all is one. -/
import Derived.Test.YtfgaggocifmnoaaLx3
import Derived.Test.YtfgaggocifmnoaaTagsPlain
namespace Go.Proofs.Ytfgaggocifmnoaa.Pure
open Go Go.RowKit Go.Proofs.Ytfgaggocifmnoaa.L Go.Proofs.YtfgaggocifmnoaaW.PrintWords Go.Proofs.YtfgaggocifmnoaaPlain Go.Proofs.YtfgaggocifmnoaaBits Go.Proofs.Ytfgaggocifmnoaa.TagsPlain

theorem Within_eq (A B : BitVec 16) : tags_Within.f A.toNat B.toNat = some (decide (A &&& ~~~B = 0#16)) := by unfold tags_Within.f; rw [wi_eq]

theorem TagsWithin : octroilaw03_TagsWithin.Pure := by
  intro a b c ha hb hc
  obtain ⟨A, rfl⟩ := tag_of ha
  obtain ⟨B, rfl⟩ := tag_of hb
  obtain ⟨C, rfl⟩ := tag_of hc
  apply Ev.rounds
  unfold octroilaw03_TagsWithin.f
  have hend : Ev (fun k => octroilaw03_TagsWithin.j0 k (A.toNat : Int) (B.toNat : Int) true false) true := by
    refine Ev.step (fun k => by simp only [octroilaw03_TagsWithin.j0]; rw [if_neg (by simp), if_pos (by simp), or16, and16]) ?_
    refine Ev.bndc _ (Within_eq _ _) ?_
    refine Ev.pos (decide_eq_true ((inB_iff _ _).2 fun i hi => by rw [BitVec.getLsbD_or, hi]; rfl)) ?_
    refine Ev.bndc _ (Within_eq _ _) ?_
    refine Ev.pos (decide_eq_true ((inB_iff _ _).2 fun i hi => by rw [BitVec.getLsbD_and] at hi; exact (Bool.and_eq_true_iff.1 hi).1)) ?_
    have e : (0 : Int) = ((0#16).toNat : Int) := rfl
    rw [e]
    refine Ev.bndc _ (Within_eq _ _) ?_
    exact Ev.some_ (decide_eq_true ((inB_iff _ _).2 fun i hi => by simp at hi))
  refine Ev.bnd _ awake_ev ?_
  refine Ev.bndc _ (Within_eq A B) ?_
  refine Ev.bndc _ (Within_eq B C) ?_
  refine Ev.ite (fun h1 => ?_) (fun _ => hend)
  have h1' := (inB_iff A B).1 (of_decide_eq_true h1)
  refine Ev.bnd _ (Depth_ev A) ?_
  refine Ev.bnd _ (Depth_ev B) ?_
  have hle : pc A ≤ pc B := by
    refine pcF_within 16 _ _ ?_
    rw [← BitVec.toNat_and]
    congr 1
    apply BitVec.eq_of_getLsbD_eq
    intro i hi
    rw [BitVec.getLsbD_and]
    have := h1' i
    cases h : A.getLsbD i
    · simp
    · simp [this h]
  refine Ev.neg (by omega) ?_
  have hback : Ev (fun k => (tags_Within.f (B.toNat : Int) (A.toNat : Int)).bind fun t168 => if t168 = true then octroilaw03_TagsWithin.j0 k (A.toNat : Int) (B.toNat : Int) true ((A.toNat : Int) != (B.toNat : Int)) else octroilaw03_TagsWithin.j0 k (A.toNat : Int) (B.toNat : Int) true false) true := by
    refine Ev.bndc _ (Within_eq B A) ?_
    refine Ev.ite (fun h2 => ?_) (fun _ => hend)
    have h2' := (inB_iff B A).1 (of_decide_eq_true h2)
    have : A = B := by
      apply BitVec.eq_of_getLsbD_eq
      intro i hi
      have p := h1' i
      have q := h2' i
      cases ha : A.getLsbD i <;> cases hb : B.getLsbD i <;> simp_all
    subst this
    rw [bne_self_eq_false]
    exact hend
  refine Ev.ite (fun h3 => ?_) (fun _ => hback)
  have h3' := (inB_iff B C).1 (of_decide_eq_true h3)
  refine Ev.bndc _ (Within_eq A C) ?_
  refine Ev.pos (decide_eq_true ((inB_iff _ _).2 fun i hi => h3' i (h1' i hi))) ?_
  exact hback
end Go.Proofs.Ytfgaggocifmnoaa.Pure
