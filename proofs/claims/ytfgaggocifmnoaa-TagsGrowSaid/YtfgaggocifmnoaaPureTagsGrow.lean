/- A tag with a domain more has that, and all that it had, and is one deeper; with it once more it is refused. -/
import Derived.Test.YtfgaggocifmnoaaLx3
import Derived.Test.YtfgaggocifmnoaaTagsPlain
namespace Go.Proofs.Ytfgaggocifmnoaa.Pure
open Go Go.RowKit Go.Proofs.Ytfgaggocifmnoaa.L Go.Proofs.YtfgaggocifmnoaaW.PrintWords Go.Proofs.YtfgaggocifmnoaaPlain Go.Proofs.YtfgaggocifmnoaaBits Go.Proofs.Ytfgaggocifmnoaa.TagsPlain

theorem TagsGrow : octroilaw03_TagsGrow.Pure := by
  intro a d o ha _ _
  obtain ⟨A, rfl⟩ := tag_of ha
  apply Ev.rounds
  unfold octroilaw03_TagsGrow.f
  refine Ev.bnd _ awake_ev ?_
  refine Ev.bndc _ (Add_eq A d) ?_
  refine Ev.ite (fun hc => ?_) (fun hc => ?_)
  · obtain ⟨hd, hb, he⟩ := addS_ok (A := A) (d := d) hc
    have hd' : d.toNat < 16 := by omega
    have hB : (cast2 (addS A d)).1 = ((A ||| 1#16 <<< d.toNat).toNat : Int) := by rw [← he]; rfl
    rw [hB]
    refine Ev.bndc _ (Add_eq _ d) ?_
    have hg : (A ||| 1#16 <<< d.toNat).getLsbD d.toNat = true := by rw [or_get A _ _ hd']; simp
    have e6 : (cast2 (addS (A ||| 1#16 <<< d.toNat) d)).2 = 6 := by unfold addS cast2; rw [if_pos hd, if_pos hg]
    have hend : Ev (fun k => octroilaw03_TagsGrow.j0 k (A.toNat : Int) d true ((A ||| 1#16 <<< d.toNat).toNat : Int) 6 true) true := by
      refine Ev.step (fun k => by simp only [octroilaw03_TagsGrow.j0]; rw [if_pos (by simp), if_pos (by simp)]) ?_
      refine Ev.bndc _ (Has_eq _ d) ?_
      refine Ev.pos (by unfold hasB; rw [decide_eq_true hd, hg]; rfl) ?_
      refine Ev.pos (by simp) ?_
      refine Ev.bnd _ (Depth_ev _) ?_
      refine Ev.bnd _ (Depth_ev _) ?_
      have hp := pc_add hd' hb
      have hl := pc_le A
      refine Ev.pos (by rw [wrap64_id _ (by omega) (by omega), hp]; omega) ?_
      refine Ev.bndc (decide (A &&& ~~~(A ||| 1#16 <<< d.toNat) = 0#16)) (by unfold tags_Within.f; rw [wi_eq]) ?_
      have hw1 : A &&& ~~~(A ||| 1#16 <<< d.toNat) = 0#16 := (inB_iff _ _).2 (fun i hi => by rw [or_get A _ _ hd', hi]; rfl)
      refine Ev.pos (decide_eq_true hw1) ?_
      refine Ev.bndc (decide ((A ||| 1#16 <<< d.toNat) &&& ~~~A = 0#16)) (by unfold tags_Within.f; rw [wi_eq]) ?_
      have hw2 : ¬ (A ||| 1#16 <<< d.toNat) &&& ~~~A = 0#16 := fun h => by
        have := (inB_iff _ _).1 h d.toNat hg
        rw [hb] at this; cases this
      exact Ev.some_ (by rw [decide_eq_false hw2]; rfl)
    rw [e6]
    refine Ev.ite (fun _ => hend) (fun ho => ?_)
    refine Ev.bndc _ (Has_eq _ o) ?_
    refine Ev.bndc _ (Has_eq _ o) ?_
    have : (hasB (A ||| 1#16 <<< d.toNat) o == hasB A o) = true := by
      unfold hasB
      by_cases h : 0 ≤ o ∧ o < 16
      · rw [or_get A _ _ hd']
        have hne : o.toNat ≠ d.toNat := by omega
        simp [hne]
      · rw [decide_eq_false h]; rfl
    rw [this]
    exact hend
  · refine Ev.pos rfl ?_
    have h0 : (cast2 (addS A d)).1 = 0 := by
      unfold addS cast2 at hc ⊢
      by_cases hd : 0 ≤ d ∧ d < 16
      · rw [if_pos hd] at hc ⊢
        by_cases hb : A.getLsbD d.toNat = true
        · rw [if_pos hb]; rfl
        · rw [if_neg hb] at hc; simp at hc
      · rw [if_neg hd]; rfl
    refine Ev.pos h0 ?_
    refine Ev.bndc _ (Has_eq A d) ?_
    refine Ev.ite (fun _ => Ev.now _) (fun hh => ?_)
    refine Ev.ite (fun _ => Ev.now _) (fun hneg => Ev.some_ ?_)
    apply decide_eq_true
    unfold addS cast2 at hc
    by_cases hd : 0 ≤ d ∧ d < 16
    · rw [if_pos hd] at hc
      by_cases hb : A.getLsbD d.toNat = true
      · exact absurd (show hasB A d = true by unfold hasB; rw [decide_eq_true hd, hb]; rfl) hh
      · rw [if_neg hb] at hc; simp at hc
    · omega
end Go.Proofs.Ytfgaggocifmnoaa.Pure
