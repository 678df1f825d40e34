/- A route that is one domain's own, and crosses to another one, is told there with the domain where it began alone, and by no rule comes back. -/
import Derived.Test.YtdhejpjggmikiaaLxqRedistOwn
import Derived.Test.YtdhejpjggmikiaaRedistPlain
namespace Go.Proofs.Ytdhejpjggmikiaa.Pure
open Go Go.RowKit Go.Proofs.Ytdhejpjggmikiaa.L Go.Proofs.YtdhejpjggmikiaaW.PrintWords Go.Proofs.YtdhejpjggmikiaaPlain Go.Proofs.YtdhejpjggmikiaaBits Go.Proofs.Ytdhejpjggmikiaa.FilterPlain Go.Proofs.Ytdhejpjggmikiaa.RedistPlain
open Go.Proofs.Ytdhejpjggmikiaa.TagsPlain (hasB or_get)

theorem own_up (a b : Int) (c d : Int) : Ev (fun k => octroilaw15_RedistOwn.j0 k a b true true c d) true :=
  Ev.step (f := fun _ => some true) (fun k => by simp [octroilaw15_RedistOwn.j0]) (Ev.now _)

theorem RedistOwn : octroilaw15_RedistOwn.Pure := by
  intro a m fr tu ha _ _ _
  obtain ⟨P, rfl⟩ := addr_of ha
  apply Ev.rounds
  have hl1 : ([r0] : List Ru).length ≤ maxLen := by simp [maxLen]
  have hl2 : ([] : List S64).length ≤ maxLen := by simp [maxLen]
  unfold octroilaw15_RedistOwn.f
  refine Ev.bnd _ RedistPlain.awake_ev ?_
  refine Ev.pos rfl ?_
  refine Ev.ite (fun _ => own_up _ _ _ _) (fun h1 => ?_)
  refine Ev.ite (fun _ => own_up _ _ _ _) (fun h2 => ?_)
  refine Ev.ite (fun _ => own_up _ _ _ _) (fun h3 => ?_)
  refine Ev.ite (fun _ => own_up _ _ _ _) (fun h4 => ?_)
  by_cases hne : fr = tu
  · rw [show (fr == tu) = true by simp [hne]]; exact own_up _ _ _ _
  rw [show (fr == tu) = false by simp [hne]]
  refine Ev.step (fun k => by simp only [octroilaw15_RedistOwn.j0]; rw [if_neg (by simp)]) ?_
  have hfr : 0 ≤ fr ∧ fr < 16 := by omega
  have hto : 0 ≤ tu ∧ tu < 16 := by omega
  have hf : fr.toNat < 16 := by omega
  refine Ev.bndc _ (all_eq fr tu) ?_
  have hp : passS fr tu [r0] [] 5 P m fr 0 3 0#16 = if mayP P m = true then okS tu P m 0 5 0#16 fr else err 7 := by
    rw [passA, if_pos ⟨by rw [isD_iff.2 hfr, isD_iff.2 hto, decide_eq_false hne]; rfl, rfl⟩, if_neg (by simp [hasB])]
    simp
  refine Ev.bnd _ (Pass_ev fr tu [r0] hl1 [] hl2 5 P m fr 0 3 0 0#16) ?_
  rw [hp]
  by_cases hm : mayP P m = true
  · rw [if_pos hm]
    refine Ev.pos rfl ?_
    refine Ev.bndc _ (all_eq tu fr) ?_
    refine Ev.bnd _ (Pass_ev tu fr [r0] hl1 [] hl2 5 P m tu 0 5 0 (0#16 ||| 1#16 <<< fr.toNat)) ?_
    have hw : IntKind.u64.wrap fr = fr := by rw [wrapu64_mod]; omega
    rw [hw]
    refine Ev.pos hfr.1 ?_
    have hs : shl .u16 1 fr = ((1#16 <<< fr.toNat).toNat : Int) := by
      have := shl1 fr.toNat hf
      rw [show ((fr.toNat : Nat) : Int) = fr by omega] at this
      exact this
    rw [hs]
    refine Ev.pos (by simp [okS]) (Ev.pos rfl (Ev.pos (by simp [okS]) (Ev.some_ ?_)))
    rw [passA, if_pos ⟨by rw [isD_iff.2 hfr, isD_iff.2 hto, decide_eq_false (fun h => hne h.symm)]; rfl, rfl⟩, if_pos]
    · rfl
    · rw [hasB_off hfr, or_get _ _ _ hf]; simp
  · rw [if_neg hm]
    exact Ev.neg (by decide) (Ev.some_ rfl)
end Go.Proofs.Ytdhejpjggmikiaa.Pure
