/- Each time a route comes to another domain it is one deeper, has the one that it left, and all that it had, and not the one to which it comes. -/
import Derived.Test.YtdhejpjggmikiaaLxqRedistDeepens
import Derived.Test.YtdhejpjggmikiaaRedistPlain
import Derived.Test.YtdhejpjggmikiaaTagsPlain
namespace Go.Proofs.Ytdhejpjggmikiaa.Pure
open Go Go.RowKit Go.Proofs.Ytdhejpjggmikiaa.L Go.Proofs.YtdhejpjggmikiaaW.PrintWords Go.Proofs.YtdhejpjggmikiaaPlain Go.Proofs.YtdhejpjggmikiaaBits Go.Proofs.Ytdhejpjggmikiaa.FilterPlain Go.Proofs.Ytdhejpjggmikiaa.RedistPlain
open Go.Proofs.Ytdhejpjggmikiaa.TagsPlain (hasB Has_eq Depth_ev pc pc_le pc_add or_get)

theorem Accept_eq (d : Int) (a b c e f g : Int) (T : BitVec 16) (hd : 0 ≤ d ∧ d < 16) : redist_Accept.f d a b c e f g T.toNat = some (if T.getLsbD d.toNat = true then 6 else 0) := by
  unfold redist_Accept.f
  rw [RedistPlain.is_eq, isD_iff.2 hd]
  simp only [Option.bind_some, if_true]
  rw [Has_eq, hasB_off hd]
  cases T.getLsbD d.toNat <;> rfl

theorem RedistDeepens : octroilaw15_RedistDeepens.Pure := by
  intro fr tu l B s a m dom dist met nxt t _ _ hl hg hB _ _ ha _ _ _ _ _ ht
  obtain ⟨P, rfl⟩ := addr_of ha
  obtain ⟨T, rfl⟩ := tag_of ht
  obtain ⟨L, rfl⟩ := ru_of l (fun y hy => ⟨(hg y hy).2.1.1, (hg y hy).2.2.2.2.1, (hg y hy).2.2.2.2.2⟩)
  rw [List.length_map] at hl
  apply Ev.rounds
  unfold octroilaw15_RedistDeepens.f
  refine Ev.bnd _ RedistPlain.awake_ev ?_
  refine Ev.bndc _ (few_eq _ _ _ _ _) ?_
  refine Ev.pos rfl ?_
  refine Ev.step (fun k => by simp only [octroilaw15_RedistDeepens.j0]; rfl) ?_
  refine Ev.ite (fun _ => Ev.now _) (fun _ => ?_)
  refine Ev.bnd _ (Pass_ev fr tu L hl B hB s P m dom dist met nxt T) ?_
  rcases passS_cases fr tu L B s P m dom dist met T with ⟨e, he, h⟩ | ⟨v, h, hfr, hto, hne, hdom, hT1, hT2⟩
  · rw [h]
    exact Ev.neg he (Ev.some_ rfl)
  · rw [h]
    subst hdom
    have hf : dom.toNat < 16 := by omega
    have ht' : tu.toNat < 16 := by omega
    have hnn : tu.toNat ≠ dom.toNat := by omega
    refine Ev.pos rfl ?_
    refine Ev.bnd _ (Depth_ev (T ||| 1#16 <<< dom.toNat)) ?_
    refine Ev.bnd _ (Depth_ev T) ?_
    have hpc := pc_le T
    refine Ev.pos (by rw [pc_add hf hT1, wrap64_nat _ (by omega)]) ?_
    refine Ev.bndc _ (wi16 T (T ||| 1#16 <<< dom.toNat)) ?_
    refine Ev.pos ?_ ?_
    · refine decide_eq_true ((inB_iff _ _).2 (fun i hi => ?_))
      rw [or_get T _ i hf, hi]; rfl
    refine Ev.bndc _ (Has_eq _ dom) ?_
    refine Ev.pos (by rw [hasB_off hfr, or_get T _ _ hf]; simp) ?_
    refine Ev.bndc _ (Has_eq _ tu) ?_
    have hq : (T ||| 1#16 <<< dom.toNat).getLsbD tu.toNat = false := by
      rw [or_get T _ _ hf, hT2]; simp [hnn]
    have hq' : (T ||| 1#16 <<< dom.toNat).getLsbD dom.toNat = true := by
      rw [or_get T _ _ hf]; simp
    rw [hasB_off hto, hq]
    refine Ev.step (fun k => by simp only [octroilaw15_RedistDeepens.j1]; rw [if_neg (by simp)]) ?_
    refine Ev.pos (by simp [okS]) (Ev.pos rfl ?_)
    refine Ev.bndc _ (Accept_eq tu _ _ _ _ _ _ _ hto) ?_
    rw [hq]
    refine Ev.pos rfl ?_
    refine Ev.bndc _ (Accept_eq dom _ _ _ _ _ _ _ hfr) ?_
    rw [hq']
    exact Ev.some_ rfl
end Go.Proofs.Ytdhejpjggmikiaa.Pure
