/- The reference of redist: what it comes to, without rounds. -/
import Derived.Test.YtdhejpjggmikiaaLx11
import Derived.Test.YtdhejpjggmikiaaLx8
import Derived.Test.YtdhejpjggmikiaaRedistPlain
import Derived.Test.YtdhejpjggmikiaaTransRef
import Derived.Test.YtdhejpjggmikiaaFilterRef
import Derived.Test.YtdhejpjggmikiaaTagsRef
namespace Go.Proofs.Ytdhejpjggmikiaa.RedistPlain
open Go Go.RowKit Go.Proofs.Ytdhejpjggmikiaa.L Go.Proofs.YtdhejpjggmikiaaW.PrintWords Go.Proofs.YtdhejpjggmikiaaW.PrintMore Go.Proofs.YtdhejpjggmikiaaPlain Go.Proofs.YtdhejpjggmikiaaBits
open Go.Proofs.Ytdhejpjggmikiaa.FilterPlain (Ru mayF permR mayP fitsR MayF_ev RefMayF_ev Permits_ev RefPermits_ev covers_zero)
open Go.Proofs.Ytdhejpjggmikiaa.TransPlain (toS mayS fitsB To_ev RefTo_ev)
open Go.Proofs.Ytdhejpjggmikiaa.TagsPlain (hasB addS cast2 Has_eq Add_eq addS_mk RefAdd_ev)

theorem Refis_eq (d : Int) : octroiref15_is.f d = some (isD d) := by
  unfold octroiref15_is.f isD
  by_cases h : d ≥ 0
  · rw [if_pos h]; congr 1; by_cases h2 : d < 16 <;> simp [h2] <;> omega
  · rw [if_neg h]; congr 1; simp; omega

theorem RefMay_ev (fr tu : Int) (L : List Ru) (hL : L.length ≤ maxLen) (B : List S64) (hB : B.length ≤ maxLen) (s : Int) :
    Ev (fun k => octroiref15_May.f k fr tu (L.map Ru.s) B s) (mayX fr tu L B s) := by
  unfold octroiref15_May.f mayX
  refine Ev.bndc _ (Refis_eq fr) ?_
  refine Ev.bndc _ (Refis_eq tu) ?_
  refine Ev.bnd _ (RefMayF_ev L hL) ?_
  refine Ev.bnd _ (TransPlain.RefMay_ev B hB) ?_
  refine Ev.ite (fun h1 => ?_) (fun h1 => Ev.some_ (by rw [Bool.eq_false_iff.2 h1]; rfl))
  rw [h1, Bool.true_and]
  refine Ev.ite (fun h2 => ?_) (fun h2 => Ev.some_ (by rw [Bool.eq_false_iff.2 h2]; rfl))
  rw [h2, Bool.true_and]
  refine Ev.ite (fun h3 => Ev.some_ (by rw [decide_eq_true h3]; rfl)) (fun h3 => ?_)
  rw [decide_eq_false h3, Bool.not_false, Bool.true_and]
  refine Ev.ite (fun h4 => ?_) (fun h4 => Ev.some_ (by rw [Bool.eq_false_iff.2 h4]; rfl))
  rw [h4, Bool.true_and]
  refine Ev.ite (fun h5 => ?_) (fun h5 => Ev.some_ (by rw [Bool.eq_false_iff.2 h5]; rfl))
  rw [h5, Bool.true_and]
  exact seed_ev s

theorem RefPass_j1 (fr tu : Int) (L : List Ru) (hL : L.length ≤ maxLen) (B : List S64) (hB : B.length ≤ maxLen) (s : Int) (P : BitVec 32) (m dom dist met nxt : Int) (T : BitVec 16)
    (hd : 0 ≤ fr ∧ fr < 16) (hb : T.getLsbD fr.toNat = false) :
    Ev (fun k => octroiref15_Pass.j1 k false fr tu (L.map Ru.s) B s P.toNat m dom dist met nxt T.toNat 0 0 0 0 0 0 0) (restS fr tu L B s P m dist met T) := by
  refine Ev.step (fun k => by simp only [octroiref15_Pass.j1]; rw [if_neg (by simp)]) ?_
  unfold restS
  refine Ev.bnd _ (RefPermits_ev L hL P m T) ?_
  refine Ev.ite (fun h1 => ?_) (fun h1 => ?_)
  · rw [if_pos h1]
    refine Ev.bnd _ (RefTo_ev B hB s met) ?_
    refine Ev.ite (fun h2 => ?_) (fun h2 => ?_)
    · rw [if_pos h2]
      refine Ev.bnd _ (RefAdd_ev T fr) ?_
      rw [addS_mk hd hb]
      exact Ev.some_ rfl
    · rw [if_neg h2]; exact Ev.some_ rfl
  · rw [if_neg h1]; exact Ev.some_ rfl
theorem RefPass_ev (fr tu : Int) (L : List Ru) (hL : L.length ≤ maxLen) (B : List S64) (hB : B.length ≤ maxLen) (s : Int) (P : BitVec 32) (m dom dist met nxt : Int) (T : BitVec 16) :
    Ev (fun k => octroiref15_Pass.f k fr tu (L.map Ru.s) B s P.toNat m dom dist met nxt T.toNat) (passS fr tu L B s P m dom dist met T) := by
  unfold octroiref15_Pass.f passS
  refine Ev.bnd _ (RefMay_ev fr tu L hL B hB s) ?_
  refine Ev.ite (fun h => ?_) (fun h => ?_)
  · by_cases hd : dom = fr
    · rw [if_pos ⟨h, hd⟩, show (dom != fr) = false by simp [hd]]
      refine Ev.step (fun k => by simp only [octroiref15_Pass.j0]; rw [if_neg (by simp)]) ?_
      have hfr : 0 ≤ fr ∧ fr < 16 := by
        unfold mayX at h; exact isD_iff.1 (Bool.and_eq_true_iff.1 h).1
      refine Ev.bnd _ (TagsPlain.RefHas_ev T fr) ?_
      refine Ev.bnd _ (TagsPlain.RefHas_ev T tu) ?_
      refine Ev.ite (fun h1 => ?_) (fun h1 => ?_)
      · rw [h1, Bool.true_or, if_pos rfl]
        exact Ev.step (f := fun _ => some (err 6)) (fun k => by simp only [octroiref15_Pass.j1]; rw [if_pos trivial]; rfl) (Ev.now _)
      · have hb : T.getLsbD fr.toNat = false := by rw [← hasB_off hfr]; exact Bool.eq_false_iff.2 h1
        rw [Bool.eq_false_iff.2 h1, Bool.false_or]
        cases h2 : hasB T tu
        · rw [if_neg (by simp)]
          exact RefPass_j1 fr tu L hL B hB s P m dom dist met nxt T hfr hb
        · rw [if_pos rfl]
          exact Ev.step (f := fun _ => some (err 6)) (fun k => by simp only [octroiref15_Pass.j1]; rw [if_pos trivial]; rfl) (Ev.now _)
    · rw [if_neg (fun h' => hd h'.2), show (dom != fr) = true by simp [hd]]
      exact Ev.step (f := fun _ => some (err 1)) (fun k => by simp only [octroiref15_Pass.j0]; rw [if_pos trivial]; rfl) (Ev.now _)
  · rw [if_neg (fun h' => h h'.1)]
    exact Ev.step (f := fun _ => some (err 1)) (fun k => by simp only [octroiref15_Pass.j0]; rw [if_pos trivial]; rfl) (Ev.now _)

end Go.Proofs.Ytdhejpjggmikiaa.RedistPlain
