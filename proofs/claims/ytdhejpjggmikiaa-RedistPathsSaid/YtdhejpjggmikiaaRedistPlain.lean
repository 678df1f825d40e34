/- The functions of redist and of its reference: what they come to, without rounds. -/
import Derived.Test.YtdhejpjggmikiaaLx6
import Derived.Test.YtdhejpjggmikiaaLx4
import Derived.Test.YtdhejpjggmikiaaLx7
import Derived.Test.YtdhejpjggmikiaaLx7
import Derived.Test.YtdhejpjggmikiaaTransPlain
import Derived.Test.YtdhejpjggmikiaaFilterMore
import Derived.Test.YtdhejpjggmikiaaTagsHas
namespace Go.Proofs.Ytdhejpjggmikiaa.RedistPlain
open Go Go.RowKit Go.Proofs.Ytdhejpjggmikiaa.L Go.Proofs.YtdhejpjggmikiaaW.PrintWords Go.Proofs.YtdhejpjggmikiaaW.PrintMore Go.Proofs.YtdhejpjggmikiaaPlain Go.Proofs.YtdhejpjggmikiaaBits
open Go.Proofs.Ytdhejpjggmikiaa.FilterPlain (Ru mayF permR mayP fitsR MayF_ev Permits_ev covers_zero)
open Go.Proofs.Ytdhejpjggmikiaa.TransPlain (toS mayS fitsB To_ev)
open Go.Proofs.Ytdhejpjggmikiaa.TagsPlain (hasB addS cast2 Has_eq Add_eq addS_mk)

def isD (d : Int) : Bool := decide (0 ≤ d ∧ d < 16)
theorem isD_iff {d : Int} : isD d = true ↔ 0 ≤ d ∧ d < 16 := by unfold isD; exact decide_eq_true_iff
theorem is_eq (d : Int) : redist_is.f d = some (isD d) := by
  unfold redist_is.f isD
  by_cases h : d ≥ 0
  · rw [if_pos h]; congr 1; by_cases h2 : d < 16 <;> simp [h2] <;> omega
  · rw [if_neg h]; congr 1; simp; omega
def seedB (s : Int) : Bool := decide (0 ≤ s) && decide (s < 4294967295)
def mayX (fr tu : Int) (L : List Ru) (B : List S64) (s : Int) : Bool := isD fr && (isD tu && (!decide (fr = tu) && (mayF L && (mayS B && seedB s))))
theorem seed_ev (s : Int) : Ev (fun _ => if s ≥ 0 then some (decide (s < 4294967295)) else some false) (seedB s) := by
  unfold seedB
  by_cases h : s ≥ 0
  · refine Ev.pos h (Ev.some_ ?_); rw [decide_eq_true (show 0 ≤ s from h), Bool.true_and]
  · refine Ev.neg h (Ev.some_ ?_); rw [decide_eq_false (show ¬ 0 ≤ s from h), Bool.false_and]
theorem May_ev (fr tu : Int) (L : List Ru) (hL : L.length ≤ maxLen) (B : List S64) (hB : B.length ≤ maxLen) (s : Int) :
    Ev (fun k => redist_May.f k fr tu (L.map Ru.s) B s) (mayX fr tu L B s) := by
  unfold redist_May.f mayX
  refine Ev.bndc _ (is_eq fr) ?_
  refine Ev.ite (fun h1 => ?_) (fun h1 => Ev.some_ (by rw [Bool.eq_false_iff.2 h1]; rfl))
  rw [h1, Bool.true_and]
  refine Ev.bndc _ (is_eq tu) ?_
  refine Ev.ite (fun h2 => ?_) (fun h2 => Ev.some_ (by rw [Bool.eq_false_iff.2 h2]; rfl))
  rw [h2, Bool.true_and]
  refine Ev.ite (fun h3 => Ev.some_ (by rw [decide_eq_true h3]; rfl)) (fun h3 => ?_)
  rw [decide_eq_false h3, Bool.not_false, Bool.true_and]
  refine Ev.bnd _ (MayF_ev L hL) ?_
  refine Ev.ite (fun h4 => ?_) (fun h4 => Ev.some_ (by rw [Bool.eq_false_iff.2 h4]; rfl))
  rw [h4, Bool.true_and]
  refine Ev.bnd _ (TransPlain.May_ev B hB) ?_
  refine Ev.ite (fun h5 => ?_) (fun h5 => Ev.some_ (by rw [Bool.eq_false_iff.2 h5]; rfl))
  rw [h5, Bool.true_and]
  exact seed_ev s
abbrev R8 := Int × Int × Int × Int × Int × Int × Int × Int
def err (e : Int) : R8 := (0, 0, 0, 0, 0, 0, 0, e)
def okS (tu : Int) (P : BitVec 32) (m dist met : Int) (T : BitVec 16) (fr : Int) : R8 := (P.toNat, m, tu, dist, met, 0, ((T ||| 1#16 <<< fr.toNat).toNat : Int), 0)
def restS (fr tu : Int) (L : List Ru) (B : List S64) (s : Int) (P : BitVec 32) (m dist met : Int) (T : BitVec 16) : R8 :=
  if (permR P m T L 0).1 = true then (if (toS B s met).2 = true then okS tu P m dist (toS B s met).1 T fr else err 7) else err 7
def passS (fr tu : Int) (L : List Ru) (B : List S64) (s : Int) (P : BitVec 32) (m dom dist met : Int) (T : BitVec 16) : R8 :=
  if mayX fr tu L B s = true ∧ dom = fr then (if (hasB T fr || hasB T tu) = true then err 6 else restS fr tu L B s P m dist met T) else err 1

theorem hasB_off {T : BitVec 16} {d : Int} (hd : 0 ≤ d ∧ d < 16) : hasB T d = T.getLsbD d.toNat := by
  unfold hasB; rw [decide_eq_true hd, Bool.true_and]

theorem Pass_j1 (fr tu : Int) (L : List Ru) (hL : L.length ≤ maxLen) (B : List S64) (hB : B.length ≤ maxLen) (s : Int) (P : BitVec 32) (m dom dist met nxt : Int) (T : BitVec 16)
    (hd : 0 ≤ fr ∧ fr < 16) (hb : T.getLsbD fr.toNat = false) :
    Ev (fun k => redist_Pass.j1 k 6 false fr tu (L.map Ru.s) B s P.toNat m dom dist met nxt T.toNat 0 0 0 0 0 0 0) (restS fr tu L B s P m dist met T) := by
  refine Ev.step (fun k => by simp only [redist_Pass.j1]; rw [if_neg (by simp)]) ?_
  unfold restS
  refine Ev.bnd _ (Permits_ev L hL P m T) ?_
  refine Ev.ite (fun h1 => ?_) (fun h1 => ?_)
  · rw [if_pos h1]
    refine Ev.bnd _ (To_ev B hB s met) ?_
    refine Ev.ite (fun h2 => ?_) (fun h2 => ?_)
    · rw [if_pos h2]
      refine Ev.bndc _ (Add_eq T fr) ?_
      rw [addS_mk hd hb]
      exact Ev.some_ rfl
    · rw [if_neg h2]; exact Ev.some_ rfl
  · rw [if_neg h1]; exact Ev.some_ rfl
theorem Pass_ev (fr tu : Int) (L : List Ru) (hL : L.length ≤ maxLen) (B : List S64) (hB : B.length ≤ maxLen) (s : Int) (P : BitVec 32) (m dom dist met nxt : Int) (T : BitVec 16) :
    Ev (fun k => redist_Pass.f k fr tu (L.map Ru.s) B s P.toNat m dom dist met nxt T.toNat) (passS fr tu L B s P m dom dist met T) := by
  unfold redist_Pass.f passS
  refine Ev.bnd _ (May_ev fr tu L hL B hB s) ?_
  refine Ev.ite (fun h => ?_) (fun h => ?_)
  · by_cases hd : dom = fr
    · rw [if_pos ⟨h, hd⟩, show (dom != fr) = false by simp [hd]]
      refine Ev.step (fun k => by simp only [redist_Pass.j0]; rw [if_neg (by simp)]) ?_
      have hfr : 0 ≤ fr ∧ fr < 16 := by
        unfold mayX at h; exact isD_iff.1 (Bool.and_eq_true_iff.1 h).1
      refine Ev.bndc _ (Has_eq T fr) ?_
      refine Ev.ite (fun h1 => ?_) (fun h1 => ?_)
      · rw [h1, Bool.true_or, if_pos rfl]
        exact Ev.step (f := fun _ => some (err 6)) (fun k => by simp only [redist_Pass.j1]; rw [if_pos trivial]; rfl) (Ev.now _)
      · have hb : T.getLsbD fr.toNat = false := by rw [← hasB_off hfr]; exact Bool.eq_false_iff.2 h1
        rw [Bool.eq_false_iff.2 h1, Bool.false_or]
        refine Ev.bndc _ (Has_eq T tu) ?_
        cases h2 : hasB T tu
        · rw [if_neg (by simp)]
          exact Pass_j1 fr tu L hL B hB s P m dom dist met nxt T hfr hb
        · rw [if_pos rfl]
          exact Ev.step (f := fun _ => some (err 6)) (fun k => by simp only [redist_Pass.j1]; rw [if_pos trivial]; rfl) (Ev.now _)
    · rw [if_neg (fun h' => hd h'.2), show (dom != fr) = true by simp [hd]]
      exact Ev.step (f := fun _ => some (err 1)) (fun k => by simp only [redist_Pass.j0]; rw [if_pos trivial]; rfl) (Ev.now _)
  · rw [if_neg (fun h' => h h'.1)]
    exact Ev.step (f := fun _ => some (err 1)) (fun k => by simp only [redist_Pass.j0]; rw [if_pos trivial]; rfl) (Ev.now _)

/-- A passage fails, or it comes to a route that is one deeper. -/
theorem passS_cases (fr tu : Int) (L : List Ru) (B : List S64) (s : Int) (P : BitVec 32) (m dom dist met : Int) (T : BitVec 16) :
    (∃ e, e ≠ 0 ∧ passS fr tu L B s P m dom dist met T = err e) ∨
    (∃ v, passS fr tu L B s P m dom dist met T = okS tu P m dist v T fr ∧ (0 ≤ fr ∧ fr < 16) ∧ (0 ≤ tu ∧ tu < 16) ∧ fr ≠ tu ∧ dom = fr ∧ T.getLsbD fr.toNat = false ∧ T.getLsbD tu.toNat = false) := by
  unfold passS
  by_cases h : mayX fr tu L B s = true ∧ dom = fr
  · rw [if_pos h]
    by_cases h1 : (hasB T fr || hasB T tu) = true
    · rw [if_pos h1]; exact .inl ⟨6, by decide, rfl⟩
    · rw [if_neg h1]
      unfold restS
      by_cases h2 : (permR P m T L 0).1 = true
      · rw [if_pos h2]
        by_cases h3 : (toS B s met).2 = true
        · rw [if_pos h3]
          have hm := h.1
          unfold mayX at hm
          simp only [Bool.and_eq_true, Bool.not_eq_true', decide_eq_false_iff_not] at hm
          have hfr := isD_iff.1 hm.1
          have hto := isD_iff.1 hm.2.1
          have hq := Bool.or_eq_false_iff.1 (Bool.eq_false_iff.2 h1)
          exact .inr ⟨_, rfl, hfr, hto, hm.2.2.1, h.2, by rw [← hasB_off hfr]; exact hq.1, by rw [← hasB_off hto]; exact hq.2⟩
        · rw [if_neg h3]; exact .inl ⟨7, by decide, rfl⟩
      · rw [if_neg h2]; exact .inl ⟨7, by decide, rfl⟩
  · rw [if_neg h]; exact .inl ⟨1, by decide, rfl⟩

/-! the rule that lets everything through -/
def r0 : Ru := ⟨true, 0#32, 0, 0, 32, 0#16, 0#16⟩
theorem all_eq (a b : Int) : octroilaw15_all.f a b = some (a, b, [r0].map Ru.s, ([] : List S64), 5) := rfl
theorem fits_r0 (P : BitVec 32) (m : Int) (T : BitVec 16) : fitsR r0 P m T = mayP P m := by
  unfold fitsR r0
  rw [covers_zero]
  cases hm : mayP P m
  · simp
  · have : 0 ≤ m ∧ m ≤ 32 := by
      unfold mayP at hm
      exact of_decide_eq_true (Bool.and_eq_true_iff.1 hm).1
    simp
    omega
theorem passA (fr tu : Int) (P : BitVec 32) (m dom dist met : Int) (T : BitVec 16) : passS fr tu [r0] [] 5 P m dom dist met T =
    if (isD fr && (isD tu && !decide (fr = tu))) = true ∧ dom = fr then (if (hasB T fr || hasB T tu) = true then err 6 else if mayP P m = true ∧ 0 ≤ met then okS tu P m dist 5 T fr else err 7) else err 1 := by
  unfold passS
  have e1 : mayX fr tu [r0] [] 5 = (isD fr && (isD tu && !decide (fr = tu))) := by
    unfold mayX
    have a1 : mayF [r0] = true := by decide
    have a2 : mayS ([] : List S64) = true := by decide
    have a3 : seedB 5 = true := by decide
    rw [a1, a2, a3]; simp
  rw [e1]
  have e2 : restS fr tu [r0] [] 5 P m dist met T = if mayP P m = true ∧ 0 ≤ met then okS tu P m dist 5 T fr else err 7 := by
    unfold restS
    have b1 : (permR P m T [r0] 0).1 = mayP P m := by
      simp only [permR, fits_r0]
      cases mayP P m <;> rfl
    rw [b1]
    have b2 : toS ([] : List S64) 5 met = if met < 0 then (0, false) else (5, true) := by
      unfold toS
      rfl
    rw [b2]
    cases mayP P m
    · simp
    · by_cases h : met < 0
      · have : ¬ 0 ≤ met := by omega
        simp [h, this]
      · have : 0 ≤ met := by omega
        simp [h, this]
  rw [e2]

theorem awake_ev : Ev octroilaw15_awake.f true := by
  unfold octroilaw15_awake.f
  have h1 : ([r0] : List Ru).length ≤ maxLen := by simp [maxLen]
  have h2 : ([] : List S64).length ≤ maxLen := by simp [maxLen]
  refine Ev.bndc _ (all_eq 1 2) ?_
  refine Ev.bnd (0, 0, 2, 0, 5, 0, 10, 0) (Ev.eq (Pass_ev 1 2 [r0] h1 [] h2 5 0#32 0 1 0 0 0 8#16) rfl) ?_
  refine Ev.bndc _ (all_eq 1 2) ?_
  refine Ev.bnd (0, 0, 0, 0, 0, 0, 0, 6) (Ev.eq (Pass_ev 1 2 [r0] h1 [] h2 5 0#32 0 1 0 0 0 4#16) rfl) ?_
  exact Ev.const rfl
theorem few_eq (a b : Int) (L : List S61) (B : List S64) (s : Int) : octroilaw15_few.f a b L B s = some (decide (L.length ≤ 100) && decide (B.length ≤ 100)) := by
  unfold octroilaw15_few.f
  by_cases h : (L.length : Int) ≤ 100
  · rw [if_pos h, decide_eq_true (show L.length ≤ 100 by omega), Bool.true_and]; congr 1; rw [decide_eq_decide]; omega
  · rw [if_neg h, decide_eq_false (show ¬ L.length ≤ 100 by omega), Bool.false_and]
end Go.Proofs.Ytdhejpjggmikiaa.RedistPlain
