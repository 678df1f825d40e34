/- A metric that a band tells exactly becomes that band's; the next greater one becomes that of a later band, or the seed (translations that may be, at most 32 bands). -/
import Derived.Test.YtjgfdhkphmhbcaaLxqTransFirst
import Derived.Test.YtjgfdhkphmhbcaaTransMore
namespace Go.Proofs.Ytjgfdhkphmhbcaa.Pure
open Go Go.RowKit Go.Proofs.Ytjgfdhkphmhbcaa.L Go.Proofs.YtjgfdhkphmhbcaaW.PrintWords Go.Proofs.YtjgfdhkphmhbcaaPlain Go.Proofs.Ytjgfdhkphmhbcaa.TransPlain

theorem first_up (l : List S30) (a : Int) : Ev (fun k => octroilaw14_TransFirst.j0 k l a true true) true :=
  Ev.step (f := fun _ => some true) (fun k => by simp [octroilaw14_TransFirst.j0]) (Ev.now _)

theorem TransFirst : octroilaw14_TransFirst.Pure := by
  intro l k hl _ _
  apply Ev.rounds
  unfold octroilaw14_TransFirst.f
  refine Ev.bnd _ awake_ev ?_
  refine Ev.pos rfl ?_
  refine Ev.ite (fun _ => first_up _ _) (fun h32 => ?_)
  refine Ev.ite (fun _ => first_up _ _) (fun h0 => ?_)
  by_cases hk : k ≥ (l.length : Int)
  · rw [decide_eq_true hk]; exact first_up _ _
  rw [decide_eq_false hk]
  refine Ev.step (fun k => by simp only [octroilaw14_TransFirst.j0]; rw [if_neg (by simp)]) ?_
  refine Ev.bnd _ (May_ev l hl) ?_
  refine Ev.ite (fun hm => ?_) (fun _ => Ev.now _)
  have hm' := mayS_parts hm
  obtain ⟨j, rfl⟩ := Int.eq_ofNat_of_zero_le (show 0 ≤ k by omega)
  have hj : j < l.length := by omega
  have hrd : rd_T30 l (j : Int) = l[j] := by simp [rd_T30, hj]
  obtain ⟨g1, g2⟩ := mayR_above l _ _ hm' l[j] (List.getElem_mem hj)
  obtain ⟨t1, t2, t3⟩ := toR_at l _ _ hm' j hj
  refine Ev.pos (by omega) (Ev.pos (by omega) ?_)
  rw [hrd, wrap64_id (l[j].f0 + 1) (by omega) (by omega)]
  refine Ev.bnd _ (To_ev l hl 0 _) ?_
  refine Ev.bnd _ (To_ev l hl 0 _) ?_
  have e1 : toS l 0 l[j].f0 = (l[j].f1, true) := by unfold toS; rw [if_neg (by omega)]; exact t1
  rw [e1]
  have ew : wrap64 ((l.length : Int) - 1) = (l.length : Int) - 1 := wrap64_id _ (by omega) (by omega)
  have ew2 : wrap64 ((j : Int) + 1) = ((j + 1 : Nat) : Int) := wrap64_nat j (by omega)
  rw [ew, ew2]
  refine Ev.ite (fun he => ?_) (fun hne => ?_)
  · have e2 : toS l 0 (l[j].f0 + 1) = (0, false) := by unfold toS; rw [if_neg (by omega)]; exact t2 (by omega)
    rw [e2]
    refine Ev.pos rfl (Ev.pos rfl (Ev.some_ rfl))
  · have hj1 : j + 1 < l.length := by omega
    have e2 : toS l 0 (l[j].f0 + 1) = (l[j + 1].f1, true) := by unfold toS; rw [if_neg (by omega)]; exact t3 hj1
    have hrd1 : rd_T30 l ((j + 1 : Nat) : Int) = l[j + 1] := by unfold rd_T30; rw [Int.toNat_natCast]; simp [hj1]
    rw [e2, hrd1]
    refine Ev.pos rfl (Ev.pos rfl (Ev.pos rfl (Ev.pos (by omega) (Ev.pos (by omega) (Ev.some_ (by simp))))))
end Go.Proofs.Ytjgfdhkphmhbcaa.Pure
