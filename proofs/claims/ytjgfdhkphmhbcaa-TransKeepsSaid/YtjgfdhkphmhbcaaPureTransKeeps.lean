/- By a translation that may be a lesser metric becomes no greater one, as long as a band tells both; what comes out may be (at most 100 bands). -/
import Derived.Test.YtjgfdhkphmhbcaaLxqTransKeeps
import Derived.Test.YtjgfdhkphmhbcaaTransMore
namespace Go.Proofs.Ytjgfdhkphmhbcaa.Pure
open Go Go.RowKit Go.Proofs.Ytjgfdhkphmhbcaa.L Go.Proofs.YtjgfdhkphmhbcaaW.PrintWords Go.Proofs.YtjgfdhkphmhbcaaPlain Go.Proofs.Ytjgfdhkphmhbcaa.TransPlain

theorem keeps_up (l : List S30) (a b : Int) : Ev (fun k => octroilaw14_TransKeeps.j0 k l a b true true) true :=
  Ev.step (f := fun _ => some true) (fun k => by simp [octroilaw14_TransKeeps.j0]) (Ev.now _)

theorem TransKeeps : octroilaw14_TransKeeps.Pure := by
  intro l a b hl _ _ _
  apply Ev.rounds
  unfold octroilaw14_TransKeeps.f
  refine Ev.bnd _ awake_ev ?_
  refine Ev.pos rfl ?_
  refine Ev.ite (fun _ => keeps_up _ _ _) (fun _ => ?_)
  refine Ev.ite (fun _ => keeps_up _ _ _) (fun h0 => ?_)
  by_cases hab : a > b
  · rw [decide_eq_true hab]; exact keeps_up _ _ _
  rw [decide_eq_false hab]
  refine Ev.step (fun k => by simp only [octroilaw14_TransKeeps.j0]; rw [if_neg (by simp)]) ?_
  refine Ev.bnd _ (May_ev l hl) ?_
  refine Ev.ite (fun hm => ?_) (fun _ => Ev.now _)
  refine Ev.bnd _ (To_ev l hl 0 a) ?_
  refine Ev.bnd _ (To_ev l hl 0 b) ?_
  have hm' := mayS_parts hm
  have e1 : toS l 0 a = toR 0 a l := by unfold toS; rw [if_neg h0]
  have e2 : toS l 0 b = toR 0 b l := by unfold toS; rw [if_neg (by omega)]
  rw [e1, e2]
  refine Ev.ite (fun hq => ?_) (fun _ => Ev.now _)
  obtain ⟨k1, k2⟩ := toR_keeps a b (by omega) l _ _ hm' hq
  obtain ⟨_, l1, _⟩ := toR_low a l _ _ hm' k1
  obtain ⟨_, _, l2⟩ := toR_low b l _ _ hm' hq
  refine Ev.pos k1 (Ev.pos k2 (Ev.pos l1 (Ev.some_ ?_)))
  exact decide_eq_true l2
end Go.Proofs.Ytjgfdhkphmhbcaa.Pure
