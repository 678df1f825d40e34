/- What no band tells becomes the seed, if that may be; what a band tells does not hang on it (at most 100 bands). -/
import Derived.Test.YtjgfdhkphmhbcaaLxqTransSeeds
import Derived.Test.YtjgfdhkphmhbcaaTransMore
namespace Go.Proofs.Ytjgfdhkphmhbcaa.Pure
open Go Go.RowKit Go.Proofs.Ytjgfdhkphmhbcaa.L Go.Proofs.YtjgfdhkphmhbcaaW.PrintWords Go.Proofs.YtjgfdhkphmhbcaaPlain Go.Proofs.Ytjgfdhkphmhbcaa.TransPlain

theorem seeds_up (l : List S30) (a b n : Int) : Ev (fun k => octroilaw14_TransSeeds.j0 k l a b n true true) true :=
  Ev.step (f := fun _ => some true) (fun k => by simp [octroilaw14_TransSeeds.j0]) (Ev.now _)

theorem TransSeeds : octroilaw14_TransSeeds.Pure := by
  intro l a b n hl _ _ _ _
  apply Ev.rounds
  unfold octroilaw14_TransSeeds.f
  refine Ev.bnd _ awake_ev ?_
  refine Ev.pos rfl ?_
  refine Ev.ite (fun _ => seeds_up _ _ _ _) (fun _ => ?_)
  by_cases hn : n < 0
  · rw [decide_eq_true hn]; exact seeds_up _ _ _ _
  rw [decide_eq_false hn]
  refine Ev.step (fun k => by simp only [octroilaw14_TransSeeds.j0]; rw [if_neg (by simp)]) ?_
  refine Ev.bnd _ (To_ev l hl a n) ?_
  refine Ev.bnd _ (To_ev l hl b n) ?_
  refine Ev.bnd _ (To_ev l hl 0 n) ?_
  have e : ∀ s, toS l s n = toR s n l := fun s => by unfold toS; rw [if_neg hn]
  rw [e, e, e]
  rcases toR_told n l with ⟨v, h⟩ | h
  · rw [h, h, h]
    refine Ev.pos rfl (Ev.pos rfl (Ev.pos rfl (Ev.some_ (by simp))))
  · rw [h, h, h]
    refine Ev.const ?_
    by_cases h1 : a ≥ 1 <;> by_cases h2 : a < 4294967295 <;> by_cases h3 : b ≥ 1 <;> by_cases h4 : b < 4294967295 <;>
      simp [fitsB, h1, h2, h3, h4] <;> omega
end Go.Proofs.Ytjgfdhkphmhbcaa.Pure
