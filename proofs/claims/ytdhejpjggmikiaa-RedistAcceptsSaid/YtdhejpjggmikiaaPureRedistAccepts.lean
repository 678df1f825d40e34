/- Whether any route may be heard in any domain, and what a default route is, is what the document says. -/
import Derived.Test.YtdhejpjggmikiaaLxqRedistAccepts
import Derived.Test.YtdhejpjggmikiaaRedistRef
namespace Go.Proofs.Ytdhejpjggmikiaa.Pure
open Go Go.RowKit Go.Proofs.Ytdhejpjggmikiaa.L Go.Proofs.YtdhejpjggmikiaaW.PrintWords Go.Proofs.YtdhejpjggmikiaaPlain Go.Proofs.YtdhejpjggmikiaaBits Go.Proofs.Ytdhejpjggmikiaa.RedistPlain
open Go.Proofs.Ytdhejpjggmikiaa.TagsPlain (hasB Has_eq RefHas_ev)

def accS (d : Int) (T : BitVec 16) : Int := if isD d = true then if hasB T d = true then 6 else 0 else 1
theorem Accept_ev (d : Int) (a b c e f g : Int) (T : BitVec 16) : Ev (fun _ => redist_Accept.f d a b c e f g T.toNat) (accS d T) := by
  unfold redist_Accept.f accS
  refine Ev.bndc _ (RedistPlain.is_eq d) ?_
  refine Ev.ite (fun h => ?_) (fun h => Ev.some_ (by rw [if_neg h]))
  rw [if_pos h]
  refine Ev.bndc _ (Has_eq T d) ?_
  exact Ev.ite (fun h => Ev.some_ (by rw [if_pos h])) (fun h => Ev.some_ (by rw [if_neg h]))
theorem RefAccept_ev (d : Int) (a b c e f g : Int) (T : BitVec 16) : Ev (fun k => octroiref15_Accept.f k d a b c e f g T.toNat) (accS d T) := by
  unfold octroiref15_Accept.f accS
  refine Ev.bndc _ (Refis_eq d) ?_
  refine Ev.ite (fun h => ?_) (fun h => Ev.some_ (by rw [if_neg h]))
  rw [if_pos h]
  refine Ev.bnd _ (RefHas_ev T d) ?_
  exact Ev.ite (fun h => Ev.some_ (by rw [if_pos h])) (fun h => Ev.some_ (by rw [if_neg h]))

def defS (d m : Int) (k : Bool) : Int × Int × Int × Int × Int × Int × Int × Bool :=
  if (k && isD d) = true ∧ ¬ m < 1 ∧ ¬ m ≥ 4294967295 then (0, 0, d, 0, m, 0, 0, true) else (0, 0, 0, 0, 0, 0, 0, false)
theorem Default_eq (d m : Int) (k : Bool) : redist_Default.f d m k = some (defS d m k) := by
  unfold redist_Default.f defS
  rw [RedistPlain.is_eq]
  cases k <;> cases isD d <;> by_cases h1 : m < 1 <;> by_cases h2 : m ≥ 4294967295 <;> simp [h1, h2] <;> omega
theorem RefDefault_eq (d m : Int) (k : Bool) : octroiref15_Default.f d m k = some (defS d m k) := by
  unfold octroiref15_Default.f defS
  rw [Refis_eq]
  cases k <;> cases isD d <;> by_cases h1 : m < 1 <;> by_cases h2 : m ≥ 4294967295 <;> simp [h1, h2] <;> omega

theorem RedistAccepts : octroilaw15_RedistAccepts.Pure := by
  intro d a m dom dist met nxt t v known _ ha _ _ _ _ _ ht _
  obtain ⟨P, rfl⟩ := addr_of ha
  obtain ⟨T, rfl⟩ := tag_of ht
  apply Ev.rounds
  unfold octroilaw15_RedistAccepts.f
  refine Ev.bnd _ RedistPlain.awake_ev ?_
  refine Ev.bndc _ (Default_eq d v known) ?_
  refine Ev.bndc _ (RefDefault_eq d v known) ?_
  refine Ev.pos rfl ?_
  refine Ev.bnd _ (Accept_ev d _ _ _ _ _ _ T) ?_
  refine Ev.bnd _ (RefAccept_ev d _ _ _ _ _ _ T) ?_
  refine Ev.pos rfl (Ev.pos (by simp) (Ev.some_ (by simp)))
end Go.Proofs.Ytdhejpjggmikiaa.Pure
