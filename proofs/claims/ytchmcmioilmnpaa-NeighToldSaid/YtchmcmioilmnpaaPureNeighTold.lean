/- A link costs nothing less than what the other one has told, nor than what it costs to hear it; as long as nothing is told it is none. -/
import Derived.Test.YtchmcmioilmnpaaLxqNeighTold
import Derived.Test.YtchmcmioilmnpaaNeighPlain
namespace Go.Proofs.Ytchmcmioilmnpaa.Pure
open Go Go.RowKit Go.Proofs.Ytchmcmioilmnpaa.L Go.Proofs.YtchmcmioilmnpaaW.PrintWords Go.Proofs.YtchmcmioilmnpaaW.PrintMore Go.Proofs.YtchmcmioilmnpaaPlain Go.Proofs.YtchmcmioilmnpaaBits Go.Proofs.Ytchmcmioilmnpaa.NeighPlain

theorem rx_range (h : Int) : 96 ≤ rxS h ∧ rxS h ≤ 65535 := by unfold rxS; split <;> omega
theorem told_l0 (l : List S29) (hl : l.length ≤ 200) (cost : Int) : ∀ (n i : Nat) (h nx : Int) (any : Bool), i + n = l.length → G h any →
    Ev (fun k => octroilaw11_NeighTold.l0 k l cost (i : Int) h nx any 65535) true := by
  intro n
  induction n with
  | zero =>
    intro i h nx any hi g
    refine Ev.step (fun k => by simp only [octroilaw11_NeighTold.l0]; rw [if_neg (by omega)]) ?_
    have hr := rx_range h
    have ht : 0 ≤ mx 0 (mn cost 65535) ∧ mx 0 (mn cost 65535) ≤ 65535 ∧ (0 ≤ cost → cost ≤ 65535 → mx 0 (mn cost 65535) = cost) := by
      unfold mx mn; split <;> split at * <;> omega
    refine Ev.bndc _ (Cost_eq g.lo g.hi nx any 65535) ?_
    refine Ev.pos ?_ ?_
    · show mx (rxS h) 65535 = 65535
      unfold mx; split <;> omega
    refine Ev.bndc (h, h, nx, any, 65535) rfl ?_
    refine Ev.bndc (h, nx, any, mx 0 (mn cost 65535)) rfl ?_
    generalize mx 0 (mn cost 65535) = t at ht
    refine Ev.bndc _ (Cost_eq g.lo g.hi nx any t) ?_
    refine Ev.bndc (h, h, nx, any, t) rfl ?_
    refine Ev.pos rfl ?_
    refine Ev.bndc _ (Rx_eq g.lo g.hi nx any t) ?_
    have hm : rxS h ≤ mx (rxS h) t ∧ t ≤ mx (rxS h) t ∧ mx (rxS h) t ≤ 65535 := by unfold mx; split <;> omega
    refine Ev.pos hm.1 (Ev.pos hm.2.2 ?_)
    refine Ev.ite (fun _ => Ev.now _) (fun c1 => ?_)
    refine Ev.ite (fun _ => Ev.now _) (fun c2 => ?_)
    have := ht.2.2 (by omega) (by omega)
    exact Ev.some_ (decide_eq_true (by show mx (rxS h) t ≥ cost; omega))
  | succ n ih =>
    intro i h nx any hi g
    refine Ev.step (fun k => by simp only [octroilaw11_NeighTold.l0]; rw [if_pos (by omega), if_pos (by omega), wrap64_nat i (by omega)]) ?_
    refine Ev.ite (fun c0 => ?_) (fun c0 => ?_)
    · refine Ev.bnd _ (Hello_ev g.lo g.hi nx any 65535 _) ?_
      refine Ev.neg (by omega) ?_
      exact ih (i + 1) _ _ true (by omega) (g.hello _ _)
    · refine Ev.ite (fun c1 => ?_) (fun c1 => ?_)
      · refine Ev.bndc _ (Miss_eq h nx any 65535) ?_
        exact ih (i + 1) _ _ any (by omega) g.miss
      · exact ih (i + 1) h nx any (by omega) g

theorem NeighTold : octroilaw11_NeighTold.Pure := by
  intro l cost _ _ _
  apply Ev.rounds
  unfold octroilaw11_NeighTold.f
  refine Ev.bnd _ awake_ev ?_
  refine Ev.bndc (0, 0, false, 65535) rfl ?_
  refine Ev.pos rfl ?_
  by_cases h3 : (l.length : Int) > 200
  · rw [decide_eq_true h3]
    exact Ev.step (f := fun _ => some true) (fun k => by simp [octroilaw11_NeighTold.j0]) (Ev.now _)
  rw [decide_eq_false h3]
  refine Ev.step (fun k => by simp only [octroilaw11_NeighTold.j0]; rw [if_neg (by simp)]) ?_
  exact told_l0 l (by omega) cost l.length 0 0 0 false (by omega) ⟨by omega, by omega, fun _ => rfl⟩
end Go.Proofs.Ytchmcmioilmnpaa.Pure
