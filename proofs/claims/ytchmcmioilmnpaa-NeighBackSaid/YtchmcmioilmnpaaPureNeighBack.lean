/- Behind two hellos, one behind the other, a neighbour is heard; then a link costs what is told, or 96, if that is less. -/
import Derived.Test.YtchmcmioilmnpaaLxqNeighBack
import Derived.Test.YtchmcmioilmnpaaNeighPlain
namespace Go.Proofs.Ytchmcmioilmnpaa.Pure
open Go Go.RowKit Go.Proofs.Ytchmcmioilmnpaa.L Go.Proofs.YtchmcmioilmnpaaW.PrintWords Go.Proofs.YtchmcmioilmnpaaW.PrintMore Go.Proofs.YtchmcmioilmnpaaPlain Go.Proofs.YtchmcmioilmnpaaBits Go.Proofs.Ytchmcmioilmnpaa.NeighPlain

theorem back_end (h nx : Int) (any : Bool) (seq : Int) (g : G h any) : 49152 ≤ helloH (helloH h nx any seq) (IntKind.u16.wrap (seq + 1)) true (IntKind.u16.wrap (seq + 1)) ∧ helloH (helloH h nx any seq) (IntKind.u16.wrap (seq + 1)) true (IntKind.u16.wrap (seq + 1)) ≤ 65535 := by
  have h1 := hello_range g.lo g.hi nx any seq
  generalize helloH h nx any seq = y at h1
  unfold helloH baseH
  have e : IntKind.u16.wrap (IntKind.u16.wrap (seq + 1) - IntKind.u16.wrap (seq + 1)) = 0 := by rw [Int.sub_self]; rfl
  rw [e, if_pos rfl, if_pos (by omega)]
  simp only [Int.toNat_zero, Int.pow_zero, Int.ediv_one]
  omega
theorem back_l0 (l : List S29) (hl : l.length ≤ 200) (seq cost : Int) (hc0 : 0 ≤ cost) (hc : cost ≤ 65535) : ∀ (n i : Nat) (h nx : Int) (any : Bool) (told : Int), i + n = l.length → G h any →
    Ev (fun k => octroilaw11_NeighBack.l0 k l seq cost (i : Int) h nx any told) true := by
  intro n
  induction n with
  | zero =>
    intro i h nx any told hi g
    refine Ev.step (fun k => by simp only [octroilaw11_NeighBack.l0]; rw [if_neg (by omega)]) ?_
    refine Ev.bnd _ (Hello_ev g.lo g.hi nx any told seq) ?_
    have g1 := g.hello nx seq
    refine Ev.bnd _ (Hello_ev g1.lo g1.hi (IntKind.u16.wrap (seq + 1)) true told (IntKind.u16.wrap (seq + 1))) ?_
    obtain ⟨e1, e2⟩ := back_end h nx any seq g
    generalize helloH (helloH h nx any seq) (IntKind.u16.wrap (seq + 1)) true (IntKind.u16.wrap (seq + 1)) = y at e1 e2
    generalize IntKind.u16.wrap (IntKind.u16.wrap (seq + 1) + 1) = z
    have et : mx 0 (mn cost 65535) = cost := by unfold mx mn; split <;> split at * <;> omega
    have er : rxS y = 96 := by unfold rxS; rw [if_pos (by omega)]
    refine Ev.bndc (y, z, true, cost) (by unfold neigh_Neigh_Ihu.f; rw [et]) ?_
    refine Ev.ite (fun hw => ?_) (fun hw => ?_)
    · refine Ev.bndc _ (Rx_eq (by omega) e2 z true cost) ?_
      refine Ev.pos er ?_
      refine Ev.bndc _ (Cost_eq (by omega) e2 z true cost) ?_
      refine Ev.pos ?_ ?_
      · show mx (rxS y) cost = 96
        rw [er]; unfold mx; rw [if_neg (by omega)]
      refine Ev.bndc (y, y, z, true, cost) rfl ?_
      exact Ev.some_ (decide_eq_true e1)
    · refine Ev.bndc _ (Rx_eq (by omega) e2 z true cost) ?_
      refine Ev.pos er ?_
      refine Ev.bndc _ (Cost_eq (by omega) e2 z true cost) ?_
      refine Ev.pos ?_ ?_
      · show mx (rxS y) cost = cost
        rw [er]; unfold mx; split <;> omega
      refine Ev.bndc (y, y, z, true, cost) rfl ?_
      exact Ev.some_ (decide_eq_true e1)
  | succ n ih =>
    intro i h nx any told hi g
    refine Ev.step (fun k => by simp only [octroilaw11_NeighBack.l0]; rw [if_pos (by omega), if_pos (by omega), wrap64_nat i (by omega)]) ?_
    refine Ev.ite (fun c0 => ?_) (fun c0 => ?_)
    · refine Ev.bnd _ (Hello_ev g.lo g.hi nx any told _) ?_
      refine Ev.neg (by omega) ?_
      exact ih (i + 1) _ _ true told (by omega) (g.hello _ _)
    · refine Ev.ite (fun c1 => ?_) (fun c1 => ?_)
      · refine Ev.bndc _ (Miss_eq h nx any told) ?_
        exact ih (i + 1) _ _ any told (by omega) g.miss
      · exact ih (i + 1) h nx any told (by omega) g

theorem back_up (l : List S29) (a a' b c : Int) (d : Bool) (e : Int) : Ev (fun k => octroilaw11_NeighBack.j0 k l a a' true true b c d e) true :=
  Ev.step (f := fun _ => some true) (fun k => by simp [octroilaw11_NeighBack.j0]) (Ev.now _)

theorem NeighBack : octroilaw11_NeighBack.Pure := by
  intro l seq cost _ _ _ _
  apply Ev.rounds
  unfold octroilaw11_NeighBack.f
  refine Ev.bnd _ awake_ev ?_
  refine Ev.bndc (0, 0, false, 65535) rfl ?_
  refine Ev.pos rfl ?_
  refine Ev.ite (fun _ => back_up ..) (fun h1 => ?_)
  refine Ev.ite (fun _ => back_up ..) (fun h2 => ?_)
  by_cases h3 : cost > 65535
  · rw [decide_eq_true h3]; exact back_up ..
  rw [decide_eq_false h3]
  refine Ev.step (fun k => by simp only [octroilaw11_NeighBack.j0]; rw [if_neg (by simp)]) ?_
  exact back_l0 l (by omega) seq cost (by omega) (by omega) l.length 0 0 0 false 65535 (by omega) ⟨by omega, by omega, fun _ => rfl⟩
end Go.Proofs.Ytchmcmioilmnpaa.Pure
