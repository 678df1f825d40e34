/- A hello whose number is far from what is expected is as the first one of all. -/
import Derived.Test.YtchmcmioilmnpaaLxqNeighFar
import Derived.Test.YtchmcmioilmnpaaNeighPlain
namespace Go.Proofs.Ytchmcmioilmnpaa.Pure
open Go Go.RowKit Go.Proofs.Ytchmcmioilmnpaa.L Go.Proofs.YtchmcmioilmnpaaW.PrintWords Go.Proofs.YtchmcmioilmnpaaW.PrintMore Go.Proofs.YtchmcmioilmnpaaPlain Go.Proofs.YtchmcmioilmnpaaBits Go.Proofs.Ytchmcmioilmnpaa.NeighPlain

theorem far_end (y seq : Int) : helloH y (IntKind.u16.wrap (seq + 1)) true (IntKind.u16.wrap (seq + 32768)) = 32768 := by
  unfold helloH baseH
  have e1 : IntKind.u16.wrap (IntKind.u16.wrap (seq + 32768) - IntKind.u16.wrap (seq + 1)) = 32767 := by rw [wrap16_mod, wrap16_mod, wrap16_mod]; omega
  have e2 : IntKind.u16.wrap (IntKind.u16.wrap (seq + 1) - IntKind.u16.wrap (seq + 32768)) = 32769 := by rw [wrap16_mod, wrap16_mod, wrap16_mod]; omega
  rw [e1, e2, if_pos rfl, if_neg (by omega), if_neg (by omega)]
  rfl
theorem far_l0 (l : List S29) (hl : l.length ≤ 200) (seq : Int) : ∀ (n i : Nat) (h nx : Int) (any : Bool) (told : Int), i + n = l.length → G h any →
    Ev (fun k => octroilaw11_NeighFar.l0 k l seq (i : Int) h nx any told) true := by
  intro n
  induction n with
  | zero =>
    intro i h nx any told hi g
    refine Ev.step (fun k => by simp only [octroilaw11_NeighFar.l0]; rw [if_neg (by omega)]) ?_
    refine Ev.bnd _ (Hello_ev g.lo g.hi nx any told seq) ?_
    have hr := hello_range g.lo g.hi nx any seq
    generalize helloH h nx any seq = y at hr
    refine Ev.bnd _ (Hello_ev (h := y) (by omega) (by omega) (IntKind.u16.wrap (seq + 1)) true told (IntKind.u16.wrap (seq + 32768))) ?_
    rw [far_end y seq]
    generalize IntKind.u16.wrap (IntKind.u16.wrap (seq + 32768) + 1) = z
    refine Ev.bndc (32768, 32768, z, true, told) rfl ?_
    refine Ev.pos rfl ?_
    refine Ev.bndc _ (Rx_eq (h := 32768) (by omega) (by omega) z true told) ?_
    exact Ev.some_ rfl
  | succ n ih =>
    intro i h nx any told hi g
    refine Ev.step (fun k => by simp only [octroilaw11_NeighFar.l0]; rw [if_pos (by omega), if_pos (by omega), wrap64_nat i (by omega)]) ?_
    refine Ev.ite (fun c1 => ?_) (fun c1 => ?_)
    · refine Ev.bnd _ (Hello_ev g.lo g.hi nx any told _) ?_
      exact ih (i + 1) _ _ true told (by omega) (g.hello _ _)
    · exact ih (i + 1) h nx any told (by omega) g

theorem NeighFar : octroilaw11_NeighFar.Pure := by
  intro l seq _ _ _
  apply Ev.rounds
  unfold octroilaw11_NeighFar.f
  refine Ev.bnd _ awake_ev ?_
  refine Ev.bndc (0, 0, false, 65535) rfl ?_
  refine Ev.pos rfl ?_
  by_cases h3 : (l.length : Int) > 200
  · rw [decide_eq_true h3]
    exact Ev.step (f := fun _ => some true) (fun k => by simp [octroilaw11_NeighFar.j0]) (Ev.now _)
  rw [decide_eq_false h3]
  refine Ev.step (fun k => by simp only [octroilaw11_NeighFar.j0]; rw [if_neg (by simp)]) ?_
  exact far_l0 l (by omega) seq l.length 0 0 0 false 65535 (by omega) ⟨by omega, by omega, fun _ => rfl⟩
end Go.Proofs.Ytchmcmioilmnpaa.Pure
