/- A neighbour of whom the next hellos, two and more, do not come is none any more; behind sixteen its history is empty. -/
import Derived.Test.YtchmcmioilmnpaaLxqNeighLost
import Derived.Test.YtchmcmioilmnpaaNeighPlain
namespace Go.Proofs.Ytchmcmioilmnpaa.Pure
open Go Go.RowKit Go.Proofs.Ytchmcmioilmnpaa.L Go.Proofs.YtchmcmioilmnpaaW.PrintWords Go.Proofs.YtchmcmioilmnpaaW.PrintMore Go.Proofs.YtchmcmioilmnpaaPlain Go.Proofs.YtchmcmioilmnpaaBits Go.Proofs.Ytchmcmioilmnpaa.NeighPlain

theorem lost_l1 (x : Nat) (hx2 : 2 ≤ x) (hx : x ≤ 100) : ∀ (n i : Nat) (h nx : Int) (any : Bool) (told : Int), i + n = x → G h any → told ≤ 65535 → h * 2 ^ i ≤ 65535 →
    Ev (fun k => octroilaw11_NeighLost.l1 k (x : Int) (i : Int) h nx any told) true := by
  intro n
  induction n with
  | zero =>
    intro i h nx any told hi g ht hp
    have hix : i = x := by omega
    subst hix
    have hq : h < 16384 := by
      have h4 : (4 : Int) ≤ 2 ^ i := by
        obtain ⟨j, rfl⟩ : ∃ j, i = 2 + j := ⟨i - 2, by omega⟩
        rw [Int.pow_add]
        have : (0 : Int) < 2 ^ j := Int.pow_pos (by omega)
        omega
      have := Int.mul_le_mul_of_nonneg_left h4 g.lo
      omega
    have hr : rxS h = 65535 := by unfold rxS; rw [if_neg (by omega)]
    refine Ev.step (fun k => by simp only [octroilaw11_NeighLost.l1]; rw [if_neg (by omega)]) ?_
    refine Ev.bndc _ (Cost_eq g.lo g.hi nx any told) ?_
    refine Ev.pos ?_ ?_
    · show mx (rxS h) told = 65535
      rw [hr]; unfold mx; split <;> omega
    refine Ev.bndc _ (Rx_eq g.lo g.hi nx any told) ?_
    refine Ev.pos hr ?_
    refine Ev.ite (fun _ => Ev.now _) (fun h16 => ?_)
    refine Ev.bndc (h, h, nx, any, told) rfl ?_
    refine Ev.some_ ?_
    have : h = 0 := by
      have h4 : (65536 : Int) ≤ 2 ^ i := by
        obtain ⟨j, rfl⟩ : ∃ j, i = 16 + j := ⟨i - 16, by omega⟩
        rw [Int.pow_add]
        have : (0 : Int) < 2 ^ j := Int.pow_pos (by omega)
        omega
      have := Int.mul_le_mul_of_nonneg_left h4 g.lo
      have := g.lo
      omega
    rw [this]
    rfl
  | succ n ih =>
    intro i h nx any told hi g ht hp
    refine Ev.step (fun k => by simp only [octroilaw11_NeighLost.l1]; rw [if_pos (by omega), wrap64_nat i (by omega)]) ?_
    refine Ev.bndc _ (Miss_eq h nx any told) ?_
    refine ih (i + 1) _ _ any told (by omega) g.miss ht ?_
    cases ha : any
    · have := g.off ha
      rw [if_neg (by simp), this]
      omega
    · rw [if_pos rfl, Int.pow_succ]
      have h2 : h / 2 * (2 ^ i * 2) = (h / 2 * 2) * 2 ^ i := by rw [Int.mul_comm (2 ^ i) 2, Int.mul_assoc]
      rw [h2]
      have hle : h / 2 * 2 ≤ h := by omega
      have : (0 : Int) < 2 ^ i := Int.pow_pos (by omega)
      exact Int.le_trans (Int.mul_le_mul_of_nonneg_right hle (by omega)) hp

theorem lost_l0 (l : List S29) (hl : l.length ≤ 200) (x : Nat) (hx2 : 2 ≤ x) (hx : x ≤ 100) : ∀ (n i : Nat) (h nx : Int) (any : Bool) (told : Int), i + n = l.length → G h any → told ≤ 65535 →
    Ev (fun k => octroilaw11_NeighLost.l0 k l (x : Int) (i : Int) h nx any told) true := by
  intro n
  induction n with
  | zero =>
    intro i h nx any told hi g ht
    refine Ev.step (fun k => by simp only [octroilaw11_NeighLost.l0]; rw [if_neg (by omega)]) ?_
    exact lost_l1 x hx2 hx x 0 h nx any told (by omega) g ht (by have := g.hi; omega)
  | succ n ih =>
    intro i h nx any told hi g ht
    refine Ev.step (fun k => by simp only [octroilaw11_NeighLost.l0]; rw [if_pos (by omega), if_pos (by omega), wrap64_nat i (by omega)]) ?_
    refine Ev.ite (fun _ => ?_) (fun _ => ?_)
    · refine Ev.bnd _ (Hello_ev g.lo g.hi nx any told _) ?_
      exact ih (i + 1) _ _ true told (by omega) (g.hello _ _) ht
    · refine Ev.bndc _ rfl ?_
      exact ih (i + 1) h nx any _ (by omega) g (by show mx 0 (mn _ 65535) ≤ 65535; unfold mx mn; split <;> split at * <;> omega)

theorem lost_up (l : List S29) (a b c : Int) (d : Bool) (e : Int) : Ev (fun k => octroilaw11_NeighLost.j0 k l a true true b c d e) true :=
  Ev.step (f := fun _ => some true) (fun k => by simp [octroilaw11_NeighLost.j0]) (Ev.now _)

theorem NeighLost : octroilaw11_NeighLost.Pure := by
  intro l x _ _ _
  apply Ev.rounds
  unfold octroilaw11_NeighLost.f
  refine Ev.bnd _ awake_ev ?_
  refine Ev.bndc (0, 0, false, 65535) rfl ?_
  refine Ev.pos rfl ?_
  refine Ev.ite (fun _ => lost_up ..) (fun h1 => ?_)
  refine Ev.ite (fun _ => lost_up ..) (fun h2 => ?_)
  by_cases h3 : x > 100
  · rw [decide_eq_true h3]; exact lost_up ..
  rw [decide_eq_false h3]
  obtain ⟨n, rfl⟩ := Int.eq_ofNat_of_zero_le (show 0 ≤ x by omega)
  refine Ev.step (fun k => by simp only [octroilaw11_NeighLost.j0]; rw [if_neg (by simp)]) ?_
  exact lost_l0 l (by omega) n (by omega) (by omega) l.length 0 0 0 false 65535 (by omega) ⟨by omega, by omega, fun _ => rfl⟩ (by omega)
end Go.Proofs.Ytchmcmioilmnpaa.Pure
