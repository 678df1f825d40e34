/- The translation's functions (trans, octroiref14): what they come to, without rounds. -/
import Derived.Test.YtdhejpjggmikiaaLx5
import Derived.Test.YtdhejpjggmikiaaLx4
import Derived.Test.YtdhejpjggmikiaaPlain
namespace Go.Proofs.Ytdhejpjggmikiaa.TransPlain
open Go Go.RowKit Go.Proofs.Ytdhejpjggmikiaa.L Go.Proofs.YtdhejpjggmikiaaW.PrintWords Go.Proofs.YtdhejpjggmikiaaPlain

def fitsB (n : Int) : Bool := decide (1 ≤ n) && decide (n < 4294967295)
theorem fits_eq (n : Int) : trans_fits.f n = some (fitsB n) := by
  unfold trans_fits.f fitsB
  by_cases h : n ≥ 1
  · rw [if_pos h]; simp [h]
  · rw [if_neg h]; simp [h]

def toR (seed n : Int) : List S64 → Int × Bool
  | [] => if fitsB seed = true then (seed, true) else (0, false)
  | b :: r => if b.f0 < n then toR seed n r else (b.f1, true)
def toS (l : List S64) (seed n : Int) : Int × Bool := if n < 0 then (0, false) else toR seed n l

theorem To_l0 (l : List S64) (hl : l.length ≤ maxLen) (seed n : Int) : ∀ (r : List S64) (i : Nat), l.drop i = r → i ≤ l.length → Ev (fun k => trans_To.l0 k l seed n i) (toR seed n r) := by
  intro r
  induction r with
  | nil =>
    intro i h hi
    have := drop_nil h hi
    refine Ev.step (f := fun k => trans_To.j1 k l seed n i false) (fun k => by simp only [trans_To.l0]; rw [if_neg (by omega)]) ?_
    refine Ev.step (f := fun k => some (toR seed n [])) (fun k => ?_) (Ev.now _)
    simp only [trans_To.j1]
    rw [if_neg (by simp), if_neg (by omega), fits_eq]
    simp only [Option.bind_some, toR]
    cases fitsB seed <;> simp
  | cons b r ih =>
    intro i h hi
    obtain ⟨hlt, hr, hb⟩ := drop_cons h
    have hb' : rd_T64 l i = b := hb z64
    refine Ev.step (f := fun k => trans_To.j1 k l seed n i (decide (b.f0 < n))) (fun k => by simp only [trans_To.l0]; rw [if_pos (by omega), if_pos (by omega), hb']) ?_
    by_cases hc : b.f0 < n
    · refine Ev.step (f := fun k => trans_To.l0 k l seed n ((i + 1 : Nat) : Int)) (fun k => ?_) ?_
      · simp only [trans_To.j1]
        rw [if_pos (by simp [hc]), wrap64_nat i (by unfold maxLen at hl; omega)]
      · simp only [toR, if_pos hc]
        exact ih (i + 1) hr (by omega)
    · refine Ev.step (f := fun k => some (toR seed n (b :: r))) (fun k => ?_) (Ev.now _)
      simp only [trans_To.j1, toR, if_neg hc]
      rw [if_neg (by simp [hc]), if_pos (by omega), if_pos (by omega), hb']

theorem To_ev (l : List S64) (hl : l.length ≤ maxLen) (seed n : Int) : Ev (fun k => trans_To.f k l seed n) (toS l seed n) := by
  unfold toS trans_To.f
  by_cases h : n < 0
  · simp only [if_pos h]; exact Ev.now _
  · simp only [if_neg h]; exact To_l0 l hl seed n l 0 rfl (by omega)

def mayR (u m : Int) : List S64 → Bool
  | [] => true
  | b :: r => decide (u < b.f0) && decide (b.f0 ≤ 4294967295) && decide (m ≤ b.f1) && fitsB b.f1 && mayR b.f0 b.f1 r
def mayS (l : List S64) : Bool := mayR (-1) 1 l && decide (l.length ≤ 32)

theorem May_l0 (l : List S64) (hl : l.length ≤ maxLen) : ∀ (r : List S64) (i : Nat) (u m : Int), l.drop i = r → i ≤ l.length → Ev (fun k => trans_May.l0 k l l (l.length : Int) i u m) (mayR u m r && decide (l.length ≤ 32)) := by
  intro r
  induction r with
  | nil =>
    intro i u m h hi
    have := drop_nil h hi
    refine Ev.step (f := fun k => some (decide ((l.length : Int) ≤ 32))) (fun k => by simp only [trans_May.l0]; rw [if_neg (by omega)]) ?_
    exact Ev.some_ (by simp [mayR]; omega)
  | cons b r ih =>
    intro i u m h hi
    obtain ⟨hlt, hr, hb⟩ := drop_cons h
    have hb' : rd_T64 l i = b := hb z64
    by_cases h1 : b.f0 ≤ u
    · refine Ev.step (f := fun k => some false) (fun k => by simp only [trans_May.l0]; rw [if_pos (by omega), if_pos (by omega), if_pos (by omega), hb', if_pos h1]) ?_
      exact Ev.some_ (by simp [mayR]; intros; omega)
    by_cases h2 : b.f0 > 4294967295
    · refine Ev.step (f := fun k => some false) (fun k => by simp only [trans_May.l0]; rw [if_pos (by omega), if_pos (by omega), if_pos (by omega), hb', if_neg h1, if_pos h2]) ?_
      exact Ev.some_ (by simp [mayR]; intros; omega)
    by_cases h3 : b.f1 < m
    · refine Ev.step (f := fun k => some false) (fun k => by simp only [trans_May.l0]; rw [if_pos (by omega), if_pos (by omega), if_pos (by omega), hb', if_neg h1, if_neg h2, if_pos h3]) ?_
      exact Ev.some_ (by simp [mayR]; intros; omega)
    cases h4 : fitsB b.f1 with
    | false =>
      refine Ev.step (f := fun k => some false) (fun k => by simp only [trans_May.l0]; rw [if_pos (by omega), if_pos (by omega), if_pos (by omega), hb', if_neg h1, if_neg h2, if_neg h3, fits_eq, h4]; simp) ?_
      exact Ev.some_ (by simp [mayR, h4])
    | true =>
      refine Ev.step (f := fun k => trans_May.l0 k l l (l.length : Int) ((i + 1 : Nat) : Int) b.f0 b.f1) (fun k => ?_) ?_
      · simp only [trans_May.l0]
        rw [if_pos (by omega), if_pos (by omega), if_pos (by omega), hb', if_neg h1, if_neg h2, if_neg h3, fits_eq, h4, wrap64_nat i (by unfold maxLen at hl; omega)]
        simp
      · refine Ev.eq (ih (i + 1) b.f0 b.f1 hr (by omega)) ?_
        have e1 : decide (u < b.f0) = true := by simp; omega
        have e2 : decide (b.f0 ≤ 4294967295) = true := by simp; omega
        have e3 : decide (m ≤ b.f1) = true := by simp; omega
        simp only [mayR, h4, e1, e2, e3, Bool.true_and]

theorem May_ev (l : List S64) (hl : l.length ≤ maxLen) : Ev (fun k => trans_May.f k l) (mayS l) := May_l0 l hl l 0 (-1) 1 rfl (by omega)

end Go.Proofs.Ytdhejpjggmikiaa.TransPlain
