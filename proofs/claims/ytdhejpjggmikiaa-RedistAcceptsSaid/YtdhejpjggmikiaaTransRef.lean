/- The reference's translations: what they come to, without rounds. -/
import Derived.Test.YtdhejpjggmikiaaLx10
import Derived.Test.YtdhejpjggmikiaaLx8
import Derived.Test.YtdhejpjggmikiaaTransPlain
namespace Go.Proofs.Ytdhejpjggmikiaa.TransPlain
open Go Go.RowKit Go.Proofs.Ytdhejpjggmikiaa.L Go.Proofs.YtdhejpjggmikiaaW.PrintWords Go.Proofs.YtdhejpjggmikiaaPlain

theorem RefTo_l0 (l : List S64) (hl : l.length ≤ maxLen) (seed n : Int) : ∀ (r : List S64) (i : Nat), l.drop i = r → i ≤ l.length → Ev (fun k => octroiref14_To.l0 k l seed n i) (toR seed n r) := by
  intro r
  induction r with
  | nil =>
    intro i h hi
    have := drop_nil h hi
    refine Ev.step (f := fun k => some (toR seed n [])) (fun k => ?_) (Ev.now _)
    simp only [octroiref14_To.l0, toR]
    rw [if_neg (by omega)]
    by_cases h1 : seed < 1
    · rw [if_pos h1, if_neg (by simp [fitsB]; omega)]
    · by_cases h2 : seed ≥ 4294967295
      · rw [if_neg h1, if_pos h2, if_neg (by simp [fitsB]; omega)]
      · rw [if_neg h1, if_neg h2, if_pos (by simp [fitsB]; omega)]
  | cons b r ih =>
    intro i h hi
    obtain ⟨hlt, hr, hb⟩ := drop_cons h
    have hb' : rd_T64 l i = b := hb z64
    by_cases hc : b.f0 < n
    · refine Ev.step (f := fun k => octroiref14_To.l0 k l seed n ((i + 1 : Nat) : Int)) (fun k => ?_) ?_
      · simp only [octroiref14_To.l0]
        rw [if_pos (by omega), if_pos (by omega), hb', if_neg (by omega), wrap64_nat i (by unfold maxLen at hl; omega)]
      · simp only [toR, if_pos hc]
        exact ih (i + 1) hr (by omega)
    · refine Ev.step (f := fun k => some (toR seed n (b :: r))) (fun k => ?_) (Ev.now _)
      simp only [octroiref14_To.l0, toR, if_neg hc]
      rw [if_pos (by omega), if_pos (by omega), hb', if_pos (by omega)]

theorem RefTo_ev (l : List S64) (hl : l.length ≤ maxLen) (seed n : Int) : Ev (fun k => octroiref14_To.f k l seed n) (toS l seed n) := by
  unfold toS octroiref14_To.f
  by_cases h : n < 0
  · simp only [if_pos h]; exact Ev.now _
  · simp only [if_neg h]; exact RefTo_l0 l hl seed n l 0 rfl (by omega)

theorem RefMay_l0 (l : List S64) (hl : l.length ≤ maxLen) : ∀ (r : List S64) (i : Nat) (u m : Int), l.drop i = r → i ≤ l.length → (i = 0 → u = -1 ∧ m = 1) → (0 < i → (rd_T64 l (((i - 1 : Nat)) : Int)).f0 = u ∧ (rd_T64 l (((i - 1 : Nat)) : Int)).f1 = m) → -1 ≤ u → 1 ≤ m →
    Ev (fun k => octroiref14_May.l0 k l i) (mayR u m r) := by
  intro r
  induction r with
  | nil =>
    intro i u m h hi _ _ _ _
    have := drop_nil h hi
    refine Ev.step (f := fun k => some true) (fun k => by simp only [octroiref14_May.l0]; rw [if_neg (by omega)]) ?_
    exact Ev.some_ (by simp [mayR])
  | cons b r ih =>
    intro i u m h hi h0 hp hu hm
    obtain ⟨hlt, hr, hb⟩ := drop_cons h
    have hb' : rd_T64 l i = b := hb z64
    have hj : ∀ k, octroiref14_May.j1 (k + 1) l i true = some false := fun k => by simp [octroiref14_May.j1]
    by_cases h1 : b.f0 < 0
    · refine Ev.step (f := fun k => octroiref14_May.j1 k l i true) (fun k => by simp only [octroiref14_May.l0]; rw [if_pos (by omega), if_pos (by omega), hb', if_pos h1]) ?_
      exact Ev.step (f := fun _ => some false) hj (Ev.some_ (by simp [mayR]; intros; omega))
    by_cases h2 : b.f0 > 4294967295
    · refine Ev.step (f := fun k => octroiref14_May.j1 k l i true) (fun k => by simp only [octroiref14_May.l0]; rw [if_pos (by omega), if_pos (by omega), hb', if_neg h1, if_pos h2]) ?_
      exact Ev.step (f := fun _ => some false) hj (Ev.some_ (by simp [mayR]; intros; omega))
    by_cases h3 : b.f1 < 1
    · refine Ev.step (f := fun k => octroiref14_May.j1 k l i true) (fun k => by simp only [octroiref14_May.l0]; rw [if_pos (by omega), if_pos (by omega), hb', if_neg h1, if_neg h2, if_pos h3]) ?_
      exact Ev.step (f := fun _ => some false) hj (Ev.some_ (by simp [mayR]; intros; omega))
    refine Ev.step (f := fun k => octroiref14_May.j1 k l i (decide (b.f1 ≥ 4294967295))) (fun k => by simp only [octroiref14_May.l0]; rw [if_pos (by omega), if_pos (by omega), hb', if_neg h1, if_neg h2, if_neg h3]) ?_
    by_cases h4 : b.f1 ≥ 4294967295
    · rw [decide_eq_true h4]
      exact Ev.step (f := fun _ => some false) hj (Ev.some_ (by simp [mayR, fitsB]; intros; omega))
    rw [decide_eq_false h4]
    have hnext : Ev (fun k => octroiref14_May.l0 k l ((i + 1 : Nat) : Int)) (mayR b.f0 b.f1 r) := by
      refine ih (i + 1) b.f0 b.f1 hr (by omega) (by omega) (fun _ => ?_) (by omega) (by omega)
      rw [show i + 1 - 1 = i by omega, hb']
      exact ⟨rfl, rfl⟩
    have e2 : decide (b.f0 ≤ 4294967295) = true := by simp; omega
    have e4 : fitsB b.f1 = true := by simp [fitsB]; omega
    by_cases hi0 : i = 0
    · obtain ⟨rfl, rfl⟩ := h0 hi0
      refine Ev.step (f := fun k => octroiref14_May.l0 k l ((i + 1 : Nat) : Int)) (fun k => ?_) ?_
      · simp only [octroiref14_May.j1]
        rw [if_neg (by simp), if_neg (by omega), wrap64_nat i (by unfold maxLen at hl; omega)]
      · refine Ev.eq hnext ?_
        have e1 : decide (-1 < b.f0) = true := by simp; omega
        have e3 : decide (1 ≤ b.f1) = true := by simp; omega
        simp only [mayR, e1, e2, e3, e4, Bool.true_and]
    · obtain ⟨hq1, hq2⟩ := hp (by omega)
      have hw : wrap64 ((i : Int) - 1) = ((i - 1 : Nat) : Int) := by
        rw [wrap64_id _ (by omega) (by unfold maxLen at hl; omega)]; omega
      by_cases h5 : u ≥ b.f0
      · refine Ev.step (f := fun k => some false) (fun k => ?_) (Ev.some_ (by simp [mayR]; intros; omega))
        simp only [octroiref14_May.j1]
        rw [if_neg (by simp), if_pos (by omega), hw, if_pos (by omega), if_pos (by omega), if_pos (by omega), if_pos (by omega), hb', hq1, if_pos h5]
      by_cases h6 : m > b.f1
      · refine Ev.step (f := fun k => some false) (fun k => ?_) (Ev.some_ (by simp [mayR]; intros; omega))
        simp only [octroiref14_May.j1]
        rw [if_neg (by simp), if_pos (by omega), hw, if_pos (by omega), if_pos (by omega), if_pos (by omega), if_pos (by omega), hb', hq1, if_neg h5, hq2, if_pos h6]
      refine Ev.step (f := fun k => octroiref14_May.l0 k l ((i + 1 : Nat) : Int)) (fun k => ?_) ?_
      · simp only [octroiref14_May.j1]
        rw [if_neg (by simp), if_pos (by omega), hw, if_pos (by omega), if_pos (by omega), if_pos (by omega), if_pos (by omega), hb', hq1, if_neg h5, hq2, if_neg h6, wrap64_nat i (by unfold maxLen at hl; omega)]
      · refine Ev.eq hnext ?_
        have e1 : decide (u < b.f0) = true := by simp; omega
        have e3 : decide (m ≤ b.f1) = true := by simp; omega
        simp only [mayR, e1, e2, e3, e4, Bool.true_and]

theorem RefMay_ev (l : List S64) (hl : l.length ≤ maxLen) : Ev (fun k => octroiref14_May.f k l) (mayS l) := by
  unfold octroiref14_May.f mayS
  by_cases h : (l.length : Int) > 32
  · simp only [if_pos h]
    exact Ev.some_ (by simp; omega)
  · simp only [if_neg h]
    refine Ev.eq (RefMay_l0 l hl l 0 (-1) 1 rfl (by omega) (fun _ => ⟨rfl, rfl⟩) (by omega) (by omega) (by omega)) ?_
    have : decide (l.length ≤ 32) = true := by simp; omega
    rw [this, Bool.and_true]

end Go.Proofs.Ytdhejpjggmikiaa.TransPlain
