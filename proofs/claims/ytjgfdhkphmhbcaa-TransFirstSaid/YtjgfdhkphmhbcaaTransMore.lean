/- Plain facts about translations: what a metric becomes, as the bands rise. -/
import Derived.Test.YtjgfdhkphmhbcaaTransPlain
namespace Go.Proofs.Ytjgfdhkphmhbcaa.TransPlain
open Go Go.RowKit Go.Proofs.Ytjgfdhkphmhbcaa.L Go.Proofs.YtjgfdhkphmhbcaaW.PrintWords Go.Proofs.YtjgfdhkphmhbcaaPlain

theorem mayR_cons {u m : Int} {b : S30} {r : List S30} (h : mayR u m (b :: r) = true) : u < b.f0 ∧ b.f0 ≤ 4294967295 ∧ m ≤ b.f1 ∧ 1 ≤ b.f1 ∧ b.f1 < 4294967295 ∧ mayR b.f0 b.f1 r = true := by
  simp only [mayR, fitsB, Bool.and_eq_true, decide_eq_true_eq] at h
  exact ⟨h.1.1.1.1, h.1.1.1.2, h.1.1.2, h.1.2.1, h.1.2.2, h.2⟩

theorem toR_low (n : Int) : ∀ (l : List S30) (u m : Int), mayR u m l = true → (toR 0 n l).2 = true → m ≤ (toR 0 n l).1 ∧ (1 ≤ (toR 0 n l).1 ∧ (toR 0 n l).1 < 4294967295) := by
  intro l
  induction l with
  | nil => intro u m _ h; simp [toR, fitsB] at h
  | cons b r ih =>
    intro u m hm h
    obtain ⟨h1, h2, h3, h4, h5, h6⟩ := mayR_cons hm
    by_cases hc : b.f0 < n
    · simp only [toR, if_pos hc] at h ⊢
      obtain ⟨g1, g2⟩ := ih _ _ h6 h
      exact ⟨by omega, g2⟩
    · simp only [toR, if_neg hc] at h ⊢
      exact ⟨h3, h4, h5⟩

theorem toR_keeps (a b : Int) (hab : a ≤ b) : ∀ (l : List S30) (u m : Int), mayR u m l = true → (toR 0 b l).2 = true → (toR 0 a l).2 = true ∧ (toR 0 a l).1 ≤ (toR 0 b l).1 := by
  intro l
  induction l with
  | nil => intro u m _ h; simp [toR, fitsB] at h
  | cons c r ih =>
    intro u m hm h
    obtain ⟨h1, h2, h3, h4, h5, h6⟩ := mayR_cons hm
    by_cases hc : c.f0 < a
    · have hc' : c.f0 < b := by omega
      simp only [toR, if_pos hc, if_pos hc'] at h ⊢
      exact ih _ _ h6 h
    · by_cases hc' : c.f0 < b
      · simp only [toR, if_neg hc, if_pos hc'] at h ⊢
        exact ⟨trivial, (toR_low b r _ _ h6 h).1⟩
      · simp only [toR, if_neg hc, if_neg hc']
        exact ⟨trivial, Int.le_refl _⟩

theorem toR_told (n : Int) : ∀ (l : List S30), (∃ v, ∀ s, toR s n l = (v, true)) ∨ ∀ s, toR s n l = if fitsB s = true then (s, true) else (0, false) := by
  intro l
  induction l with
  | nil => right; intro s; rfl
  | cons b r ih =>
    by_cases hc : b.f0 < n
    · simp only [toR, if_pos hc]; exact ih
    · left; exact ⟨b.f1, fun s => by simp only [toR, if_neg hc]⟩

theorem mayR_above : ∀ (l : List S30) (u m : Int), mayR u m l = true → ∀ b ∈ l, u < b.f0 ∧ b.f0 ≤ 4294967295 := by
  intro l
  induction l with
  | nil => intro u m _ b hb; simp at hb
  | cons c r ih =>
    intro u m hm b hb
    obtain ⟨h1, h2, _, _, _, h6⟩ := mayR_cons hm
    rcases List.mem_cons.1 hb with rfl | hb
    · exact ⟨h1, h2⟩
    · have := ih _ _ h6 b hb
      omega

theorem toR_at : ∀ (l : List S30) (u m : Int), mayR u m l = true → ∀ (k : Nat) (hk : k < l.length),
    toR 0 (l[k].f0) l = (l[k].f1, true) ∧ (k + 1 = l.length → toR 0 (l[k].f0 + 1) l = (0, false)) ∧ ∀ hk' : k + 1 < l.length, toR 0 (l[k].f0 + 1) l = (l[k + 1].f1, true) := by
  intro l
  induction l with
  | nil => intro u m _ k hk; simp at hk
  | cons b r ih =>
    intro u m hm k hk
    obtain ⟨_, _, _, _, _, h6⟩ := mayR_cons hm
    cases k with
    | zero =>
      refine ⟨by simp [toR], fun h => ?_, fun h => ?_⟩
      · have : r = [] := by simpa using h
        subst this
        simp [toR, fitsB]
        omega
      · cases r with
        | nil => simp at h
        | cons c r =>
          obtain ⟨h1, _⟩ := mayR_cons h6
          simp only [List.getElem_cons_zero, List.getElem_cons_succ, toR]
          rw [if_pos (by omega), if_neg (by omega)]
    | succ k =>
      have hk' : k < r.length := by simpa using hk
      obtain ⟨i1, i2, i3⟩ := ih _ _ h6 k hk'
      have hgt := (mayR_above r _ _ h6 r[k] (List.getElem_mem hk')).1
      refine ⟨?_, fun h => ?_, fun h => ?_⟩
      · simp only [List.getElem_cons_succ, toR]; rw [if_pos hgt]; exact i1
      · simp only [List.getElem_cons_succ, toR]; rw [if_pos (by omega)]; exact i2 (by simpa using h)
      · simp only [List.getElem_cons_succ, toR]; rw [if_pos (by omega)]; exact i3 (by simpa using h)

theorem mayS_parts {l : List S30} (h : mayS l = true) : mayR (-1) 1 l = true := by
  unfold mayS at h
  exact (Bool.and_eq_true_iff.1 h).1
end Go.Proofs.Ytjgfdhkphmhbcaa.TransPlain
