/- A rule lets through just prefixes within its own, whose length is from its least to its greatest one (rules and prefixes that may be). -/
import Derived.Test.YtjgfdhkphmhbcaaLxqFilterLens
import Derived.Test.YtjgfdhkphmhbcaaFilterMore
namespace Go.Proofs.Ytjgfdhkphmhbcaa.Pure
open Go Go.RowKit Go.Proofs.Ytjgfdhkphmhbcaa.L Go.Proofs.YtjgfdhkphmhbcaaW.PrintWords Go.Proofs.YtjgfdhkphmhbcaaPlain Go.Proofs.YtjgfdhkphmhbcaaBits Go.Proofs.Ytjgfdhkphmhbcaa.FilterPlain

/-- The bits from the k-th one on: those of the rule's prefix are the same, those behind the length are 0. -/
def bitsOk (X Y : BitVec 32) (n m : Nat) (k : Nat) : Prop := ∀ q, k ≤ q → q < 32 → (q < n → Y.getLsbD (31 - q) = X.getLsbD (31 - q)) ∧ (m ≤ q → Y.getLsbD (31 - q) = false)

theorem lens_l0 (c1 : Bool) (c2 c3 : Int) (c4 c5 : Int) (X Y : BitVec 32) (n m : Nat) (x7 : Int) (v : Bool) : ∀ (j k : Nat), k + j = 32 → ∀ b : Bool, (v = true ↔ b = true ∧ bitsOk X Y n m k) →
    Ev (fun z => octroilaw13_FilterLens.l0 z x7 b k c1 X.toNat n c2 c3 c4 c5 Y.toNat m) ((x7 == 0) == v) := by
  intro j
  induction j with
  | zero =>
    intro k hk b hv
    have hb : b = v := by
      rw [Bool.eq_iff_iff, hv]
      exact ⟨fun h => ⟨h, fun q h1 h2 => by omega⟩, fun h => h.1⟩
    subst hb
    exact Ev.step (f := fun _ => some ((x7 == 0) == b)) (fun z => by simp only [octroilaw13_FilterLens.l0]; rw [if_neg (by omega)]) (Ev.now _)
  | succ j ih =>
    intro k hk b hv
    have hk32 : k < 32 := by omega
    have hsplit : bitsOk X Y n m k ↔ ((k < n → Y.getLsbD (31 - k) = X.getLsbD (31 - k)) ∧ (m ≤ k → Y.getLsbD (31 - k) = false)) ∧ bitsOk X Y n m (k + 1) := by
      constructor
      · intro h; exact ⟨h k (Nat.le_refl _) hk32, fun q h1 h2 => h q (by omega) h2⟩
      · rintro ⟨h0, h⟩ q h1 h2
        by_cases hq : q = k
        · subst hq; exact h0
        · exact h q (by omega) h2
    have hgood : ((k < n → Y.getLsbD (31 - k) = X.getLsbD (31 - k)) ∧ (m ≤ k → Y.getLsbD (31 - k) = false)) → Ev (fun z => octroilaw13_FilterLens.l0 z x7 b (wrap64 ((k : Int) + 1)) c1 X.toNat n c2 c3 c4 c5 Y.toNat m) ((x7 == 0) == v) := fun h => by
      rw [wrap64_nat k (by omega)]
      refine ih (k + 1) (by omega) b ?_
      rw [hv, hsplit]
      exact ⟨fun h' => ⟨h'.1, h'.2.2⟩, fun h' => ⟨h'.1, h, h'.2⟩⟩
    have hbad : ¬ ((k < n → Y.getLsbD (31 - k) = X.getLsbD (31 - k)) ∧ (m ≤ k → Y.getLsbD (31 - k) = false)) → Ev (fun z => octroilaw13_FilterLens.l0 z x7 false (wrap64 ((k : Int) + 1)) c1 X.toNat n c2 c3 c4 c5 Y.toNat m) ((x7 == 0) == v) := fun h => by
      rw [wrap64_nat k (by omega)]
      refine ih (k + 1) (by omega) false ?_
      rw [hv, hsplit]
      exact ⟨fun h' => absurd h'.2.1 h, fun h' => by cases h'.1⟩
    refine Ev.step (fun z => by simp only [octroilaw13_FilterLens.l0]; rw [if_pos (by omega), if_pos (one_nonneg k)]) ?_
    have hz := and_one_zero Y k hk32
    refine Ev.ite (fun h1 => ?_) (fun h1 => ?_)
    · refine Ev.ite (fun h2 => ?_) (fun h2 => ?_)
      · have h2' := (and_one_eq Y X k hk32).1 h2
        refine Ev.ite (fun h3 => ?_) (fun h3 => ?_)
        · refine Ev.ite (fun h4 => hgood ⟨fun _ => h2', fun _ => hz.1 h4⟩) (fun h4 => hbad (fun h => h4 (hz.2 (h.2 (by omega)))))
        · exact hgood ⟨fun _ => h2', fun h => by omega⟩
      · exact hbad (fun h => h2 ((and_one_eq Y X k hk32).2 (h.1 (by omega))))
    · refine Ev.ite (fun h3 => ?_) (fun h3 => ?_)
      · refine Ev.ite (fun h4 => hgood ⟨fun h => by omega, fun _ => hz.1 h4⟩) (fun h4 => hbad (fun h => h4 (hz.2 (h.2 (by omega)))))
      · exact hgood ⟨fun h => by omega, fun h => by omega⟩

theorem FilterLens : octroilaw13_FilterLens.Pure := by
  intro b x n ge le h0 no y m hx _ _ _ _ _ hy _
  obtain ⟨X, rfl⟩ := addr_of hx
  obtain ⟨Y, rfl⟩ := addr_of hy
  apply Ev.rounds
  unfold octroilaw13_FilterLens.f
  refine Ev.bnd _ awake_ev ?_
  refine Ev.pos rfl ?_
  have hup : ∀ (c1 : Bool) (c2 c3 c4 c5 c6 c7 c8 c9 : Int), Ev (fun k => octroilaw13_FilterLens.j0 k true true c1 c2 c3 c4 c5 c6 c7 c8 c9) true := fun c1 c2 c3 c4 c5 c6 c7 c8 c9 =>
    Ev.step (f := fun _ => some true) (fun k => by simp [octroilaw13_FilterLens.j0]) (Ev.now _)
  refine Ev.bnd _ (show Ev (fun k => filter_May.f k [(⟨b, (⟨(X.toNat : Int), n⟩ : S35), ge, le, 0, 0⟩ : S42)]) _ from MayF_ev [⟨b, X, n, ge, le, 0#16, 0#16⟩] (by simp [maxLen])) ?_
  refine Ev.ite (fun hok => ?_) (fun _ => hup _ _ _ _ _ _ _ _ _)
  refine Ev.ite (fun _ => hup _ _ _ _ _ _ _ _ _) (fun hm0 => ?_)
  by_cases hm32 : m > 32
  · rw [decide_eq_true hm32]; exact hup _ _ _ _ _ _ _ _ _
  rw [decide_eq_false hm32]
  have hok' : okR ⟨b, X, n, ge, le, 0#16, 0#16⟩ = true := by
    simp only [mayF, List.all_cons, List.all_nil, Bool.and_true] at hok
    exact (Bool.and_eq_true_iff.1 hok).1
  simp only [okR, Bool.and_eq_true, Bool.not_eq_true', decide_eq_false_iff_not] at hok'
  obtain ⟨⟨⟨hmp, hg1⟩, hg2⟩, hg3⟩ := hok'
  have hn : 0 ≤ n ∧ n ≤ 32 := by
    have := hmp
    unfold mayP at this
    exact of_decide_eq_true (Bool.and_eq_true_iff.1 this).1
  obtain ⟨n, rfl⟩ := Int.eq_ofNat_of_zero_le hn.1
  obtain ⟨m, rfl⟩ := Int.eq_ofNat_of_zero_le (show 0 ≤ m by omega)
  refine Ev.step (fun k => by simp only [octroilaw13_FilterLens.j0]; rw [if_neg (by simp)]) ?_
  refine Ev.bnd _ (show Ev (fun k => filter_Permits.f k [(⟨b, (⟨(X.toNat : Int), (n : Int)⟩ : S35), ge, le, 0, 0⟩ : S42)] (Y.toNat : Int) (m : Int) 65535) _ from Permits_ev [⟨b, X, n, ge, le, 0#16, 0#16⟩] (by simp [maxLen]) Y m 65535#16) ?_
  have hfit : fitsR ⟨b, X, n, ge, le, 0#16, 0#16⟩ Y m 65535#16 = true ↔ (¬ (m : Int) < ge ∧ ¬ (m : Int) > le) ∧ bitsOk X Y n m 0 := by
    unfold fitsR coversP
    simp only [Bool.and_eq_true, Bool.not_eq_true', decide_eq_false_iff_not, decide_eq_true_eq]
    rw [mayP_iff Y m (by omega), hasP_iff X Y n (by omega) hmp]
    constructor
    · rintro ⟨⟨⟨⟨⟨⟨h1, h2⟩, h3⟩, h4⟩, h5⟩, _⟩, _⟩
      exact ⟨⟨h4, h5⟩, fun q _ hq => ⟨fun h => h3 q h, fun h => h1 q hq h⟩⟩
    · rintro ⟨⟨h4, h5⟩, h⟩
      exact ⟨⟨⟨⟨⟨⟨fun k hk hmk => (h k (by omega) hk).2 hmk, by omega⟩, fun k hk => (h k (by omega) (by omega)).1 hk⟩, h4⟩, h5⟩, by simp⟩, by simp⟩
  have hat : ((permR Y m 65535#16 [⟨b, X, n, ge, le, 0#16, 0#16⟩] 0).2 == 0) = fitsR ⟨b, X, n, ge, le, 0#16, 0#16⟩ Y m 65535#16 := by
    simp only [permR]
    cases fitsR ⟨b, X, n, ge, le, 0#16, 0#16⟩ Y m 65535#16 <;> rfl
  have hend : ∀ c : Bool, (c = true ↔ ¬ (m : Int) < ge ∧ ¬ (m : Int) > le) → Ev (fun k => octroilaw13_FilterLens.j1 k (permR Y m 65535#16 [⟨b, X, n, ge, le, 0#16, 0#16⟩] 0).2 c b X.toNat n ge le 0 0 Y.toNat m) true := fun c hc => by
    refine Ev.step (fun k => by simp only [octroilaw13_FilterLens.j1]; rfl) ?_
    refine Ev.eq (lens_l0 b ge le 0 0 X Y n m _ (fitsR ⟨b, X, n, ge, le, 0#16, 0#16⟩ Y m 65535#16) 32 0 (by omega) c (by rw [hfit, hc])) ?_
    rw [hat]
    simp
  refine Ev.ite (fun h1 => hend _ ?_) (fun h1 => hend _ ?_)
  · rw [decide_eq_true_eq]; omega
  · constructor
    · intro h; cases h
    · intro h; omega
end Go.Proofs.Ytjgfdhkphmhbcaa.Pure
