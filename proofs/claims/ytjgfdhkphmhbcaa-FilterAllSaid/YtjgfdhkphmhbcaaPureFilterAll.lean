/- A rule of the shortest prefix, for all lengths, without domains, lets everything through that may be, or nothing. -/
import Derived.Test.YtjgfdhkphmhbcaaLx8
import Derived.Test.YtjgfdhkphmhbcaaFilterMore
namespace Go.Proofs.Ytjgfdhkphmhbcaa.Pure
open Go Go.RowKit Go.Proofs.Ytjgfdhkphmhbcaa.L Go.Proofs.YtjgfdhkphmhbcaaW.PrintWords Go.Proofs.YtjgfdhkphmhbcaaPlain Go.Proofs.YtjgfdhkphmhbcaaBits Go.Proofs.Ytjgfdhkphmhbcaa.FilterPlain

theorem all_l0 (b : Bool) (X : BitVec 32) (n : Nat) (hn : n ≤ 32) (T : BitVec 16) : ∀ (j i : Nat), i + j = n → ∀ Y : BitVec 32, (∀ k, k < 32 → i ≤ k → Y.getLsbD (31 - k) = false) →
    Ev (fun k => octroilaw13_FilterAll.l0 k b X.toNat n T.toNat true i Y.toNat n) true := by
  intro j
  induction j with
  | zero =>
    intro i hi Y hY
    have : i = n := by omega
    subst this
    refine Ev.step (fun k => by simp only [octroilaw13_FilterAll.l0]; rw [if_neg (by omega)]) ?_
    refine Ev.bnds _ ?_
    refine Ev.bnd _ (show Ev (fun k => filter_Permits.f k [(⟨b, (⟨0, 0⟩ : S35), 0, 32, 0, 0⟩ : S42)] (Y.toNat : Int) (i : Int) (T.toNat : Int)) _ from Permits_ev [⟨b, 0#32, 0, 0, 32, 0#16, 0#16⟩] (by simp [maxLen]) Y i T) ?_
    refine Ev.bnd _ (show Ev (fun k => filter_Permits.f k ([] : List S42) (Y.toNat : Int) (i : Int) (T.toNat : Int)) _ from Permits_ev [] (by simp [maxLen]) Y i T) ?_
    refine Ev.pos trivial ?_
    refine Ev.bnd _ (show Ev (fun k => filter_May.f k [(⟨b, (⟨0, 0⟩ : S35), 0, 32, 0, 0⟩ : S42)]) _ from MayF_ev [⟨b, 0#32, 0, 0, 32, 0#16, 0#16⟩] (by simp [maxLen])) ?_
    have hm : mayP Y (i : Int) = true := (mayP_iff Y i hn).2 hY
    have hf : fitsR ⟨b, 0#32, 0, 0, 32, 0#16, 0#16⟩ Y (i : Int) T = true := by
      unfold fitsR
      rw [covers_zero, hm, decide_eq_false (show ¬ (i : Int) < 0 by omega), decide_eq_false (show ¬ (i : Int) > 32 by omega)]
      simp
    have hp : permR Y (i : Int) T [⟨b, 0#32, 0, 0, 32, 0#16, 0#16⟩] 0 = (b, 0) := by simp only [permR, hf]; rfl
    have hok : mayF [⟨b, 0#32, 0, 0, 32, 0#16, 0#16⟩] = true := by
      have h0 : mayP 0#32 0 = true := by decide
      simp [mayF, okR, h0]
    rw [hp, hok]
    refine Ev.pos rfl (Ev.pos (by simp) (Ev.pos rfl (Ev.some_ (by simp [permR]))))
  | succ j ih =>
    intro i hi Y hY
    have hi32 : i < 32 := by omega
    by_cases hb : X.getLsbD (31 - i) = true
    · refine Ev.step (f := fun k => octroilaw13_FilterAll.l0 k b X.toNat n T.toNat true ((i + 1 : Nat) : Int) ((Y ||| 1#32 <<< (31 - i)).toNat : Int) n) (fun k => ?_) (ih (i + 1) (by omega) _ (fun k hk hik => ?_))
      · simp only [octroilaw13_FilterAll.l0]
        rw [if_pos (by omega), if_pos (one_nonneg i), if_neg (fun h => by rw [and_one_zero X i hi32, hb] at h; cases h), wrap64_nat i (by omega), one_eq i hi32, or32]
      · rw [BitVec.getLsbD_or, hY k hk (by omega), one_get i _ hi32]
        simp
        omega
    · refine Ev.step (f := fun k => octroilaw13_FilterAll.l0 k b X.toNat n T.toNat true ((i + 1 : Nat) : Int) (Y.toNat : Int) n) (fun k => ?_) (ih (i + 1) (by omega) _ (fun k hk hik => hY k hk (by omega)))
      simp only [octroilaw13_FilterAll.l0]
      rw [if_pos (by omega), if_pos (one_nonneg i), if_pos ((and_one_zero X i hi32).2 (by simpa using hb)), wrap64_nat i (by omega)]

theorem FilterAll : octroilaw13_FilterAll.Pure := by
  intro b x n t hx _ ht
  obtain ⟨X, rfl⟩ := addr_of hx
  obtain ⟨T, rfl⟩ := tag_of ht
  apply Ev.rounds
  unfold octroilaw13_FilterAll.f
  refine Ev.bnd _ awake_ev ?_
  have hup : Ev (fun k => octroilaw13_FilterAll.j0 k b X.toNat n T.toNat true true) true := Ev.step (f := fun _ => some true) (fun k => by simp [octroilaw13_FilterAll.j0]) (Ev.now _)
  refine Ev.ite (fun _ => hup) (fun h0 => ?_)
  by_cases h32 : n > 32
  · rw [decide_eq_true h32]; exact hup
  rw [decide_eq_false h32]
  obtain ⟨m, rfl⟩ := Int.eq_ofNat_of_zero_le (show 0 ≤ n by omega)
  refine Ev.step (fun k => by simp only [octroilaw13_FilterAll.j0]; rw [if_neg (by simp)]) ?_
  exact all_l0 b X m (by omega) T m 0 (by omega) 0#32 (fun k _ _ => by simp)
end Go.Proofs.Ytjgfdhkphmhbcaa.Pure
