/- A rule that asks for domains lets a route through just with all of them; one that forbids some just without any. -/
import Derived.Test.YtjgfdhkphmhbcaaLx8
import Derived.Test.YtjgfdhkphmhbcaaFilterMore
namespace Go.Proofs.Ytjgfdhkphmhbcaa.Pure
open Go Go.RowKit Go.Proofs.Ytjgfdhkphmhbcaa.L Go.Proofs.YtjgfdhkphmhbcaaW.PrintWords Go.Proofs.YtjgfdhkphmhbcaaPlain Go.Proofs.YtjgfdhkphmhbcaaBits Go.Proofs.Ytjgfdhkphmhbcaa.FilterPlain

theorem within_and (H T : BitVec 16) : T &&& H = H ↔ H &&& ~~~T = 0#16 := by
  rw [inB_iff]
  constructor
  · intro h i hi
    rw [← h] at hi
    simp at hi
    exact hi.1
  · intro h
    apply BitVec.eq_of_getLsbD_eq
    intro i _
    have := h i
    rw [BitVec.getLsbD_and]
    cases hx : H.getLsbD i
    · simp
    · simp [this hx]

theorem FilterTags : octroilaw13_FilterTags.Pure := by
  intro h n t hh hn ht
  obtain ⟨H, rfl⟩ := tag_of hh
  obtain ⟨N, rfl⟩ := tag_of hn
  obtain ⟨T, rfl⟩ := tag_of ht
  apply Ev.rounds
  unfold octroilaw13_FilterTags.f
  refine Ev.bnd _ awake_ev ?_
  refine Ev.bnd _ (show Ev (fun k => filter_Permits.f k [(⟨true, (⟨0, 0⟩ : S35), 0, 32, (H.toNat : Int), (N.toNat : Int)⟩ : S42)] 0 0 (T.toNat : Int)) _ from Permits_ev [⟨true, 0#32, 0, 0, 32, H, N⟩] (by simp [maxLen]) 0#32 0 T) ?_
  have hf : fitsR ⟨true, 0#32, 0, 0, 32, H, N⟩ 0#32 0 T = (decide (T &&& H = H) && decide (T &&& N = 0#16)) := by
    unfold fitsR
    rw [covers_zero, show mayP 0#32 0 = true by decide, BitVec.and_comm N T]
    have : decide (H &&& ~~~T = 0#16) = decide (T &&& H = H) := by rw [decide_eq_decide]; exact (within_and H T).symm
    rw [this]
    simp
  have hp : permR 0#32 0 T [⟨true, 0#32, 0, 0, 32, H, N⟩] 0 = if (decide (T &&& H = H) && decide (T &&& N = 0#16)) = true then (true, 0) else (false, -1) := by
    simp only [permR, hf]
    rfl
  rw [hp, and16, and16, bveq0_16]
  refine Ev.const ?_
  by_cases h1 : T &&& H = H
  · rw [if_pos (by rw [h1]), decide_eq_true h1]
    by_cases h2 : T &&& N = 0#16
    · rw [decide_eq_true h2]; rfl
    · rw [decide_eq_false h2]; rfl
  · rw [if_neg (fun h' => h1 (toNat_cast_inj.1 h')), decide_eq_false h1]; rfl
end Go.Proofs.Ytjgfdhkphmhbcaa.Pure
