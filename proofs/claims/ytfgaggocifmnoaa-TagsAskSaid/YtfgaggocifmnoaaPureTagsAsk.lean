/- What any tag has, how many, and whether it has all of another one, is what the document says. -/
import Derived.Test.YtfgaggocifmnoaaLx4
import Derived.Test.YtfgaggocifmnoaaTagsAll
import Derived.Test.YtfgaggocifmnoaaTagsRef
namespace Go.Proofs.Ytfgaggocifmnoaa.Pure
open Go Go.RowKit Go.Proofs.Ytfgaggocifmnoaa.L Go.Proofs.YtfgaggocifmnoaaW.PrintWords Go.Proofs.YtfgaggocifmnoaaPlain Go.Proofs.YtfgaggocifmnoaaBits Go.Proofs.Ytfgaggocifmnoaa.TagsPlain

theorem same_l0 (l : List Int) (hl : l.length ≤ maxLen) : ∀ (r : List Int) (i : Nat), l.drop i = r → i ≤ l.length → Ev (fun k => octroilaw03_same.l0 k l l i) true := by
  intro r
  induction r with
  | nil =>
    intro i h hi
    have := drop_nil h hi
    exact Ev.step (f := fun _ => some true) (fun k => by simp only [octroilaw03_same.l0]; rw [if_neg (by omega)]) (Ev.now _)
  | cons b r ih =>
    intro i h hi
    obtain ⟨hlt, hr, _⟩ := drop_cons h
    refine Ev.step (f := fun k => octroilaw03_same.l0 k l l ((i + 1 : Nat) : Int)) (fun k => ?_) (ih (i + 1) hr (by omega))
    simp only [octroilaw03_same.l0]
    rw [if_pos (by omega), if_pos (by omega), if_pos (by omega), if_pos trivial, wrap64_nat i (by unfold maxLen at hl; omega)]
theorem same_ev (l : List Int) (hl : l.length ≤ maxLen) : Ev (fun k => octroilaw03_same.f k l l) true := by
  unfold octroilaw03_same.f
  exact Ev.pos rfl (same_l0 l hl l 0 rfl (by omega))

theorem RefAll_l0 (A : BitVec 16) : ∀ (j d : Nat) (l : List Int), d + j = 16 → l.length ≤ d → Ev (fun k => octroiref03_All.l0 k A.toNat l d) (l ++ allF A j d) := by
  intro j
  induction j with
  | zero =>
    intro d l hd hl
    exact Ev.step (f := fun _ => some l) (fun k => by simp only [octroiref03_All.l0]; rw [if_neg (by omega)]) (Ev.some_ (by simp [allF]))
  | succ j ih =>
    intro d l hd hl
    have hh : hasB A (d : Int) = A.getLsbD d := by unfold hasB; rw [decide_eq_true (by omega), Bool.true_and, Int.toNat_natCast]
    refine Ev.step (fun k => by simp only [octroiref03_All.l0]; rw [if_pos (by omega), wrap64_nat d (by omega)]) ?_
    refine Ev.bnd _ (RefHas_ev A d) ?_
    rw [hh]
    by_cases h : A.getLsbD d = true
    · refine Ev.pos h (Ev.pos (by omega) ?_)
      refine Ev.eq (ih (d + 1) (l ++ [(d : Int)]) (by omega) (by simp; omega)) ?_
      simp [allF, h]
    · refine Ev.neg h ?_
      refine Ev.eq (ih (d + 1) l (by omega) (by omega)) ?_
      simp [allF, h]
theorem RefAll_ev (A : BitVec 16) : Ev (fun k => octroiref03_All.f k A.toNat) (allS A) := RefAll_l0 A 16 0 [] (by omega) (by simp)

theorem RefDepth_l0 : ∀ (j : Nat) (x n : Nat), x < 2 ^ j → n + j ≤ 16 → Ev (fun k => octroiref03_Depth.l0 k (n : Int) (x : Int)) ((n + pcF j x : Nat) : Int) := by
  intro j
  induction j with
  | zero =>
    intro x n hx _
    have : x = 0 := by simp at hx; exact hx
    subst this
    exact Ev.step (f := fun _ => some (n : Int)) (fun k => by simp [octroiref03_Depth.l0]) (Ev.some_ rfl)
  | succ j ih =>
    intro x n hx hj
    by_cases h0 : x = 0
    · subst h0
      exact Ev.step (f := fun _ => some (n : Int)) (fun k => by simp [octroiref03_Depth.l0]) (Ev.some_ (by rw [pcF_zero]; rfl))
    · have hp : 2 ^ (j + 1) = 2 * 2 ^ j := by rw [Nat.pow_succ]; omega
      have hq : 2 ^ j ≤ 2 ^ 16 := Nat.pow_le_pow_right (by omega) (by omega)
      have e1 : Int.tmod (x : Int) 2 = ((x % 2 : Nat) : Int) := by rw [Int.tmod_eq_emod_of_nonneg (by omega)]; rfl
      have e2 : Int.tdiv (x : Int) 2 = ((x / 2 : Nat) : Int) := by rw [Int.tdiv_eq_ediv_of_nonneg (by omega)]; rfl
      have hstep : ∀ k, octroiref03_Depth.l0 (k + 1) (n : Int) (x : Int) = octroiref03_Depth.l0 k ((n + x % 2 : Nat) : Int) ((x / 2 : Nat) : Int) := by
        intro k
        simp only [octroiref03_Depth.l0]
        rw [if_pos (by omega), e1, e2, wrap64_id _ (by omega) (by omega), wrap64_id _ (by omega) (by omega)]
        rfl
      refine Ev.step hstep ?_
      refine Ev.eq (ih (x / 2) (n + x % 2) (by omega) (by omega)) ?_
      simp only [pcF]
      congr 1
      omega
theorem RefDepth_ev (A : BitVec 16) : Ev (fun k => octroiref03_Depth.f k A.toNat) (pc A : Int) := by
  unfold octroiref03_Depth.f
  have hA := A.isLt
  rw [wrap64_id _ (by omega) (by omega)]
  refine Ev.eq (RefDepth_l0 16 A.toNat 0 hA (by omega)) ?_
  simp [pc]

theorem RefWithin_l0 (A B : BitVec 16) : ∀ (j d : Nat), d + j = 16 → ∀ v : Bool, (v = true ↔ ∀ i, d ≤ i → i < 16 → A.getLsbD i = true → B.getLsbD i = true) → Ev (fun k => octroiref03_Within.l0 k A.toNat B.toNat d) v := by
  intro j
  induction j with
  | zero =>
    intro d hd v hv
    refine Ev.step (f := fun _ => some true) (fun k => by simp only [octroiref03_Within.l0]; rw [if_neg (by omega)]) (Ev.some_ ?_)
    exact (hv.2 (fun i h1 h2 => by omega)).symm
  | succ j ih =>
    intro d hd v hv
    have hh : ∀ C : BitVec 16, hasB C (d : Int) = C.getLsbD d := fun C => by unfold hasB; rw [decide_eq_true (by omega), Bool.true_and, Int.toNat_natCast]
    refine Ev.step (fun k => by simp only [octroiref03_Within.l0]; rw [if_pos (by omega), wrap64_nat d (by omega)]) ?_
    refine Ev.bnd _ (RefHas_ev A d) ?_
    refine Ev.bnd _ (RefHas_ev B d) ?_
    rw [hh, hh]
    have hnext : (A.getLsbD d = true → B.getLsbD d = true) → Ev (fun k => octroiref03_Within.l0 k A.toNat B.toNat ((d + 1 : Nat) : Int)) v := fun hab => by
      refine ih (d + 1) (by omega) v ?_
      rw [hv]
      constructor
      · intro h i h1 h2 h3
        exact h i (by omega) h2 h3
      · intro h i h1 h2 h3
        by_cases hi : i = d
        · subst hi; exact hab h3
        · exact h i (by omega) h2 h3
    refine Ev.ite (fun ha => ?_) (fun ha => hnext (fun h => absurd h ha))
    refine Ev.ite (fun hb => hnext (fun _ => hb)) (fun hb => Ev.some_ ?_)
    cases hv' : v
    · rfl
    · exact absurd (hv.1 hv' d (by omega) (by omega) ha) hb
theorem RefWithin_ev (A B : BitVec 16) : Ev (fun k => octroiref03_Within.f k A.toNat B.toNat) (decide (A &&& ~~~B = 0#16)) := by
  refine RefWithin_l0 A B 16 0 (by omega) _ ?_
  rw [decide_eq_true_eq, inB_iff]
  constructor
  · intro h i _ _ hi
    exact h i hi
  · intro h i hi
    exact h i (by omega) (BitVec.lt_of_getLsbD hi) hi

theorem TagsAsk : octroilaw03_TagsAsk.Pure := by
  intro a b d ha hb _
  obtain ⟨A, rfl⟩ := tag_of ha
  obtain ⟨B, rfl⟩ := tag_of hb
  obtain ⟨_, h2⟩ := allS_back A
  apply Ev.rounds
  unfold octroilaw03_TagsAsk.f
  refine Ev.bnd _ awake_ev ?_
  refine Ev.bnd _ (All_ev A) ?_
  refine Ev.bnd _ (RefAll_ev A) ?_
  refine Ev.bnd _ (same_ev _ (by rw [h2]; have := pc_le A; unfold maxLen; omega)) ?_
  refine Ev.pos rfl (Ev.pos rfl ?_)
  refine Ev.bndc _ (Has_eq A d) ?_
  refine Ev.bnd _ (RefHas_ev A d) ?_
  refine Ev.pos (by simp) ?_
  refine Ev.bnd _ (Depth_ev A) ?_
  refine Ev.bnd _ (RefDepth_ev A) ?_
  refine Ev.pos rfl ?_
  refine Ev.bndc (decide (A &&& ~~~B = 0#16)) (by unfold tags_Within.f; rw [wi_eq]) ?_
  refine Ev.bnd _ (RefWithin_ev A B) ?_
  exact Ev.some_ (by simp)
end Go.Proofs.Ytfgaggocifmnoaa.Pure
