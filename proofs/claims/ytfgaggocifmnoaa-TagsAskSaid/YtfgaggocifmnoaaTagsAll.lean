/- All domains of a tag, and that it is theirs. -/
import Derived.Test.YtfgaggocifmnoaaLx3
import Derived.Test.YtfgaggocifmnoaaTagsPlain

namespace Go.Proofs.Ytfgaggocifmnoaa.TagsPlain
open Go Go.RowKit Go.Proofs.Ytfgaggocifmnoaa.L Go.Proofs.YtfgaggocifmnoaaW.PrintWords Go.Proofs.YtfgaggocifmnoaaW.PrintMore Go.Proofs.YtfgaggocifmnoaaPlain Go.Proofs.YtfgaggocifmnoaaBits

def allF (A : BitVec 16) : Nat → Nat → List Int
  | 0, _ => []
  | j + 1, d => if A.getLsbD d = true then (d : Int) :: allF A j (d + 1) else allF A j (d + 1)
def allS (A : BitVec 16) : List Int := allF A 16 0

theorem allF_mem (A : BitVec 16) : ∀ (j d : Nat) (x : Int), x ∈ allF A j d ↔ (d : Int) ≤ x ∧ x < ((d + j : Nat) : Int) ∧ A.getLsbD x.toNat = true := by
  intro j
  induction j with
  | zero => intro d x; simp [allF]; omega
  | succ j ih =>
    intro d x
    by_cases h : A.getLsbD d = true
    · simp only [allF, if_pos h, List.mem_cons, ih]
      constructor
      · rintro (rfl | ⟨h1, h2, h3⟩)
        · exact ⟨by omega, by omega, by simpa using h⟩
        · exact ⟨by omega, by omega, h3⟩
      · rintro ⟨h1, h2, h3⟩
        by_cases hx : x = (d : Int)
        · exact .inl hx
        · exact .inr ⟨by omega, by omega, h3⟩
    · simp only [allF, if_neg h, ih]
      constructor
      · rintro ⟨h1, h2, h3⟩; exact ⟨by omega, by omega, h3⟩
      · rintro ⟨h1, h2, h3⟩
        have : x ≠ (d : Int) := by rintro rfl; simp at h3; exact h h3
        exact ⟨by omega, by omega, h3⟩
theorem allF_nodup (A : BitVec 16) : ∀ (j d : Nat), (allF A j d).Nodup := by
  intro j
  induction j with
  | zero => intro d; simp [allF]
  | succ j ih =>
    intro d
    by_cases h : A.getLsbD d = true
    · simp only [allF, if_pos h]
      refine List.nodup_cons.2 ⟨fun hm => ?_, ih _⟩
      have := ((allF_mem A j (d + 1) d).1 hm).1
      omega
    · simp only [allF, if_neg h]; exact ih _
theorem allF_len (A : BitVec 16) : ∀ (j d : Nat), (allF A j d).length ≤ j := by
  intro j
  induction j with
  | zero => intro d; simp [allF]
  | succ j ih =>
    intro d
    have := ih (d + 1)
    by_cases h : A.getLsbD d = true
    · simp only [allF, if_pos h, List.length_cons]; omega
    · simp only [allF, if_neg h]; omega

theorem allS_back (A : BitVec 16) : ofS 0 (allS A) = (A, 0) ∧ (allS A).length = pc A := by
  have h0 : (ofS 0 (allS A)).2 = 0 := by
    refine ofS_mk _ _ (fun d hd => ?_) (allF_nodup A 16 0)
    obtain ⟨h1, h2, h3⟩ := (allF_mem A 16 0 d).1 hd
    exact ⟨⟨by omega, by omega⟩, by simp⟩
  obtain ⟨_, _, h3, h4⟩ := ofS_ok _ _ h0
  have hA : (ofS 0 (allS A)).1 = A := by
    apply BitVec.eq_of_getLsbD_eq
    intro i hi
    rw [h3]
    simp only [BitVec.ofNat_eq_ofNat, BitVec.getLsbD_zero, Bool.false_or]
    by_cases hb : A.getLsbD i = true
    · rw [hb]; exact decide_eq_true ((allF_mem A 16 0 i).2 ⟨by omega, by omega, by simpa using hb⟩)
    · have : ¬ ((i : Int) ∈ allS A) := fun hm => hb (by simpa using ((allF_mem A 16 0 i).1 hm).2.2)
      rw [decide_eq_false this]; simpa using hb
  refine ⟨Prod.ext hA h0, ?_⟩
  rw [hA] at h4
  have : pc (0 : BitVec 16) = 0 := pcF_zero 16
  omega

theorem All_l0 (A : BitVec 16) : ∀ (j d : Nat) (l : List Int), d + j = 16 → l.length ≤ d → Ev (fun k => tags_All.l0 k A.toNat l d) (l ++ allF A j d) := by
  intro j
  induction j with
  | zero =>
    intro d l hd hl
    exact Ev.step (f := fun _ => some l) (fun k => by simp only [tags_All.l0]; rw [if_neg (by omega)]) (Ev.some_ (by simp [allF]))
  | succ j ih =>
    intro d l hd hl
    have hh : hasB A (d : Int) = A.getLsbD d := by unfold hasB; rw [decide_eq_true (by omega), Bool.true_and, Int.toNat_natCast]
    refine Ev.step (fun k => by simp only [tags_All.l0]; rw [if_pos (by omega), wrap64_nat d (by omega)]) ?_
    refine Ev.bndc _ (Has_eq A d) ?_
    rw [hh]
    by_cases h : A.getLsbD d = true
    · refine Ev.pos h (Ev.pos (by omega) ?_)
      refine Ev.eq (ih (d + 1) (l ++ [(d : Int)]) (by omega) (by simp; omega)) ?_
      simp [allF, h]
    · refine Ev.neg h ?_
      refine Ev.eq (ih (d + 1) l (by omega) (by omega)) ?_
      simp [allF, h]
theorem All_ev (A : BitVec 16) : Ev (fun k => tags_All.f k A.toNat) (allS A) := by
  have := All_l0 A 16 0 [] (by omega) (by simp)
  exact this
end Go.Proofs.Ytfgaggocifmnoaa.TagsPlain
