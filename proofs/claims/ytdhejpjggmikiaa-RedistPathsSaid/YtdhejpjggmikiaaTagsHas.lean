/- The functions of tags: what they come to, without rounds. -/
import Derived.Test.YtdhejpjggmikiaaLx5
import Derived.Test.YtdhejpjggmikiaaBits
namespace Go.Proofs.Ytdhejpjggmikiaa.TagsPlain
open Go Go.RowKit Go.Proofs.Ytdhejpjggmikiaa.L Go.Proofs.YtdhejpjggmikiaaW.PrintWords Go.Proofs.YtdhejpjggmikiaaW.PrintMore Go.Proofs.YtdhejpjggmikiaaPlain Go.Proofs.YtdhejpjggmikiaaBits

theorem may_eq (d : Int) : tags_may.f d = some (decide (0 ≤ d ∧ d < 16)) := by
  unfold tags_may.f
  by_cases h : d ≥ 0
  · rw [if_pos h]; congr 1; by_cases h2 : d < 16 <;> simp [h2] <;> omega
  · rw [if_neg h]; congr 1; simp; omega

def hasB (A : BitVec 16) (d : Int) : Bool := decide (0 ≤ d ∧ d < 16) && A.getLsbD d.toNat
theorem Has_eq (A : BitVec 16) (d : Int) : tags_Has.f A.toNat d = some (hasB A d) := by
  unfold tags_Has.f hasB
  rw [may_eq]
  simp only [Option.bind_some]
  by_cases h : 0 ≤ d ∧ d < 16
  · obtain ⟨n, rfl⟩ := Int.eq_ofNat_of_zero_le h.1
    rw [if_pos (by simpa using h), if_pos h.1, shr_and1 A n (by omega)]
    simp only [Int.toNat_natCast]
    have : decide (0 ≤ (n : Int) ∧ (n : Int) < 16) = true := decide_eq_true h
    rw [this, Bool.true_and]
  · rw [if_neg (by simpa using h)]
    have : decide (0 ≤ d ∧ d < 16) = false := decide_eq_false h
    rw [this, Bool.false_and]

def addS (A : BitVec 16) (d : Int) : BitVec 16 × Int := if 0 ≤ d ∧ d < 16 then if A.getLsbD d.toNat = true then (0, 6) else (A ||| 1#16 <<< d.toNat, 0) else (0, 1)
def cast2 (p : BitVec 16 × Int) : Int × Int := ((p.1.toNat : Int), p.2)
theorem Add_eq (A : BitVec 16) (d : Int) : tags_Add.f A.toNat d = some (cast2 (addS A d)) := by
  unfold tags_Add.f addS cast2
  rw [may_eq, Has_eq]
  simp only [Option.bind_some, hasB]
  by_cases h : 0 ≤ d ∧ d < 16
  · obtain ⟨n, rfl⟩ := Int.eq_ofNat_of_zero_le h.1
    rw [if_pos (by simpa using h), if_pos h, decide_eq_true h, Bool.true_and]
    simp only [Int.toNat_natCast]
    by_cases hb : A.getLsbD n = true
    · rw [if_pos hb, if_pos hb]; rfl
    · rw [if_neg hb, if_neg hb, if_pos h.1, shl1 n (by omega), or16]
  · rw [if_neg (by simpa using h), if_neg h]; rfl

theorem wi_eq (A B : BitVec 16) : ((Go.bits .andNot .u16 (A.toNat : Int) (B.toNat : Int)) == 0) = decide (A &&& ~~~B = 0#16) := by
  rw [andNot16]
  have e : (0 : Int) = ((0#16).toNat : Int) := rfl
  rw [e]
  by_cases h : A &&& ~~~B = 0#16
  · rw [h]; rfl
  · rw [decide_eq_false h]
    exact beq_eq_false_iff_ne.2 (fun h' => h (toNat_cast_inj.1 h'))

/-! sets of domains -/
theorem addS_ok {A : BitVec 16} {d : Int} (h : (addS A d).2 = 0) : (0 ≤ d ∧ d < 16) ∧ A.getLsbD d.toNat = false ∧ (addS A d).1 = A ||| 1#16 <<< d.toNat := by
  unfold addS at h ⊢
  by_cases hd : 0 ≤ d ∧ d < 16
  · rw [if_pos hd] at h ⊢
    by_cases hb : A.getLsbD d.toNat = true
    · rw [if_pos hb] at h; simp at h
    · rw [if_neg hb]; exact ⟨hd, by simpa using hb, rfl⟩
  · rw [if_neg hd] at h; simp at h
theorem addS_mk {A : BitVec 16} {d : Int} (hd : 0 ≤ d ∧ d < 16) (hb : A.getLsbD d.toNat = false) : addS A d = (A ||| 1#16 <<< d.toNat, 0) := by
  unfold addS
  rw [if_pos hd, if_neg (by rw [hb]; simp)]
theorem bit_get (d i : Nat) (hd : d < 16) : (1#16 <<< d).getLsbD i = decide (i = d) := by
  rw [BitVec.getLsbD_shiftLeft]
  by_cases h : i = d
  · subst h; simp [hd]
  · by_cases h2 : i < d
    · simp [h, h2]
    · simp [h]
      intro _ _
      omega
theorem or_get (A : BitVec 16) (d i : Nat) (hd : d < 16) : (A ||| 1#16 <<< d).getLsbD i = (A.getLsbD i || decide (i = d)) := by
  rw [BitVec.getLsbD_or, bit_get d i hd]
end Go.Proofs.Ytdhejpjggmikiaa.TagsPlain
