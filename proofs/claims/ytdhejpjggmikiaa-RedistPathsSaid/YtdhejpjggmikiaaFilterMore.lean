/- Plain facts about prefixes and filters of one rule. -/
import Derived.Test.YtdhejpjggmikiaaFilterPlain
namespace Go.Proofs.Ytdhejpjggmikiaa.FilterPlain
open Go Go.RowKit Go.Proofs.Ytdhejpjggmikiaa.L Go.Proofs.YtdhejpjggmikiaaW.PrintWords Go.Proofs.YtdhejpjggmikiaaW.PrintMore Go.Proofs.YtdhejpjggmikiaaPlain Go.Proofs.YtdhejpjggmikiaaBits

/-- 'uint32(1) << uint(31 - i)'. -/
theorem one_eq (i : Nat) (hi : i < 32) : shl .u32 1 (IntKind.u64.wrap (wrap64 (31 - (i : Int)))) = ((1#32 <<< (31 - i)).toNat : Int) := by
  rw [wrap64_id _ (by omega) (by omega), wrapu64_mod]
  have e : (31 - (i : Int)) % 18446744073709551616 = ((31 - i : Nat) : Int) := by omega
  rw [e]
  show IntKind.u32.wrap (1 * 2 ^ min (((31 - i : Nat) : Int)).toNat 32) = _
  rw [Int.toNat_natCast, Nat.min_eq_left (by omega), wrap32_mod, BitVec.toNat_shiftLeft, Nat.shiftLeft_eq]
  simp
theorem one_nonneg (i : Nat) : 0 ≤ IntKind.u64.wrap (wrap64 (31 - (i : Int))) := by rw [wrapu64_mod]; omega
theorem one_get (i j : Nat) (hi : i < 32) : (1#32 <<< (31 - i)).getLsbD j = decide (j = 31 - i) := by
  rw [BitVec.getLsbD_shiftLeft]
  by_cases h : j = 31 - i
  · subst h; simp; omega
  · by_cases h2 : j < 31 - i
    · simp [h, h2]
    · simp [h]
      intro _ _
      omega
theorem and_one (A : BitVec 32) (i : Nat) (hi : i < 32) : A &&& 1#32 <<< (31 - i) = if A.getLsbD (31 - i) = true then 1#32 <<< (31 - i) else 0#32 := by
  apply BitVec.eq_of_getLsbD_eq
  intro j _
  rw [BitVec.getLsbD_and, one_get i j hi]
  by_cases h : j = 31 - i
  · subst h
    by_cases hb : A.getLsbD (31 - i) = true
    · rw [if_pos hb, hb, one_get i _ hi]; rfl
    · rw [if_neg hb]; simpa using hb
  · by_cases hb : A.getLsbD (31 - i) = true
    · rw [if_pos hb, one_get i j hi]; simp [h]
    · rw [if_neg hb]; simp [h]
theorem one_ne (i : Nat) (hi : i < 32) : 1#32 <<< (31 - i) ≠ 0#32 := by
  intro h
  have := congrArg (fun b => b.getLsbD (31 - i)) h
  simp only [one_get i _ hi, BitVec.getLsbD_zero] at this
  simp at this
theorem and_one_zero (A : BitVec 32) (i : Nat) (hi : i < 32) : Go.bits .and .u32 (A.toNat : Int) (shl .u32 1 (IntKind.u64.wrap (wrap64 (31 - (i : Int))))) = 0 ↔ A.getLsbD (31 - i) = false := by
  rw [one_eq i hi, and32]
  have e : (0 : Int) = ((0#32).toNat : Int) := rfl
  rw [e, toNat_cast_inj, and_one A i hi]
  by_cases hb : A.getLsbD (31 - i) = true
  · rw [if_pos hb, hb]; simp [one_ne i hi]
  · rw [if_neg hb]; simpa using hb
theorem and_one_eq (A B : BitVec 32) (i : Nat) (hi : i < 32) : Go.bits .and .u32 (A.toNat : Int) (shl .u32 1 (IntKind.u64.wrap (wrap64 (31 - (i : Int))))) = Go.bits .and .u32 (B.toNat : Int) (shl .u32 1 (IntKind.u64.wrap (wrap64 (31 - (i : Int))))) ↔ A.getLsbD (31 - i) = B.getLsbD (31 - i) := by
  rw [one_eq i hi, and32, and32, toNat_cast_inj, and_one A i hi, and_one B i hi]
  have := one_ne i hi
  cases A.getLsbD (31 - i) <;> cases B.getLsbD (31 - i) <;> simp [this, this.symm]

theorem mayP_iff (X : BitVec 32) (n : Nat) (hn : n ≤ 32) : mayP X (n : Int) = true ↔ ∀ k, k < 32 → n ≤ k → X.getLsbD (31 - k) = false := by
  unfold mayP
  rw [decide_eq_true (by omega), Bool.true_and, decide_eq_true_eq, inB_iff, Int.toNat_natCast]
  constructor
  · intro h k hk hnk
    cases hb : X.getLsbD (31 - k)
    · rfl
    · have := h _ hb
      rw [M_get n _ (by omega)] at this
      have := of_decide_eq_true this
      omega
  · intro h i hi
    have hlt := BitVec.lt_of_getLsbD hi
    rw [M_get n i hlt]
    apply decide_eq_true
    have := h (31 - i) (by omega)
    rw [show 31 - (31 - i) = i by omega, hi] at this
    rcases Nat.lt_or_ge (31 - i) n with h' | h'
    · omega
    · exact absurd (this h') (by simp)
theorem hasP_iff (X Y : BitVec 32) (n : Nat) (hn : n ≤ 32) (hm : mayP X (n : Int) = true) : hasP X (n : Int) Y = true ↔ ∀ k, k < n → Y.getLsbD (31 - k) = X.getLsbD (31 - k) := by
  unfold hasP
  rw [hm, Bool.true_and, decide_eq_true_eq, Int.toNat_natCast]
  constructor
  · intro h k hk
    have := congrArg (fun b => b.getLsbD (31 - k)) h
    simp only [BitVec.getLsbD_and, BitVec.getLsbD_xor, BitVec.getLsbD_zero, M_get n (31 - k) (by omega)] at this
    rw [decide_eq_true (by omega), Bool.and_true] at this
    revert this
    cases Y.getLsbD (31 - k) <;> cases X.getLsbD (31 - k) <;> simp
  · intro h
    apply BitVec.eq_of_getLsbD_eq
    intro i hi
    simp only [BitVec.getLsbD_and, BitVec.getLsbD_xor, BitVec.getLsbD_zero, M_get n i hi]
    by_cases hd : 32 - n ≤ i
    · have := h (31 - i) (by omega)
      rw [show 31 - (31 - i) = i by omega] at this
      rw [this]
      simp
    · rw [decide_eq_false hd, Bool.and_false]

theorem covers_zero (Y : BitVec 32) (m : Int) : coversP 0#32 0 Y m = mayP Y m := by
  unfold coversP
  have h1 : mayP 0#32 0 = true := by decide
  have h2 : hasP 0#32 0 Y = true := (hasP_iff 0#32 Y 0 (by omega) h1).2 (fun k hk => by omega)
  rw [h2, Bool.and_true]
  cases hm : mayP Y m
  · rfl
  · have : 0 ≤ m := by
      unfold mayP at hm
      exact (of_decide_eq_true (Bool.and_eq_true_iff.1 hm).1).1
    rw [decide_eq_true this]; rfl
end Go.Proofs.Ytdhejpjggmikiaa.FilterPlain
