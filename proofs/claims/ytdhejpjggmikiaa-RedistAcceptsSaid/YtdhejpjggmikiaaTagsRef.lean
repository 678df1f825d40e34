/- The reference's functions of tags: what they come to, without rounds. -/
import Derived.Test.YtdhejpjggmikiaaLx10
import Derived.Test.YtdhejpjggmikiaaTagsHas
namespace Go.Proofs.Ytdhejpjggmikiaa.TagsPlain
open Go Go.RowKit Go.Proofs.Ytdhejpjggmikiaa.L Go.Proofs.YtdhejpjggmikiaaW.PrintWords Go.Proofs.YtdhejpjggmikiaaW.PrintMore Go.Proofs.YtdhejpjggmikiaaPlain Go.Proofs.YtdhejpjggmikiaaBits

theorem is_eq (d : Int) : octroiref03_is.f d = some (decide (0 ≤ d ∧ d < 16)) := by
  unfold octroiref03_is.f
  by_cases h : d ≥ 0
  · rw [if_pos h]; congr 1; by_cases h2 : d < 16 <;> simp [h2] <;> omega
  · rw [if_neg h]; congr 1; simp; omega

theorem bit_l0 (d : Nat) (hd : d < 16) : ∀ (j : Nat) (i : Nat), i + j = d → Ev (fun k => octroiref03_bit.l0 k (d : Int) ((2 ^ i : Nat) : Int) (i : Int)) ((2 ^ d : Nat) : Int) := by
  intro j
  induction j with
  | zero =>
    intro i hi
    have : i = d := by omega
    subst this
    exact Ev.step (f := fun _ => some ((2 ^ i : Nat) : Int)) (fun k => by simp only [octroiref03_bit.l0]; rw [if_neg (by omega)]) (Ev.now _)
  | succ j ih =>
    intro i hi
    refine Ev.step (f := fun k => octroiref03_bit.l0 k (d : Int) ((2 ^ (i + 1) : Nat) : Int) ((i + 1 : Nat) : Int)) (fun k => ?_) (ih (i + 1) (by omega))
    simp only [octroiref03_bit.l0]
    have h1 : 2 ^ i ≤ 2 ^ 15 := Nat.pow_le_pow_right (by omega) (by omega)
    have h2 : 2 ^ (i + 1) = 2 * 2 ^ i := by rw [Nat.pow_succ]; omega
    rw [if_pos (by omega), wrap64_nat i (by omega), wrap64_id _ (by omega) (by omega), h2]
    congr 1
theorem bit_ev (d : Nat) (hd : d < 16) : Ev (fun k => octroiref03_bit.f k (d : Int)) ((2 ^ d : Nat) : Int) := bit_l0 d hd d 0 (by omega)

theorem div_bit (A : BitVec 16) (d : Nat) : (Int.tmod (wrap64 (Int.tdiv (wrap64 (A.toNat : Int)) ((2 ^ d : Nat) : Int))) 2 == 1) = A.getLsbD d := by
  have hA := A.isLt
  rw [wrap64_id (A.toNat : Int) (by omega) (by omega)]
  have e1 : Int.tdiv (A.toNat : Int) ((2 ^ d : Nat) : Int) = ((A.toNat / 2 ^ d : Nat) : Int) := by
    rw [Int.tdiv_eq_ediv_of_nonneg (by omega)]; exact (Int.natCast_ediv _ _).symm
  have e2 : A.toNat / 2 ^ d ≤ A.toNat := Nat.div_le_self _ _
  have e4 : A.getLsbD d = decide (A.toNat / 2 ^ d % 2 = 1) := by
    rw [BitVec.getLsbD, Nat.testBit_eq_decide_div_mod_eq]
  rw [e1, e4]
  clear e1 e4
  generalize A.toNat / 2 ^ d = q at e2 ⊢
  have e3 : Int.tmod (q : Int) 2 = ((q % 2 : Nat) : Int) := by
    rw [Int.tmod_eq_emod_of_nonneg (by omega)]; exact (Int.natCast_emod _ _).symm
  rw [wrap64_id _ (by omega) (by omega), e3]
  by_cases h : q % 2 = 1
  · rw [h]; rfl
  · rw [decide_eq_false h]; exact beq_eq_false_iff_ne.2 (by omega)

theorem RefHas_ev (A : BitVec 16) (d : Int) : Ev (fun k => octroiref03_Has.f k A.toNat d) (hasB A d) := by
  unfold octroiref03_Has.f hasB
  refine Ev.bndc _ (is_eq d) ?_
  by_cases h : 0 ≤ d ∧ d < 16
  · obtain ⟨n, rfl⟩ := Int.eq_ofNat_of_zero_le h.1
    rw [decide_eq_true h, Bool.true_and]
    refine Ev.pos rfl ?_
    refine Ev.bnd _ (bit_ev n (by omega)) ?_
    refine Ev.neg (by have := Nat.two_pow_pos n; omega) ?_
    exact Ev.some_ (div_bit A n)
  · rw [decide_eq_false h, Bool.false_and]
    exact Ev.neg (by simp) (Ev.now _)

theorem RefAdd_ev (A : BitVec 16) (d : Int) : Ev (fun k => octroiref03_Add.f k A.toNat d) (cast2 (addS A d)) := by
  unfold octroiref03_Add.f
  refine Ev.bndc _ (is_eq d) ?_
  unfold addS cast2
  by_cases h : 0 ≤ d ∧ d < 16
  · refine Ev.pos (decide_eq_true h) ?_
    refine Ev.bnd _ (RefHas_ev A d) ?_
    rw [if_pos h]
    obtain ⟨n, rfl⟩ := Int.eq_ofNat_of_zero_le h.1
    have hh : hasB A (n : Int) = A.getLsbD n := by unfold hasB; rw [decide_eq_true h, Bool.true_and, Int.toNat_natCast]
    rw [hh, Int.toNat_natCast]
    by_cases hb : A.getLsbD n = true
    · rw [if_pos hb]; exact Ev.pos hb (Ev.some_ rfl)
    · rw [if_neg hb]
      refine Ev.neg hb ?_
      refine Ev.bnd _ (bit_ev n (by omega)) ?_
      refine Ev.some_ ?_
      have hn : n < 16 := by omega
      have hA := A.isLt
      have h2 : 2 ^ n ≤ 2 ^ 15 := Nat.pow_le_pow_right (by omega) (by omega)
      have e0 : A &&& 1#16 <<< n = 0#16 := by
        apply BitVec.eq_of_getLsbD_eq
        intro i hi
        rw [BitVec.getLsbD_and, bit_get n i hn]
        by_cases hid : i = n
        · subst hid; simp at hb; rw [hb]; simp
        · simp [hid]
      have e1 : (1#16 <<< n).toNat = 2 ^ n := by
        rw [BitVec.toNat_shiftLeft, Nat.shiftLeft_eq]; simp; omega
      have e2 : (A ||| 1#16 <<< n).toNat = (A.toNat + 2 ^ n) % 65536 := by
        rw [← BitVec.add_eq_or_of_and_eq_zero _ _ e0, BitVec.toNat_add, e1]
      rw [wrap64_id (A.toNat : Int) (by omega) (by omega), wrap64_id _ (by omega) (by omega), wrap16_mod, e2]
      congr 1
  · rw [if_neg h]
    exact Ev.neg (by rw [decide_eq_false h]; simp) (Ev.some_ rfl)

end Go.Proofs.Ytdhejpjggmikiaa.TagsPlain
