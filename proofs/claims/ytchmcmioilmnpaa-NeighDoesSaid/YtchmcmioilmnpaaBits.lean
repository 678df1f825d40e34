/- Bits of 16 and of 32: the printed words as bit vectors; how many bits are set. -/
import Derived.Test.YtchmcmioilmnpaaWMore
import Derived.Test.YtchmcmioilmnpaaPlain
import Derived.Laws.Entries
namespace Go.Proofs.YtchmcmioilmnpaaBits
open Go Go.RowKit Go.Proofs.YtchmcmioilmnpaaW.PrintWords Go.Proofs.YtchmcmioilmnpaaW.PrintMore Go.Proofs.YtchmcmioilmnpaaPlain

theorem bv_of_int {n : Nat} (A : BitVec n) : BitVec.ofInt n (A.toNat : Int) = A := by
  rw [BitVec.ofInt_natCast, BitVec.ofNat_toNat, BitVec.setWidth_eq]
theorem wrap16_nat (n : Nat) (h : n < 65536) : IntKind.u16.wrap (n : Int) = n := by
  have e : IntKind.u16.wrap (n : Int) = (n : Int) % 65536 := by simp [IntKind.wrap, IntKind.bits, IntKind.signed]
  rw [e]; omega
theorem wrap32_nat (n : Nat) (h : n < 4294967296) : IntKind.u32.wrap (n : Int) = n := by
  have e : IntKind.u32.wrap (n : Int) = (n : Int) % 4294967296 := by simp [IntKind.wrap, IntKind.bits, IntKind.signed]
  rw [e]; omega
theorem wrap16_mod (n : Int) : IntKind.u16.wrap n = n % 65536 := by simp [IntKind.wrap, IntKind.bits, IntKind.signed]
theorem wrap32_mod (n : Int) : IntKind.u32.wrap n = n % 4294967296 := by simp [IntKind.wrap, IntKind.bits, IntKind.signed]
theorem wrapu64_mod (n : Int) : IntKind.u64.wrap n = n % 18446744073709551616 := by simp [IntKind.wrap, IntKind.bits, IntKind.signed]

theorem and16 (A B : BitVec 16) : Go.bits .and .u16 (A.toNat : Int) (B.toNat : Int) = ((A &&& B).toNat : Int) := by
  show IntKind.u16.wrap ((BitVec.ofInt 16 (A.toNat : Int) &&& BitVec.ofInt 16 (B.toNat : Int)).toNat : Int) = _
  rw [bv_of_int, bv_of_int, wrap16_nat _ (A &&& B).isLt]
theorem or16 (A B : BitVec 16) : Go.bits .or .u16 (A.toNat : Int) (B.toNat : Int) = ((A ||| B).toNat : Int) := by
  show IntKind.u16.wrap ((BitVec.ofInt 16 (A.toNat : Int) ||| BitVec.ofInt 16 (B.toNat : Int)).toNat : Int) = _
  rw [bv_of_int, bv_of_int, wrap16_nat _ (A ||| B).isLt]
theorem andNot16 (A B : BitVec 16) : Go.bits .andNot .u16 (A.toNat : Int) (B.toNat : Int) = ((A &&& ~~~B).toNat : Int) := by
  show IntKind.u16.wrap ((BitVec.ofInt 16 (A.toNat : Int) &&& ~~~BitVec.ofInt 16 (B.toNat : Int)).toNat : Int) = _
  rw [bv_of_int, bv_of_int, wrap16_nat _ (A &&& ~~~B).isLt]
theorem and32 (A B : BitVec 32) : Go.bits .and .u32 (A.toNat : Int) (B.toNat : Int) = ((A &&& B).toNat : Int) := by
  show IntKind.u32.wrap ((BitVec.ofInt 32 (A.toNat : Int) &&& BitVec.ofInt 32 (B.toNat : Int)).toNat : Int) = _
  rw [bv_of_int, bv_of_int, wrap32_nat _ (A &&& B).isLt]
theorem or32 (A B : BitVec 32) : Go.bits .or .u32 (A.toNat : Int) (B.toNat : Int) = ((A ||| B).toNat : Int) := by
  show IntKind.u32.wrap ((BitVec.ofInt 32 (A.toNat : Int) ||| BitVec.ofInt 32 (B.toNat : Int)).toNat : Int) = _
  rw [bv_of_int, bv_of_int, wrap32_nat _ (A ||| B).isLt]
theorem xor32 (A B : BitVec 32) : Go.bits .xor .u32 (A.toNat : Int) (B.toNat : Int) = ((A ^^^ B).toNat : Int) := by
  show IntKind.u32.wrap ((BitVec.ofInt 32 (A.toNat : Int) ^^^ BitVec.ofInt 32 (B.toNat : Int)).toNat : Int) = _
  rw [bv_of_int, bv_of_int, wrap32_nat _ (A ^^^ B).isLt]
theorem andNot32 (A B : BitVec 32) : Go.bits .andNot .u32 (A.toNat : Int) (B.toNat : Int) = ((A &&& ~~~B).toNat : Int) := by
  show IntKind.u32.wrap ((BitVec.ofInt 32 (A.toNat : Int) &&& ~~~BitVec.ofInt 32 (B.toNat : Int)).toNat : Int) = _
  rw [bv_of_int, bv_of_int, wrap32_nat _ (A &&& ~~~B).isLt]

theorem tag_of {a : Int} (h : (Lit.int .u16 a).wf = true) : ∃ A : BitVec 16, a = (A.toNat : Int) := by
  obtain ⟨h0, h1⟩ := u16_of h
  exact ⟨BitVec.ofNat 16 a.toNat, by rw [BitVec.toNat_ofNat, Nat.mod_eq_of_lt (by omega)]; omega⟩
theorem addr_of {a : Int} (h : (Lit.int .u32 a).wf = true) : ∃ A : BitVec 32, a = (A.toNat : Int) := by
  obtain ⟨h0, h1⟩ := u32_of h
  exact ⟨BitVec.ofNat 32 a.toNat, by rw [BitVec.toNat_ofNat, Nat.mod_eq_of_lt (by omega)]; omega⟩

theorem toNat_cast_inj {n : Nat} {A B : BitVec n} : ((A.toNat : Int) = (B.toNat : Int)) ↔ A = B := by
  constructor
  · intro h; exact BitVec.eq_of_toNat_eq (by omega)
  · intro h; rw [h]

/-- 'tag >> d & 1 == 1'. -/
theorem shr_and1 (A : BitVec 16) (d : Nat) (hd : d < 16) : (Go.bits .and .u16 (shr .u16 (A.toNat : Int) (d : Int)) 1 == 1) = A.getLsbD d := by
  have e1 : shr .u16 (A.toNat : Int) (d : Int) = ((A >>> d).toNat : Int) := by
    show (A.toNat : Int) / 2 ^ min (d : Int).toNat 16 = _
    rw [Int.toNat_natCast, Nat.min_eq_left (by omega), BitVec.toNat_ushiftRight, Nat.shiftRight_eq_div_pow]
    simp
  have e2 : (1 : Int) = ((1#16).toNat : Int) := rfl
  rw [e1, e2, and16]
  have e3 : (((A >>> d) &&& 1#16).toNat : Int) = if A.getLsbD d = true then 1 else 0 := by
    have : (A >>> d) &&& 1#16 = BitVec.ofNat 16 (if A.getLsbD d = true then 1 else 0) := by
      apply BitVec.eq_of_getLsbD_eq
      intro i hi
      by_cases hi0 : i = 0
      · subst hi0
        cases h : A.getLsbD d <;> simp [h]
      · cases h : A.getLsbD d
        · simp [hi0, BitVec.getLsbD_one]
        · simp [hi0, BitVec.getLsbD_one]
    rw [this]
    cases A.getLsbD d <;> rfl
  rw [e3]
  cases A.getLsbD d <;> rfl

theorem shl1 (d : Nat) (hd : d < 16) : shl .u16 1 (d : Int) = ((1#16 <<< d).toNat : Int) := by
  show IntKind.u16.wrap (1 * 2 ^ min (d : Int).toNat 16) = _
  rw [Int.toNat_natCast, Nat.min_eq_left (by omega), wrap16_mod, BitVec.toNat_shiftLeft, Nat.shiftLeft_eq]
  simp

/-- 'a &^ b == 0'. -/
theorem inB_iff {n : Nat} (A B : BitVec n) : A &&& ~~~B = 0#n ↔ ∀ i, A.getLsbD i = true → B.getLsbD i = true := by
  constructor
  · intro h i hi
    have h1 : (A &&& ~~~B).getLsbD i = false := by rw [h]; simp
    have hlt : i < n := BitVec.lt_of_getLsbD hi
    simp [hi, hlt] at h1
    exact h1
  · intro h
    apply BitVec.eq_of_getLsbD_eq
    intro i hi
    have := h i
    cases ha : A.getLsbD i <;> cases hb : B.getLsbD i <;> simp_all

/-! how many bits are set -/
def pcF : Nat → Nat → Nat
  | 0, _ => 0
  | n + 1, x => x % 2 + pcF n (x / 2)
theorem pcF_le (n : Nat) : ∀ x, pcF n x ≤ n := by
  induction n with
  | zero => intro x; exact Nat.le_refl _
  | succ n ih => intro x; have := ih (x / 2); simp only [pcF]; omega
theorem pcF_zero (n : Nat) : pcF n 0 = 0 := by
  induction n with
  | zero => rfl
  | succ n ih => simp [pcF, ih]
theorem and_mod2 (a b : Nat) : (a &&& b) % 2 = if a % 2 = 1 ∧ b % 2 = 1 then 1 else 0 := by
  have h := @Nat.and_mod_two_eq_one a b
  by_cases hc : a % 2 = 1 ∧ b % 2 = 1
  · rw [if_pos hc]; exact h.2 hc
  · rw [if_neg hc]; have : ¬ (a &&& b) % 2 = 1 := fun h' => hc (h.1 h'); omega
theorem or_mod2 (a b : Nat) : (a ||| b) % 2 = if a % 2 = 1 ∨ b % 2 = 1 then 1 else 0 := by
  have h := @Nat.or_mod_two_eq_one a b
  by_cases hc : a % 2 = 1 ∨ b % 2 = 1
  · rw [if_pos hc]; exact h.2 hc
  · rw [if_neg hc]; have : ¬ (a ||| b) % 2 = 1 := fun h' => hc (h.1 h'); omega
theorem pcF_drop (n : Nat) : ∀ x, x < 2 ^ n → x ≠ 0 → pcF n (x &&& (x - 1)) + 1 = pcF n x := by
  induction n with
  | zero => intro x h h0; simp at h; omega
  | succ n ih =>
    intro x h h0
    have hp : 2 ^ (n + 1) = 2 * 2 ^ n := by rw [Nat.pow_succ]; omega
    simp only [pcF, Nat.and_div_two, and_mod2]
    by_cases ho : x % 2 = 1
    · rw [if_neg (by omega), show (x - 1) / 2 = x / 2 by omega, Nat.and_self]; omega
    · rw [if_neg (by omega), show (x - 1) / 2 = x / 2 - 1 by omega]
      have := ih (x / 2) (by omega) (by omega)
      omega
theorem pcF_split (n : Nat) : ∀ a b, pcF n (a ||| b) + pcF n (a &&& b) = pcF n a + pcF n b := by
  induction n with
  | zero => intro a b; rfl
  | succ n ih =>
    intro a b
    simp only [pcF, Nat.and_div_two, Nat.or_div_two, and_mod2, or_mod2]
    have := ih (a / 2) (b / 2)
    split <;> split <;> omega
theorem pcF_within (n : Nat) : ∀ a b, a &&& b = a → pcF n a ≤ pcF n b := by
  induction n with
  | zero => intro a b _; exact Nat.le_refl _
  | succ n ih =>
    intro a b h
    simp only [pcF]
    have h1 : a / 2 &&& b / 2 = a / 2 := by rw [← Nat.and_div_two, h]
    have h2 : (a &&& b) % 2 = a % 2 := by rw [h]
    rw [and_mod2] at h2
    have := ih _ _ h1
    split at h2 <;> omega
theorem pcF_zero_iff (n : Nat) : ∀ x, x < 2 ^ n → pcF n x = 0 → x = 0 := by
  intro x hx h
  by_cases h0 : x = 0
  · exact h0
  · have := pcF_drop n x hx h0; omega
theorem pcF_one (n d : Nat) (hd : d < n) : pcF n (2 ^ d) = 1 := by
  have h := pcF_drop n (2 ^ d) (Nat.pow_lt_pow_right (by omega) hd) (by have := Nat.two_pow_pos d; omega)
  have e : 2 ^ d &&& (2 ^ d - 1) = 0 := by
    rw [Nat.and_two_pow_sub_one_eq_mod, Nat.mod_self]
  rw [e, pcF_zero] at h
  omega
end Go.Proofs.YtchmcmioilmnpaaBits
