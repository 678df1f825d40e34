/- The reference's functions of prefix and filter: what they come to, without rounds. -/
import Derived.Test.YtdhejpjggmikiaaLx10
import Derived.Test.YtdhejpjggmikiaaLx7
import Derived.Test.YtdhejpjggmikiaaFilterPlain
namespace Go.Proofs.Ytdhejpjggmikiaa.FilterPlain
open Go Go.RowKit Go.Proofs.Ytdhejpjggmikiaa.L Go.Proofs.YtdhejpjggmikiaaW.PrintWords Go.Proofs.YtdhejpjggmikiaaW.PrintMore Go.Proofs.YtdhejpjggmikiaaPlain Go.Proofs.YtdhejpjggmikiaaBits

theorem RefMask_l0 (n : Nat) (hn : n ≤ 32) : ∀ (j i : Nat), i + j = n → ∀ b : Int, (i < 32 → b = ((2 ^ (31 - i) : Nat) : Int)) →
    Ev (fun k => octroiref02_Mask.l0 k (n : Int) ((2 ^ 32 - 2 ^ (32 - i) : Nat) : Int) b (i : Int)) ((M n).toNat : Int) := by
  intro j
  induction j with
  | zero =>
    intro i hi b _
    have : i = n := by omega
    subst this
    refine Ev.step (f := fun _ => some ((2 ^ 32 - 2 ^ (32 - i) : Nat) : Int)) (fun k => by simp only [octroiref02_Mask.l0]; rw [if_neg (by omega)]) (Ev.some_ ?_)
    rw [M_toNat i hn]
  | succ j ih =>
    intro i hi b hb
    have hb' := hb (by omega)
    subst hb'
    have h1 : 2 ^ (32 - i) = 2 * 2 ^ (31 - i) := by rw [show 32 - i = (31 - i) + 1 by omega, Nat.pow_succ]; omega
    have h2 : 2 ^ (32 - (i + 1)) = 2 ^ (31 - i) := by congr 1; omega
    have h3 : 2 ^ (31 - i) ≤ 2 ^ 31 := Nat.pow_le_pow_right (by omega) (by omega)
    have h4 := Nat.two_pow_pos (31 - i)
    have e1 : (((2 ^ 32 - 2 ^ (32 - i) : Nat) : Int) + ((2 ^ (31 - i) : Nat) : Int)) % 4294967296 = ((2 ^ 32 - 2 ^ (32 - (i + 1)) : Nat) : Int) := by
      rw [h2, h1]
      generalize 2 ^ (31 - i) = q at *
      omega
    refine Ev.step (f := fun k => octroiref02_Mask.l0 k (n : Int) ((2 ^ 32 - 2 ^ (32 - (i + 1)) : Nat) : Int) ((Int.tdiv ((2 ^ (31 - i) : Nat) : Int) 2) % 4294967296) ((i + 1 : Nat) : Int)) (fun k => ?_) (ih (i + 1) (by omega) _ (fun hi' => ?_))
    · simp only [octroiref02_Mask.l0]
      rw [if_pos (by omega), if_pos (by omega), e1, wrap64_nat i (by omega)]
    · rw [Int.tdiv_eq_ediv_of_nonneg (by omega)]
      have h5 : 2 ^ (31 - i) = 2 * 2 ^ (31 - (i + 1)) := by rw [show 31 - i = (31 - (i + 1)) + 1 by omega, Nat.pow_succ]; omega
      rw [h5] at h3 ⊢
      generalize 2 ^ (31 - (i + 1)) = q at *
      omega
theorem RefMask_ev (n : Nat) (hn : n ≤ 32) : Ev (fun k => octroiref02_Mask.f k (n : Int)) ((M n).toNat : Int) := by
  have := RefMask_l0 n hn n 0 (by omega) 2147483648 (fun _ => rfl)
  exact this

theorem and_self_iff (X Y : BitVec 32) : X &&& Y = X ↔ X &&& ~~~Y = 0#32 := by
  rw [inB_iff]
  constructor
  · intro h i hi
    rw [← h] at hi
    simp at hi
    exact hi.2
  · intro h
    apply BitVec.eq_of_getLsbD_eq
    intro i _
    have := h i
    rw [BitVec.getLsbD_and]
    cases hx : X.getLsbD i
    · rfl
    · simp [this hx]
theorem beq_bv (A B : BitVec 32) : ((A.toNat : Int) == (B.toNat : Int)) = decide (A = B) := by
  by_cases h : A = B
  · subst h; simp
  · rw [decide_eq_false h]; exact beq_eq_false_iff_ne.2 (fun h' => h (toNat_cast_inj.1 h'))

theorem RefMayP_ev (X : BitVec 32) (l : Int) : Ev (fun k => octroiref02_May.f k X.toNat l) (mayP X l) := by
  unfold octroiref02_May.f mayP
  by_cases h : 0 ≤ l ∧ l ≤ 32
  · obtain ⟨n, rfl⟩ := Int.eq_ofNat_of_zero_le h.1
    refine Ev.pos h.1 (Ev.pos h.2 ?_)
    refine Ev.bnd _ (RefMask_ev n (by omega)) ?_
    refine Ev.some_ ?_
    rw [decide_eq_true h, Bool.true_and, Int.toNat_natCast, and32, beq_bv, decide_eq_decide]
    exact and_self_iff _ _
  · rw [decide_eq_false h, Bool.false_and]
    refine Ev.ite (fun h1 => ?_) (fun _ => Ev.now _)
    exact Ev.neg (by omega) (Ev.now _)
theorem RefHasP_ev (X : BitVec 32) (l : Int) (Y : BitVec 32) : Ev (fun k => octroiref02_Has.f k X.toNat l Y.toNat) (hasP X l Y) := by
  unfold octroiref02_Has.f
  refine Ev.bnd _ (RefMayP_ev X l) ?_
  refine Ev.ite (fun hm => ?_) (fun hm => Ev.some_ ?_)
  · have hm' := hm
    unfold mayP at hm'
    obtain ⟨h, hX⟩ := Bool.and_eq_true_iff.1 hm'
    have h := of_decide_eq_true h
    have hX := of_decide_eq_true hX
    obtain ⟨n, rfl⟩ := Int.eq_ofNat_of_zero_le h.1
    rw [Int.toNat_natCast] at hX
    refine Ev.bnd _ (RefMask_ev n (by omega)) ?_
    refine Ev.some_ ?_
    unfold hasP
    rw [hm, Bool.true_and, Int.toNat_natCast, and32, beq_bv, decide_eq_decide]
    have hX' := (and_self_iff _ _).2 hX
    constructor
    · intro h1
      apply BitVec.eq_of_getLsbD_eq
      intro i _
      have a := congrArg (fun b => b.getLsbD i) h1
      have b := congrArg (fun b => b.getLsbD i) hX'
      simp only [BitVec.getLsbD_and, BitVec.getLsbD_xor, BitVec.getLsbD_zero] at a b ⊢
      revert a b
      cases Y.getLsbD i <;> cases X.getLsbD i <;> cases (M n).getLsbD i <;> simp
    · intro h1
      apply BitVec.eq_of_getLsbD_eq
      intro i _
      have a := congrArg (fun b => b.getLsbD i) h1
      have b := congrArg (fun b => b.getLsbD i) hX'
      simp only [BitVec.getLsbD_and, BitVec.getLsbD_xor, BitVec.getLsbD_zero] at a b ⊢
      revert a b
      cases Y.getLsbD i <;> cases X.getLsbD i <;> cases (M n).getLsbD i <;> simp
  · unfold hasP
    rw [Bool.eq_false_iff.2 hm, Bool.false_and]
theorem RefCoversP_ev (X : BitVec 32) (l : Int) (Y : BitVec 32) (m : Int) : Ev (fun k => octroiref02_Covers.f k X.toNat l Y.toNat m) (coversP X l Y m) := by
  unfold octroiref02_Covers.f coversP
  refine Ev.bnd _ (RefMayP_ev Y m) ?_
  refine Ev.bnd _ (RefHasP_ev X l Y) ?_
  refine Ev.const ?_
  cases mayP Y m <;> cases hasP X l Y <;> by_cases h : l ≤ m <;> simp [h]

theorem is_eq (d : Int) : octroiref03_is.f d = some (decide (0 ≤ d ∧ d < 16)) := by
  unfold octroiref03_is.f
  by_cases h : d ≥ 0
  · rw [if_pos h]; congr 1; by_cases h2 : d < 16 <;> simp [h2] <;> omega
  · rw [if_neg h]; congr 1; simp; omega
theorem bit_l0 (d : Nat) (hd : d < 16) : ∀ (j : Nat) (i : Nat), i + j = d → Ev (fun k => octroiref03_bit.l0 k (d : Int) ((2 ^ i : Nat) : Int) (i : Int)) ((2 ^ d : Nat) : Int) := by
  intro j
  induction j with
  | zero =>
    intro i hi
    have : i = d := by omega
    subst this
    exact Ev.step (f := fun _ => some ((2 ^ i : Nat) : Int)) (fun k => by simp only [octroiref03_bit.l0]; rw [if_neg (by omega)]) (Ev.now _)
  | succ j ih =>
    intro i hi
    refine Ev.step (f := fun k => octroiref03_bit.l0 k (d : Int) ((2 ^ (i + 1) : Nat) : Int) ((i + 1 : Nat) : Int)) (fun k => ?_) (ih (i + 1) (by omega))
    simp only [octroiref03_bit.l0]
    have h1 : 2 ^ i ≤ 2 ^ 15 := Nat.pow_le_pow_right (by omega) (by omega)
    have h2 : 2 ^ (i + 1) = 2 * 2 ^ i := by rw [Nat.pow_succ]; omega
    rw [if_pos (by omega), wrap64_nat i (by omega), wrap64_id _ (by omega) (by omega), h2]
    congr 1
theorem div_bit (A : BitVec 16) (d : Nat) : (Int.tmod (wrap64 (Int.tdiv (wrap64 (A.toNat : Int)) ((2 ^ d : Nat) : Int))) 2 == 1) = A.getLsbD d := by
  have hA := A.isLt
  rw [wrap64_id (A.toNat : Int) (by omega) (by omega)]
  have e1 : Int.tdiv (A.toNat : Int) ((2 ^ d : Nat) : Int) = ((A.toNat / 2 ^ d : Nat) : Int) := by
    rw [Int.tdiv_eq_ediv_of_nonneg (by omega)]; exact (Int.natCast_ediv _ _).symm
  have e2 : A.toNat / 2 ^ d ≤ A.toNat := Nat.div_le_self _ _
  have e4 : A.getLsbD d = decide (A.toNat / 2 ^ d % 2 = 1) := by
    rw [BitVec.getLsbD, Nat.testBit_eq_decide_div_mod_eq]
  rw [e1, e4]
  clear e1 e4
  generalize A.toNat / 2 ^ d = q at e2 ⊢
  have e3 : Int.tmod (q : Int) 2 = ((q % 2 : Nat) : Int) := by
    rw [Int.tmod_eq_emod_of_nonneg (by omega)]; exact (Int.natCast_emod _ _).symm
  rw [wrap64_id _ (by omega) (by omega), e3]
  by_cases h : q % 2 = 1
  · rw [h]; rfl
  · rw [decide_eq_false h]; exact beq_eq_false_iff_ne.2 (by omega)
theorem RefHas_ev (A : BitVec 16) (n : Nat) (hn : n < 16) : Ev (fun k => octroiref03_Has.f k A.toNat (n : Int)) (A.getLsbD n) := by
  unfold octroiref03_Has.f
  refine Ev.bndc _ (is_eq n) ?_
  refine Ev.pos (decide_eq_true (by omega)) ?_
  refine Ev.bnd ((2 ^ n : Nat) : Int) (bit_l0 n hn n 0 (by omega)) ?_
  refine Ev.neg (by have := Nat.two_pow_pos n; omega) ?_
  exact Ev.some_ (div_bit A n)

/-- The domains from d on: does the tag have what must be, and nothing that must not? -/
def tagsOk (T H N : BitVec 16) : Nat → Nat → Bool
  | 0, _ => true
  | j + 1, d => if H.getLsbD d = true then (if T.getLsbD d = true then (if N.getLsbD d = true then false else tagsOk T H N j (d + 1)) else false) else (if N.getLsbD d = true then (if T.getLsbD d = true then false else tagsOk T H N j (d + 1)) else tagsOk T H N j (d + 1))
theorem tagsOk_iff (T H N : BitVec 16) : ∀ (j d : Nat), tagsOk T H N j d = true ↔ ∀ i, d ≤ i → i < d + j → (H.getLsbD i = true → T.getLsbD i = true) ∧ ¬ (N.getLsbD i = true ∧ T.getLsbD i = true) := by
  intro j
  induction j with
  | zero => intro d; simp [tagsOk]; intro i h1 h2; omega
  | succ j ih =>
    intro d
    have hsplit : (∀ i, d ≤ i → i < d + (j + 1) → (H.getLsbD i = true → T.getLsbD i = true) ∧ ¬ (N.getLsbD i = true ∧ T.getLsbD i = true)) ↔ ((H.getLsbD d = true → T.getLsbD d = true) ∧ ¬ (N.getLsbD d = true ∧ T.getLsbD d = true)) ∧ ∀ i, d + 1 ≤ i → i < d + 1 + j → (H.getLsbD i = true → T.getLsbD i = true) ∧ ¬ (N.getLsbD i = true ∧ T.getLsbD i = true) := by
      constructor
      · intro h; exact ⟨h d (by omega) (by omega), fun i h1 h2 => h i (by omega) (by omega)⟩
      · rintro ⟨h0, h⟩ i h1 h2
        by_cases hi : i = d
        · subst hi; exact h0
        · exact h i (by omega) (by omega)
    rw [hsplit, ← ih (d + 1)]
    cases hH : H.getLsbD d <;> cases hT : T.getLsbD d <;> cases hN : N.getLsbD d <;> simp [tagsOk, hH, hT, hN]
theorem tagsOk_eq (T H N : BitVec 16) : tagsOk T H N 16 0 = (decide (H &&& ~~~T = 0#16) && decide (N &&& T = 0#16)) := by
  rw [Bool.eq_iff_iff, tagsOk_iff, Bool.and_eq_true, decide_eq_true_eq, decide_eq_true_eq, inB_iff]
  constructor
  · intro h
    refine ⟨fun i hi => (h i (by omega) (by have := BitVec.lt_of_getLsbD hi; omega)).1 hi, ?_⟩
    apply BitVec.eq_of_getLsbD_eq
    intro i hi
    have := (h i (by omega) (by omega)).2
    rw [BitVec.getLsbD_and]
    cases hN : N.getLsbD i <;> cases hT : T.getLsbD i <;> simp_all
  · rintro ⟨h1, h2⟩ i _ _
    refine ⟨h1 i, fun h => ?_⟩
    have := congrArg (fun b => b.getLsbD i) h2
    simp only [BitVec.getLsbD_and, BitVec.getLsbD_zero] at this
    rw [h.1, h.2] at this
    cases this

theorem RefFits_l0 (T H N : BitVec 16) (c1 : Bool) (c2 c3 c4 c5 : Int) : ∀ (j d : Nat), d + j = 16 → Ev (fun k => octroiref13_fits.l0 k T.toNat d c1 c2 c3 c4 c5 H.toNat N.toNat) (tagsOk T H N j d) := by
  intro j
  induction j with
  | zero =>
    intro d hd
    exact Ev.step (f := fun _ => some true) (fun k => by simp only [octroiref13_fits.l0]; rw [if_neg (by omega)]) (Ev.some_ rfl)
  | succ j ih =>
    intro d hd
    refine Ev.step (fun k => by simp only [octroiref13_fits.l0]; rw [if_pos (by omega), wrap64_nat d (by omega)]) ?_
    refine Ev.bnd _ (RefHas_ev T d (by omega)) ?_
    refine Ev.bnd _ (RefHas_ev H d (by omega)) ?_
    refine Ev.bnd _ (RefHas_ev N d (by omega)) ?_
    have hi := ih (d + 1) (by omega)
    simp only [tagsOk]
    refine Ev.ite (fun h1 => ?_) (fun h1 => ?_)
    · rw [if_pos h1]
      refine Ev.ite (fun h2 => ?_) (fun h2 => ?_)
      · rw [if_pos h2]
        refine Ev.ite (fun h3 => ?_) (fun h3 => ?_)
        · rw [if_pos h3]; exact Ev.now _
        · rw [if_neg h3]; exact hi
      · rw [if_neg h2]; exact Ev.now _
    · rw [if_neg h1]
      refine Ev.ite (fun h2 => ?_) (fun h2 => ?_)
      · rw [if_pos h2]
        refine Ev.ite (fun h3 => ?_) (fun h3 => ?_)
        · rw [if_pos h3]; exact Ev.now _
        · rw [if_neg h3]; exact hi
      · rw [if_neg h2]; exact hi

theorem RefFits_ev (x : Ru) (Y : BitVec 32) (m : Int) (T : BitVec 16) : Ev (fun k => octroiref13_fits.f k x.permit x.addr.toNat x.len x.ge x.le x.has.toNat x.no.toNat Y.toNat m T.toNat) (fitsR x Y m T) := by
  unfold octroiref13_fits.f
  have hj : ∀ b : Bool, (b = true → fitsR x Y m T = false) → (b = false → fitsR x Y m T = tagsOk T x.has x.no 16 0) → Ev (fun k => octroiref13_fits.j0 k T.toNat b x.permit x.addr.toNat x.len x.ge x.le x.has.toNat x.no.toNat) (fitsR x Y m T) := by
    intro b h1 h2
    refine Ev.step (fun k => by simp only [octroiref13_fits.j0]; rfl) ?_
    refine Ev.ite (fun h => Ev.some_ (h1 h).symm) (fun h => ?_)
    rw [h2 (by simpa using h)]
    exact RefFits_l0 _ _ _ _ _ _ _ _ 16 0 (by omega)
  refine Ev.bnd _ (RefCoversP_ev _ _ _ _) ?_
  refine Ev.ite (fun hc => ?_) (fun hc => ?_)
  · refine Ev.ite (fun h1 => hj _ (fun _ => ?_) (fun h => by cases h)) (fun h1 => hj _ (fun h2 => ?_) (fun h2 => ?_))
    · unfold fitsR; rw [decide_eq_true h1]; simp
    · unfold fitsR; rw [decide_eq_true (of_decide_eq_true h2)]; simp
    · unfold fitsR; rw [tagsOk_eq, hc, decide_eq_false h1, decide_eq_false (of_decide_eq_false h2)]; simp
  · refine hj _ (fun _ => ?_) (fun h => by cases h)
    unfold fitsR; rw [Bool.eq_false_iff.2 hc]; simp

theorem RefPermits_l0 (l : List Ru) (hl : l.length ≤ maxLen) (Y : BitVec 32) (m : Int) (T : BitVec 16) : ∀ (r : List Ru) (i : Nat), l.drop i = r → i ≤ l.length →
    Ev (fun k => octroiref13_Permits.l0 k (l.map Ru.s) T.toNat i Y.toNat m) (permR Y m T r i) := by
  intro r
  induction r with
  | nil =>
    intro i h hi
    have := drop_nil h hi
    exact Ev.step (f := fun _ => some (false, (-1 : Int))) (fun k => by simp only [octroiref13_Permits.l0]; rw [if_neg (by simp; omega)]) (Ev.some_ rfl)
  | cons x r ih =>
    intro i h hi
    obtain ⟨hlt, hr, _⟩ := drop_cons h
    have hx := rd_map l i x r h
    refine Ev.step (fun k => by simp only [octroiref13_Permits.l0]; rw [if_pos (by simp; omega), if_pos (by omega), hx, wrap64_nat i (by unfold maxLen at hl; omega)]) ?_
    simp only [Ru.s]
    refine Ev.bnd _ (RefFits_ev x Y m T) ?_
    simp only [permR]
    refine Ev.ite (fun h1 => ?_) (fun h1 => ?_)
    · rw [if_pos h1]; exact Ev.now _
    · rw [if_neg h1]; exact ih (i + 1) hr (by omega)
theorem RefPermits_ev (l : List Ru) (hl : l.length ≤ maxLen) (Y : BitVec 32) (m : Int) (T : BitVec 16) : Ev (fun k => octroiref13_Permits.f k (l.map Ru.s) Y.toNat m T.toNat) (permR Y m T l 0) := RefPermits_l0 l hl Y m T l 0 rfl (by omega)

theorem RefMayF_l0 (l : List Ru) (hl : l.length ≤ maxLen) : ∀ (r : List Ru) (i : Nat), l.drop i = r → i ≤ l.length → Ev (fun k => octroiref13_May.l0 k (l.map Ru.s) i) (r.all okR) := by
  intro r
  induction r with
  | nil =>
    intro i h hi
    have := drop_nil h hi
    exact Ev.step (f := fun _ => some true) (fun k => by simp only [octroiref13_May.l0]; rw [if_neg (by simp; omega)]) (Ev.some_ rfl)
  | cons x r ih =>
    intro i h hi
    obtain ⟨hlt, hr, _⟩ := drop_cons h
    have hx := rd_map l i x r h
    refine Ev.step (fun k => by simp only [octroiref13_May.l0]; rw [if_pos (by simp; omega), if_pos (by omega), hx, wrap64_nat i (by unfold maxLen at hl; omega)]) ?_
    simp only [Ru.s]
    refine Ev.bnd _ (RefMayP_ev x.addr x.len) ?_
    simp only [List.all_cons]
    refine Ev.ite (fun h1 => ?_) (fun h1 => Ev.some_ (by unfold okR; rw [Bool.eq_false_iff.2 h1]; simp))
    refine Ev.ite (fun h2 => Ev.some_ (by unfold okR; rw [decide_eq_true h2]; simp)) (fun h2 => ?_)
    refine Ev.ite (fun h3 => Ev.some_ (by unfold okR; rw [decide_eq_true h3]; simp)) (fun h3 => ?_)
    refine Ev.ite (fun h4 => Ev.some_ (by unfold okR; rw [decide_eq_true h4]; simp)) (fun h4 => ?_)
    refine Ev.eq (ih (i + 1) hr (by omega)) ?_
    have : okR x = true := by unfold okR; rw [h1, decide_eq_false h2, decide_eq_false h3, decide_eq_false h4]; rfl
    rw [this, Bool.true_and]
theorem RefMayF_ev (l : List Ru) (hl : l.length ≤ maxLen) : Ev (fun k => octroiref13_May.f k (l.map Ru.s)) (mayF l) := by
  unfold octroiref13_May.f mayF
  rw [List.length_map]
  refine Ev.ite (fun h => Ev.some_ ?_) (fun h => ?_)
  · rw [decide_eq_false (by omega), Bool.and_false]
  · refine Ev.eq (RefMayF_l0 l hl l 0 rfl (by omega)) ?_
    rw [decide_eq_true (by omega), Bool.and_true]
end Go.Proofs.Ytdhejpjggmikiaa.FilterPlain
