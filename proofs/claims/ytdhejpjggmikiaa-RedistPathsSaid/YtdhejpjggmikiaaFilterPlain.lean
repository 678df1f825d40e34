/- The functions of prefix and filter: what they come to, without rounds. -/
import Derived.Test.YtdhejpjggmikiaaLx5
import Derived.Test.YtdhejpjggmikiaaLx3
import Derived.Test.YtdhejpjggmikiaaBits
namespace Go.Proofs.Ytdhejpjggmikiaa.FilterPlain
open Go Go.RowKit Go.Proofs.Ytdhejpjggmikiaa.L Go.Proofs.YtdhejpjggmikiaaW.PrintWords Go.Proofs.YtdhejpjggmikiaaW.PrintMore Go.Proofs.YtdhejpjggmikiaaPlain Go.Proofs.YtdhejpjggmikiaaBits

def M (n : Nat) : BitVec 32 := BitVec.allOnes 32 <<< (32 - n)
theorem M_get (n j : Nat) (hj : j < 32) : (M n).getLsbD j = decide (32 - n ≤ j) := by
  unfold M
  rw [BitVec.getLsbD_shiftLeft, BitVec.getLsbD_allOnes]
  by_cases h : 32 - n ≤ j
  · have h1 : ¬ j < 32 - n := by omega
    have h2 : j - (32 - n) < 32 := by omega
    simp [hj, h, h1, h2]
  · have h1 : j < 32 - n := by omega
    simp [h, h1]
theorem M_toNat (n : Nat) (hn : n ≤ 32) : (M n).toNat = 2 ^ 32 - 2 ^ (32 - n) := by
  unfold M
  rw [BitVec.toNat_shiftLeft, BitVec.toNat_allOnes, Nat.shiftLeft_eq]
  have h : 2 ^ (32 - n) * 2 ^ n = 2 ^ 32 := by rw [← Nat.pow_add]; congr 1; omega
  have h1 := Nat.two_pow_pos n
  have h2 := Nat.two_pow_pos (32 - n)
  have e : (2 ^ 32 - 1) * 2 ^ (32 - n) = 2 ^ 32 * (2 ^ (32 - n) - 1) + (2 ^ 32 - 2 ^ (32 - n)) := by
    have h3 : 2 ^ (32 - n) ≤ 2 ^ 32 := Nat.pow_le_pow_right (by omega) (by omega)
    generalize 2 ^ (32 - n) = q at *
    omega
  rw [e, Nat.mul_add_mod, Nat.mod_eq_of_lt]
  omega

theorem Mask_eq (n : Nat) (hn : n ≤ 32) : prefix_Mask.f (n : Int) = some ((M n).toNat : Int) := by
  unfold prefix_Mask.f mx mn
  have e : (32 - (if (0 : Int) < (if (32 : Int) < (n : Int) then 32 else (n : Int)) then (if (32 : Int) < (n : Int) then 32 else (n : Int)) else 0)).toNat = 32 - n := by
    rw [if_neg (show ¬ (32 : Int) < (n : Int) by omega)]
    by_cases h : (0 : Int) < (n : Int)
    · rw [if_pos h]; omega
    · rw [if_neg h]; omega
  rw [e, M_toNat n hn]
  congr 1
  have h2 := Nat.two_pow_pos (32 - n)
  have h3 : 2 ^ (32 - n) ≤ 2 ^ 32 := Nat.pow_le_pow_right (by omega) (by omega)
  have h4 : ((2 : Int) ^ (32 - n)) = ((2 ^ (32 - n) : Nat) : Int) := by simp
  rw [h4]
  generalize 2 ^ (32 - n) = q at *
  omega

/-- May a prefix be? -/
def mayP (X : BitVec 32) (l : Int) : Bool := decide (0 ≤ l ∧ l ≤ 32) && decide (X &&& ~~~(M l.toNat) = 0#32)
theorem bveq0 (A : BitVec 32) : ((A.toNat : Int) == 0) = decide (A = 0#32) := by
  have e : (0 : Int) = ((0#32).toNat : Int) := rfl
  rw [e]
  by_cases h : A = 0#32
  · rw [h]; rfl
  · rw [decide_eq_false h]; exact beq_eq_false_iff_ne.2 (fun h' => h (toNat_cast_inj.1 h'))
theorem bveq0_16 (A : BitVec 16) : ((A.toNat : Int) == 0) = decide (A = 0#16) := by
  have e : (0 : Int) = ((0#16).toNat : Int) := rfl
  rw [e]
  by_cases h : A = 0#16
  · rw [h]; rfl
  · rw [decide_eq_false h]; exact beq_eq_false_iff_ne.2 (fun h' => h (toNat_cast_inj.1 h'))
theorem MayP_eq (X : BitVec 32) (l : Int) : prefix_May.f X.toNat l = some (mayP X l) := by
  unfold prefix_May.f mayP
  by_cases h : 0 ≤ l ∧ l ≤ 32
  · obtain ⟨n, rfl⟩ := Int.eq_ofNat_of_zero_le h.1
    rw [if_pos h.1, if_pos h.2, Mask_eq n (by omega), decide_eq_true h]
    simp only [Option.bind_some, Bool.true_and, Int.toNat_natCast]
    rw [andNot32, bveq0]
  · rw [decide_eq_false h, Bool.false_and]
    by_cases h1 : l ≥ 0
    · rw [if_pos h1, if_neg (by omega)]
    · rw [if_neg h1]
def hasP (X : BitVec 32) (l : Int) (Y : BitVec 32) : Bool := mayP X l && decide ((Y ^^^ X) &&& M l.toNat = 0#32)
theorem HasP_eq (X : BitVec 32) (l : Int) (Y : BitVec 32) : prefix_Has.f X.toNat l Y.toNat = some (hasP X l Y) := by
  unfold prefix_Has.f hasP
  rw [MayP_eq]
  simp only [Option.bind_some]
  cases hm : mayP X l with
  | false => simp
  | true =>
    have h : 0 ≤ l ∧ l ≤ 32 := by
      unfold mayP at hm
      exact of_decide_eq_true (Bool.and_eq_true_iff.1 hm).1
    obtain ⟨n, rfl⟩ := Int.eq_ofNat_of_zero_le h.1
    rw [if_pos rfl, Mask_eq n (by omega)]
    simp only [Option.bind_some, Bool.true_and, Int.toNat_natCast]
    rw [xor32, and32, bveq0]
def coversP (X : BitVec 32) (l : Int) (Y : BitVec 32) (m : Int) : Bool := mayP Y m && decide (l ≤ m) && hasP X l Y
theorem CoversP_eq (X : BitVec 32) (l : Int) (Y : BitVec 32) (m : Int) : prefix_Covers.f X.toNat l Y.toNat m = some (coversP X l Y m) := by
  unfold prefix_Covers.f coversP
  rw [MayP_eq, HasP_eq]
  simp only [Option.bind_some]
  cases mayP Y m with
  | false => simp
  | true =>
    rw [if_pos rfl]
    by_cases h : l ≤ m
    · rw [if_pos h, decide_eq_true h]; simp
    · rw [if_neg h, decide_eq_false h]; simp

/-- A rule, its numbers as bits. -/
structure Ru where
  permit : Bool
  addr : BitVec 32
  len : Int
  ge : Int
  le : Int
  has : BitVec 16
  no : BitVec 16
def Ru.s (x : Ru) : S61 := ⟨x.permit, (⟨(x.addr.toNat : Int), x.len⟩ : S28), x.ge, x.le, (x.has.toNat : Int), (x.no.toNat : Int)⟩

def fitsR (x : Ru) (Y : BitVec 32) (m : Int) (T : BitVec 16) : Bool :=
  coversP x.addr x.len Y m && !decide (m < x.ge) && !decide (m > x.le) && decide (x.has &&& ~~~T = 0#16) && decide (x.no &&& T = 0#16)
def permR (Y : BitVec 32) (m : Int) (T : BitVec 16) : List Ru → Nat → Bool × Int
  | [], _ => (false, -1)
  | x :: r, i => if fitsR x Y m T = true then (x.permit, (i : Int)) else permR Y m T r (i + 1)

theorem rd_map (l : List Ru) (i : Nat) (x : Ru) (r : List Ru) (h : l.drop i = x :: r) : rd_T61 (l.map Ru.s) (i : Int) = x.s := by
  obtain ⟨hi, _, hx⟩ := drop_cons h
  unfold rd_T61
  rw [Int.toNat_natCast, List.getD_eq_getElem?_getD, List.getElem?_map]
  have := hx x
  rw [List.getD_eq_getElem?_getD] at this
  rw [List.getElem?_eq_getElem hi] at this ⊢
  simp at this
  simp [this]

theorem wi16 (A B : BitVec 16) : tags_Within.f (A.toNat : Int) (B.toNat : Int) = some (decide (A &&& ~~~B = 0#16)) := by
  unfold tags_Within.f
  rw [andNot16, bveq0_16]

theorem Permits_l0 (l : List Ru) (hl : l.length ≤ maxLen) (Y : BitVec 32) (m : Int) (T : BitVec 16) : ∀ (r : List Ru) (i : Nat), l.drop i = r → i ≤ l.length →
    Ev (fun k => filter_Permits.l0 k T.toNat false (-1) (l.map Ru.s) (l.length : Int) i Y.toNat m) (permR Y m T r i) := by
  intro r
  induction r with
  | nil =>
    intro i h hi
    have := drop_nil h hi
    exact Ev.step (f := fun _ => some (false, (-1 : Int))) (fun k => by simp only [filter_Permits.l0]; rw [if_neg (by omega)]) (Ev.some_ rfl)
  | cons x r ih =>
    intro i h hi
    obtain ⟨hlt, hr, _⟩ := drop_cons h
    have hx := rd_map l i x r h
    have hnext : fitsR x Y m T = false → Ev (fun k => filter_Permits.l0 k T.toNat false (-1) (l.map Ru.s) (l.length : Int) (wrap64 ((i : Int) + 1)) Y.toNat m) (permR Y m T (x :: r) i) := fun hf => by
      rw [wrap64_nat i (by unfold maxLen at hl; omega)]
      simp only [permR, hf]
      exact ih (i + 1) hr (by omega)
    have hj : ∀ (b : Bool), (b = true → fitsR x Y m T = false) → (b = false → fitsR x Y m T = (decide (x.has &&& ~~~T = 0#16) && decide (x.no &&& T = 0#16))) →
        Ev (fun k => filter_Permits.j1 k T.toNat false (-1) i (l.map Ru.s) (l.length : Int) i b Y.toNat m x.permit x.addr.toNat x.len x.ge x.le x.has.toNat x.no.toNat) (permR Y m T (x :: r) i) := by
      intro b hb1 hb2
      refine Ev.step (fun k => by simp only [filter_Permits.j1]; rfl) ?_
      refine Ev.ite (fun hb => hnext (hb1 hb)) (fun hb => ?_)
      have hb2' := hb2 (by simpa using hb)
      refine Ev.bndc _ (wi16 x.has T) ?_
      refine Ev.ite (fun h1 => ?_) (fun h1 => hnext (by rw [hb2', Bool.eq_false_iff.2 h1]; rfl))
      rw [and16]
      refine Ev.ite (fun h2 => ?_) (fun h2 => hnext ?_)
      · have h2' : decide (x.no &&& T = 0#16) = true := by
          rw [← bveq0_16]; exact beq_iff_eq.2 h2
        refine Ev.some_ ?_
        simp only [permR, hb2', h1, h2', Bool.and_self, if_true]
      · have h2' : decide (x.no &&& T = 0#16) = false := by
          rw [← bveq0_16]; exact beq_eq_false_iff_ne.2 h2
        rw [hb2', h1, h2']; rfl
    refine Ev.step (fun k => by simp only [filter_Permits.l0]; rw [if_pos (by omega), if_pos (by omega), if_pos (by simp; omega), hx]) ?_
    simp only [Ru.s]
    refine Ev.bndc _ (CoversP_eq x.addr x.len Y m) ?_
    refine Ev.ite (fun hc => ?_) (fun hc => ?_)
    · refine Ev.ite (fun h1 => ?_) (fun h1 => ?_)
      · refine hj _ (fun _ => ?_) (fun h2 => ?_)
        · unfold fitsR; rw [decide_eq_true h1]; simp
        · exact absurd h1 (of_decide_eq_false h2)
      · refine hj _ (fun h2 => ?_) (fun h2 => ?_)
        · unfold fitsR; rw [decide_eq_true (of_decide_eq_true h2)]; simp
        · unfold fitsR; rw [hc, decide_eq_false h1, decide_eq_false (of_decide_eq_false h2)]; simp
    · have hc' : coversP x.addr x.len Y m = false := Bool.eq_false_iff.2 hc
      refine hj _ (fun _ => ?_) (fun h2 => ?_)
      · unfold fitsR; rw [hc']; simp
      · rw [hc'] at h2; simp at h2
theorem Permits_ev (l : List Ru) (hl : l.length ≤ maxLen) (Y : BitVec 32) (m : Int) (T : BitVec 16) : Ev (fun k => filter_Permits.f k (l.map Ru.s) Y.toNat m T.toNat) (permR Y m T l 0) := by
  have := Permits_l0 l hl Y m T l 0 rfl (by omega)
  unfold filter_Permits.f
  rw [List.length_map]
  exact this

def okR (x : Ru) : Bool := mayP x.addr x.len && !decide (x.len > x.ge) && !decide (x.ge > x.le) && !decide (x.le > 32)
def mayF (l : List Ru) : Bool := l.all okR && decide (l.length ≤ 32)
theorem MayF_l0 (l : List Ru) (hl : l.length ≤ maxLen) : ∀ (r : List Ru) (i : Nat), l.drop i = r → i ≤ l.length →
    Ev (fun k => filter_May.l0 k (l.map Ru.s) (l.map Ru.s) (l.length : Int) i) (r.all okR && decide (l.length ≤ 32)) := by
  intro r
  induction r with
  | nil =>
    intro i h hi
    have := drop_nil h hi
    refine Ev.step (f := fun _ => some (decide (((l.map Ru.s).length : Int) ≤ 32))) (fun k => by simp only [filter_May.l0]; rw [if_neg (by omega)]) (Ev.some_ ?_)
    simp; omega
  | cons x r ih =>
    intro i h hi
    obtain ⟨hlt, hr, _⟩ := drop_cons h
    have hx := rd_map l i x r h
    refine Ev.step (fun k => by simp only [filter_May.l0]; rw [if_pos (by omega), if_pos (by omega), if_pos (by simp; omega), hx, wrap64_nat i (by unfold maxLen at hl; omega)]) ?_
    simp only [Ru.s]
    refine Ev.bndc _ (MayP_eq x.addr x.len) ?_
    simp only [List.all_cons]
    refine Ev.ite (fun h1 => ?_) (fun h1 => Ev.some_ (by unfold okR; rw [Bool.eq_false_iff.2 h1]; simp))
    refine Ev.ite (fun h2 => Ev.some_ (by unfold okR; rw [decide_eq_true h2]; simp)) (fun h2 => ?_)
    refine Ev.ite (fun h3 => Ev.some_ (by unfold okR; rw [decide_eq_true h3]; simp)) (fun h3 => ?_)
    refine Ev.ite (fun h4 => Ev.some_ (by unfold okR; rw [decide_eq_true h4]; simp)) (fun h4 => ?_)
    refine Ev.eq (ih (i + 1) hr (by omega)) ?_
    have : okR x = true := by unfold okR; rw [h1, decide_eq_false h2, decide_eq_false h3, decide_eq_false h4]; rfl
    rw [this, Bool.true_and]
theorem MayF_ev (l : List Ru) (hl : l.length ≤ maxLen) : Ev (fun k => filter_May.f k (l.map Ru.s)) (mayF l) := by
  have := MayF_l0 l hl l 0 rfl (by omega)
  unfold filter_May.f
  rw [List.length_map]
  exact this

/-- Rules that came in are rules of this form. -/
theorem ru_of (l : List S61) (h : ∀ y ∈ l, (Lit.int .u32 y.f1.f0).wf = true ∧ (Lit.int .u16 y.f4).wf = true ∧ (Lit.int .u16 y.f5).wf = true) : ∃ L : List Ru, l = L.map Ru.s := by
  induction l with
  | nil => exact ⟨[], rfl⟩
  | cons y r ih =>
    obtain ⟨L, rfl⟩ := ih (fun z hz => h z (by simp [hz]))
    obtain ⟨h1, h2, h3⟩ := h y (by simp)
    obtain ⟨X, hX⟩ := addr_of h1
    obtain ⟨P, hP⟩ := tag_of h2
    obtain ⟨Q, hQ⟩ := tag_of h3
    refine ⟨⟨y.f0, X, y.f1.f1, y.f2, y.f3, P, Q⟩ :: L, ?_⟩
    simp only [List.map_cons, Ru.s, ← hX, ← hP, ← hQ]
end Go.Proofs.Ytdhejpjggmikiaa.FilterPlain
