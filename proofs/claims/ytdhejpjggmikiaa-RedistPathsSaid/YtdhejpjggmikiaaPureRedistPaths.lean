/- A route that is handed on along a list of domains comes to its end just if no domain is there twice. -/
import Derived.Test.YtdhejpjggmikiaaLx17
import Derived.Test.YtdhejpjggmikiaaRedistPlain
import Derived.Test.YtdhejpjggmikiaaTagsPlain
namespace Go.Proofs.Ytdhejpjggmikiaa.Pure
open Go Go.RowKit Go.Proofs.Ytdhejpjggmikiaa.L Go.Proofs.YtdhejpjggmikiaaW.PrintWords Go.Proofs.YtdhejpjggmikiaaPlain Go.Proofs.YtdhejpjggmikiaaBits Go.Proofs.Ytdhejpjggmikiaa.RedistPlain
open Go.Proofs.Ytdhejpjggmikiaa.FilterPlain (mayP)
open Go.Proofs.Ytdhejpjggmikiaa.TagsPlain (hasB addS addS_mk cast2 ofS ofS_ok Of_ev Depth_ev pc)

theorem rd_nat (l : List Int) (i : Nat) (h : i < l.length) : rd l (i : Int) = l[i] := by
  unfold rd
  rw [Int.toNat_natCast, List.getD_eq_getElem?_getD, List.getElem?_eq_getElem h]
  rfl
theorem mem_take (l : List Int) (a : Nat) (ha : a ≤ l.length) (x : Int) : x ∈ l.take a ↔ ∃ i : Nat, i < a ∧ rd l (i : Int) = x := by
  rw [List.mem_iff_getElem]
  constructor
  · rintro ⟨i, hi, h⟩
    rw [List.length_take] at hi
    refine ⟨i, by omega, ?_⟩
    rw [rd_nat l i (by omega)]
    rw [List.getElem_take] at h
    exact h
  · rintro ⟨i, hi, h⟩
    refine ⟨i, by rw [List.length_take]; omega, ?_⟩
    rw [List.getElem_take, ← h, rd_nat l i (by omega)]
theorem ofS_snoc (B : BitVec 16) (d : Int) (h0 : (addS B d).2 = 0) : ∀ (l : List Int) (A : BitVec 16), ofS A l = (B, 0) → ofS A (l ++ [d]) = ((addS B d).1, 0) := by
  intro l
  induction l with
  | nil =>
    intro A h
    have : A = B := congrArg Prod.fst h
    subst this
    simp only [List.nil_append, ofS, if_pos h0]
  | cons c r ih =>
    intro A h
    by_cases hc : (addS A c).2 = 0
    · simp only [List.cons_append, ofS, if_pos hc] at h ⊢
      exact ih _ h
    · simp only [ofS, if_neg hc] at h
      exact absurd (congrArg Prod.snd h) hc

structure Inv (l : List Int) (a : Nat) (T : BitVec 16) : Prop where
  of : ofS 0 (l.take a) = (T, 0)
  once : ∀ i j : Nat, i < j → j ≤ a → rd l (i : Int) ≠ rd l (j : Int)
theorem Inv.bit {l : List Int} {a : Nat} {T : BitVec 16} (h : Inv l a T) (ha : a ≤ l.length) {x : Int} (hx : 0 ≤ x) : T.getLsbD x.toNat = true ↔ ∃ i : Nat, i < a ∧ rd l (i : Int) = x := by
  obtain ⟨_, _, h3, _⟩ := ofS_ok (l.take a) 0 (by rw [h.of])
  rw [h.of] at h3
  have := h3 x.toNat
  rw [show ((x.toNat : Nat) : Int) = x by omega] at this
  rw [this, ← mem_take l a ha x]
  simp
theorem Inv.deep {l : List Int} {a : Nat} {T : BitVec 16} (h : Inv l a T) (ha : a ≤ l.length) : pc T = a := by
  obtain ⟨_, _, _, h4⟩ := ofS_ok (l.take a) 0 (by rw [h.of])
  rw [h.of, List.length_take] at h4
  have : pc (0 : BitVec 16) = 0 := pcF_zero 16
  simp only at h4
  omega

section
variable {l : List Int} {a : Nat} (hl : l.length ≤ 40)
include hl

theorem l3_true (ha : a < l.length) : ∀ (n i : Nat), i + n = a + 1 → Ev (fun k => octroilaw15_RedistPaths.l3 k l (a : Int) true (i : Int)) true := by
  intro n
  induction n with
  | zero => intro i hi; exact Ev.step (f := fun _ => some true) (fun k => by simp only [octroilaw15_RedistPaths.l3]; rw [if_neg (by omega)]) (Ev.now _)
  | succ n ih =>
    intro i hi
    refine Ev.step (f := fun k => octroilaw15_RedistPaths.l3 k l (a : Int) true ((i + 1 : Nat) : Int)) (fun k => ?_) (ih (i + 1) (by omega))
    simp only [octroilaw15_RedistPaths.l3]
    rw [if_pos (by omega), if_pos (by trivial), wrap64_nat i (by omega)]
theorem l3_find (ha : a + 1 < l.length) : ∀ (n i : Nat), i + n = a + 1 → (∃ j : Nat, i ≤ j ∧ j ≤ a ∧ rd l (j : Int) = rd l ((a + 1 : Nat) : Int)) → Ev (fun k => octroilaw15_RedistPaths.l3 k l (a : Int) false (i : Int)) true := by
  intro n
  induction n with
  | zero => rintro i hi ⟨j, h1, h2, _⟩; omega
  | succ n ih =>
    rintro i hi ⟨j, h1, h2, h3⟩
    refine Ev.step (f := fun k => octroilaw15_RedistPaths.l3 k l (a : Int) (rd l (i : Int) == rd l ((a + 1 : Nat) : Int)) ((i + 1 : Nat) : Int)) (fun k => ?_) ?_
    · simp only [octroilaw15_RedistPaths.l3]
      rw [if_pos (by omega), if_neg (by simp), wrap64_nat a (by omega), if_pos (by omega), if_pos (by omega), if_pos (by omega), if_pos (by omega), wrap64_nat i (by omega)]
    · by_cases he : rd l (i : Int) = rd l ((a + 1 : Nat) : Int)
      · rw [he, beq_self_eq_true]; exact l3_true hl (by omega) n (i + 1) (by omega)
      · rw [beq_eq_false_iff_ne.2 he]
        refine ih (i + 1) (by omega) ⟨j, ?_, h2, h3⟩
        rcases Nat.lt_or_ge i j with h | h
        · omega
        · have : i = j := by omega
          subst this
          exact absurd h3 he
theorem j6_ev (hend : a + 1 = l.length ∨ (a + 1 < l.length ∧ ∃ j : Nat, j ≤ a ∧ rd l (j : Int) = rd l ((a + 1 : Nat) : Int))) : Ev (fun k => octroilaw15_RedistPaths.j6 k l (a : Int) false) true := by
  refine Ev.step (fun k => by simp only [octroilaw15_RedistPaths.j6]; rw [if_neg (by simp), wrap64_id _ (by omega) (by omega)]) ?_
  rcases hend with h | ⟨h, j, h1, h2⟩
  · exact Ev.pos (by omega) (Ev.now _)
  · refine Ev.neg (by omega) ?_
    exact l3_find hl h (a + 1) 0 (by omega) ⟨j, by omega, h1, h2⟩

theorem l2_ev (ha : a < l.length) (once : ∀ i j : Nat, i < j → j ≤ a → rd l (i : Int) ≠ rd l (j : Int)) (c0 c1 c2 c3 c4 c5 c6 : Int) (i : Nat) (hi : i ≤ a)
    (hK : Ev (fun k => octroilaw15_RedistPaths.l1 k l (a : Int) false ((i + 1 : Nat) : Int) c0 c1 c2 c3 c4 c5 c6) true) :
    ∀ (n j : Nat), j + n = i → Ev (fun k => octroilaw15_RedistPaths.l2 k l (a : Int) false (i : Int) (j : Int) c0 c1 c2 c3 c4 c5 c6) true := by
  intro n
  induction n with
  | zero =>
    intro j hj
    exact Ev.step (fun k => by simp only [octroilaw15_RedistPaths.l2]; rw [if_neg (by omega), wrap64_nat i (by omega)]) hK
  | succ n ih =>
    intro j hj
    refine Ev.step (f := fun k => octroilaw15_RedistPaths.l2 k l (a : Int) false (i : Int) ((j + 1 : Nat) : Int) c0 c1 c2 c3 c4 c5 c6) (fun k => ?_) (ih (j + 1) (by omega))
    simp only [octroilaw15_RedistPaths.l2]
    rw [if_pos (by omega), if_neg (by simp), if_pos (by omega), if_pos (by omega), if_pos (by omega), if_pos (by omega), wrap64_nat j (by omega), beq_eq_false_iff_ne.2 (fun h => once j i (by omega) hi h.symm)]
theorem l1_ev {T : BitVec 16} (ha : a < l.length) (hI : Inv l a T) (c0 c1 c2 c3 c4 c5 : Int)
    (hK : Ev (fun k => octroilaw15_RedistPaths.j6 k l (a : Int) false) true) :
    ∀ (n i : Nat), i + n = a + 1 → Ev (fun k => octroilaw15_RedistPaths.l1 k l (a : Int) false (i : Int) c0 c1 c2 c3 c4 c5 T.toNat) true := by
  intro n
  induction n with
  | zero =>
    intro i hi
    refine Ev.step (fun k => by simp only [octroilaw15_RedistPaths.l1]; rw [if_neg (by omega), if_pos (by omega), if_pos (by omega), Int.toNat_natCast]) ?_
    refine Ev.bnd _ (Of_ev (l.take a) (by rw [List.length_take]; unfold maxLen; omega)) ?_
    rw [hI.of]
    refine Ev.neg (by simp) (Ev.pos rfl (Ev.pos rfl ?_))
    refine Ev.bnd _ (Depth_ev T) ?_
    rw [hI.deep (by omega), show (((a : Nat) : Int) != (a : Int)) = false by simp]
    exact hK
  | succ n ih =>
    intro i hi
    refine Ev.step (fun k => by simp only [octroilaw15_RedistPaths.l1]; rw [if_pos (by omega)]) ?_
    exact l2_ev hl ha hI.once c0 c1 c2 c3 c4 c5 T.toNat i (by omega) (ih (i + 1) (by omega)) i 0 (by omega)
theorem j3_ev {T : BitVec 16} (ha : a < l.length) (hI : Inv l a T) (c0 c1 c2 c3 c4 c5 : Int)
    (hend : a + 1 = l.length ∨ (a + 1 < l.length ∧ ∃ j : Nat, j ≤ a ∧ rd l (j : Int) = rd l ((a + 1 : Nat) : Int))) :
    Ev (fun k => octroilaw15_RedistPaths.j3 k l (a : Int) c0 c1 c2 c3 c4 c5 T.toNat) true := by
  refine Ev.step (fun k => by simp only [octroilaw15_RedistPaths.j3]; rfl) ?_
  exact l1_ev hl ha hI c0 c1 c2 c3 c4 c5 (j6_ev hl hend) (a + 1) 0 (by omega)
end

theorem j2_true (l : List Int) (x y c0 c1 c2 c3 c4 c5 c6 : Int) : Ev (fun k => octroilaw15_RedistPaths.j2 k l x y true c0 c1 c2 c3 c4 c5 c6) true :=
  Ev.step (f := fun _ => some true) (fun k => by simp [octroilaw15_RedistPaths.j2]) (Ev.now _)

theorem l0_ev {l : List Int} (hl : l.length ≤ 40) : ∀ (n a : Nat) (T : BitVec 16) (met : Int), a + 1 + n = l.length → Inv l a T → (1 ≤ a → 0 ≤ rd l (a : Int) ∧ rd l (a : Int) < 16) → 0 ≤ met →
    Ev (fun k => octroilaw15_RedistPaths.l0 k l (a : Int) ((a + 1 : Nat) : Int) 0 0 (rd l (a : Int)) 0 met 0 T.toNat) true := by
  intro n
  induction n with
  | zero =>
    intro a T met hn hI _ _
    refine Ev.step (fun k => by simp only [octroilaw15_RedistPaths.l0]; rw [if_neg (by omega)]) ?_
    exact j3_ev hl (by omega) hI _ _ _ _ _ _ (.inl (by omega))
  | succ n ih =>
    intro a T met hn hI hr hmet
    have e0 : rd l 0 = rd l ((0 : Nat) : Int) := rfl
    by_cases h1 : rd l ((a + 1 : Nat) : Int) < 0
    · refine Ev.step (fun k => by simp only [octroilaw15_RedistPaths.l0]; rw [if_pos (by omega), if_pos (by omega), if_pos h1]) ?_
      exact j2_true ..
    by_cases h2 : rd l ((a + 1 : Nat) : Int) ≥ 16
    · refine Ev.step (fun k => by simp only [octroilaw15_RedistPaths.l0]; rw [if_pos (by omega), if_pos (by omega), if_neg h1, if_pos h2]) ?_
      exact j2_true ..
    by_cases h3 : rd l 0 < 0
    · refine Ev.step (fun k => by simp only [octroilaw15_RedistPaths.l0]; rw [if_pos (by omega), if_pos (by omega), if_neg h1, if_neg h2, if_pos (by omega), if_pos h3]) ?_
      exact j2_true ..
    refine Ev.step (fun k => by simp only [octroilaw15_RedistPaths.l0]; rw [if_pos (by omega), if_pos (by omega), if_neg h1, if_neg h2, if_pos (by omega), if_neg h3]) ?_
    by_cases h4 : rd l 0 ≥ 16
    · rw [decide_eq_true h4]; exact j2_true ..
    rw [decide_eq_false h4]
    have hdom : 0 ≤ rd l (a : Int) ∧ rd l (a : Int) < 16 := by
      by_cases h : a = 0
      · subst h; rw [← e0]; omega
      · exact hr (by omega)
    have hx : 0 ≤ rd l ((a + 1 : Nat) : Int) ∧ rd l ((a + 1 : Nat) : Int) < 16 := by omega
    refine Ev.step (fun k => by simp only [octroilaw15_RedistPaths.j2]; rw [if_neg (by simp), if_pos (by omega), if_pos (by omega), wrap64_nat (a + 1) (by omega)]) ?_
    refine Ev.bndc _ (all_eq _ _) ?_
    refine Ev.bnd _ (Pass_ev (rd l (a : Int)) (rd l ((a + 1 : Nat) : Int)) [r0] (by simp [maxLen]) [] (by simp [maxLen]) 5 0#32 0 (rd l (a : Int)) 0 met 0 T) ?_
    rw [passA]
    have hb1 : T.getLsbD (rd l (a : Int)).toNat = false := by
      cases h : T.getLsbD (rd l (a : Int)).toNat
      · rfl
      · obtain ⟨i, hi, he⟩ := (hI.bit (by omega) hdom.1).1 h
        exact absurd he (hI.once i a hi (Nat.le_refl _))
    by_cases hne : rd l (a : Int) = rd l ((a + 1 : Nat) : Int)
    · rw [if_neg (fun h => by have := h.1; simp [hne] at this)]
      refine Ev.neg (by decide) ?_
      exact j3_ev hl (by omega) hI _ _ _ _ _ _ (.inr ⟨by omega, a, Nat.le_refl _, hne⟩)
    rw [if_pos ⟨by rw [isD_iff.2 hdom, isD_iff.2 hx, decide_eq_false hne]; rfl, rfl⟩, hasB_off hdom, hasB_off hx, hb1, Bool.false_or]
    cases hb2 : T.getLsbD (rd l ((a + 1 : Nat) : Int)).toNat
    · rw [if_neg (by simp), if_pos ⟨by decide, hmet⟩]
      refine Ev.pos rfl ?_
      have hadd := addS_mk hdom hb1
      refine ih (a + 1) (T ||| 1#16 <<< (rd l (a : Int)).toNat) 5 (by omega) ⟨?_, ?_⟩ (fun _ => hx) (by omega)
      · have := ofS_snoc T (rd l (a : Int)) (by rw [hadd]) (l.take a) 0 hI.of
        rw [hadd, rd_nat l a (by omega)] at this
        rw [← List.take_append_getElem (show a < l.length by omega), this, rd_nat l a (by omega)]
      · intro i j hij hj
        rcases Nat.lt_or_ge j (a + 1) with h | h
        · exact hI.once i j hij (by omega)
        · have : j = a + 1 := by omega
          subst this
          intro he
          rcases Nat.lt_or_ge i a with h' | h'
          · have := (hI.bit (by omega) hx.1).2 ⟨i, h', he⟩
            rw [hb2] at this
            cases this
          · have : i = a := by omega
            subst this
            exact hne he
    · rw [if_pos rfl]
      refine Ev.neg (by decide) ?_
      obtain ⟨i, hi, he⟩ := (hI.bit (by omega) hx.1).1 hb2
      exact j3_ev hl (by omega) hI _ _ _ _ _ _ (.inr ⟨by omega, i, by omega, he⟩)

theorem paths_up (l : List Int) : Ev (fun k => octroilaw15_RedistPaths.j0 k l true true) true :=
  Ev.step (f := fun _ => some true) (fun k => by simp [octroilaw15_RedistPaths.j0]) (Ev.now _)

theorem RedistPaths : octroilaw15_RedistPaths.Pure := by
  intro l _ _ _
  apply Ev.rounds
  unfold octroilaw15_RedistPaths.f
  refine Ev.bnd _ RedistPlain.awake_ev ?_
  refine Ev.pos rfl ?_
  refine Ev.ite (fun _ => paths_up _) (fun h1 => ?_)
  by_cases h2 : (l.length : Int) > 40
  · rw [decide_eq_true h2]; exact paths_up _
  rw [decide_eq_false h2]
  refine Ev.step (fun k => by simp only [octroilaw15_RedistPaths.j0]; rw [if_neg (by simp), if_pos (by omega)]) ?_
  refine l0_ev (l := l) (by omega) (l.length - 1) 0 0#16 0 (by omega) ⟨rfl, fun i j h1 h2 => by omega⟩ (by omega) (by omega)
end Go.Proofs.Ytdhejpjggmikiaa.Pure
