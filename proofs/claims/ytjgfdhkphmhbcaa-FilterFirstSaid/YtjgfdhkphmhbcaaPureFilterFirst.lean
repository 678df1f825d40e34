/- Rules behind the one that fits play no part; those ahead of it, taken away, neither (at most 100 rules each). -/
import Derived.Test.YtjgfdhkphmhbcaaLxqFilterFirst
import Derived.Test.YtjgfdhkphmhbcaaFilterMore
namespace Go.Proofs.Ytjgfdhkphmhbcaa.Pure
open Go Go.RowKit Go.Proofs.Ytjgfdhkphmhbcaa.L Go.Proofs.YtjgfdhkphmhbcaaW.PrintWords Go.Proofs.YtjgfdhkphmhbcaaPlain Go.Proofs.YtjgfdhkphmhbcaaBits Go.Proofs.Ytjgfdhkphmhbcaa.FilterPlain

section
variable (Y : BitVec 32) (m : Int) (T : BitVec 16)

theorem permR_cases : ∀ (l : List Ru) (i : Nat), (permR Y m T l i = (false, -1) ∧ ∀ x ∈ l, fitsR x Y m T = false) ∨
    ∃ j x, l[j]? = some x ∧ fitsR x Y m T = true ∧ (∀ q y, q < j → l[q]? = some y → fitsR y Y m T = false) ∧ permR Y m T l i = (x.permit, ((i + j : Nat) : Int)) := by
  intro l
  induction l with
  | nil => intro i; left; exact ⟨rfl, by simp⟩
  | cons x r ih =>
    intro i
    by_cases h : fitsR x Y m T = true
    · right
      exact ⟨0, x, rfl, h, fun q y hq => by omega, by simp only [permR, if_pos h]; rfl⟩
    · rcases ih (i + 1) with ⟨h1, h2⟩ | ⟨j, y, h1, h2, h3, h4⟩
      · left
        refine ⟨by simp only [permR, if_neg h]; exact h1, fun z hz => ?_⟩
        rcases List.mem_cons.1 hz with rfl | hz
        · simpa using h
        · exact h2 z hz
      · right
        refine ⟨j + 1, y, by simpa using h1, h2, fun q z hq hz => ?_, ?_⟩
        · cases q with
          | zero => simp at hz; subst hz; simpa using h
          | succ q => exact h3 q z (by omega) (by simpa using hz)
        · simp only [permR, if_neg h]; rw [h4]; congr 2; omega
theorem permR_none : ∀ (l r : List Ru) (i : Nat), (∀ x ∈ l, fitsR x Y m T = false) → permR Y m T (l ++ r) i = permR Y m T r (i + l.length) := by
  intro l
  induction l with
  | nil => intro r i _; rfl
  | cons x l ih =>
    intro r i h
    have hx := h x (by simp)
    simp only [List.cons_append, permR, hx]
    rw [if_neg (by simp), ih r (i + 1) (fun z hz => h z (by simp [hz]))]
    congr 1
    simp only [List.length_cons]; omega
theorem permR_some : ∀ (l r : List Ru) (i j : Nat) (x : Ru), l[j]? = some x → fitsR x Y m T = true → (∀ q y, q < j → l[q]? = some y → fitsR y Y m T = false) → permR Y m T (l ++ r) i = (x.permit, ((i + j : Nat) : Int)) := by
  intro l
  induction l with
  | nil => intro r i j x h; simp at h
  | cons y l ih =>
    intro r i j x h hf hb
    cases j with
    | zero =>
      simp at h; subst h
      simp only [List.cons_append, permR, if_pos hf]; rfl
    | succ j =>
      have hy := hb 0 y (by omega) rfl
      simp only [List.cons_append, permR, hy]
      rw [if_neg (by simp), ih r (i + 1) j x (by simpa using h) hf (fun q z hq hz => hb (q + 1) z (by omega) (by simpa using hz))]
      congr 2; omega
theorem permR_shift (r : List Ru) (i : Nat) : (permR Y m T r i).1 = (permR Y m T r 0).1 ∧ (((permR Y m T r 0).2 < 0 ∧ (permR Y m T r i).2 < 0) ∨ (0 ≤ (permR Y m T r 0).2 ∧ (permR Y m T r 0).2 < r.length ∧ (permR Y m T r i).2 = (permR Y m T r 0).2 + i)) := by
  rcases permR_cases Y m T r 0 with ⟨h1, h2⟩ | ⟨j, x, h1, h2, h3, h4⟩
  · have := permR_none Y m T r [] i h2
    simp only [List.append_nil, permR] at this
    rw [h1, this]
    exact ⟨rfl, .inl ⟨by decide, by decide⟩⟩
  · have := permR_some Y m T r [] i j x h1 h2 h3
    simp only [List.append_nil] at this
    rw [h4, this]
    have hj : j < r.length := by
      rcases Nat.lt_or_ge j r.length with h | h
      · exact h
      · rw [List.getElem?_eq_none h] at h1; cases h1
    exact ⟨rfl, .inr ⟨by simp only; omega, by simp only; omega, by simp only; omega⟩⟩
end

theorem FilterFirst : octroilaw13_FilterFirst.Pure := by
  intro l more a m t hl hg hl2 hg2 ha _ ht
  obtain ⟨Y, rfl⟩ := addr_of ha
  obtain ⟨T, rfl⟩ := tag_of ht
  obtain ⟨L, rfl⟩ := ru_of l (fun y hy => ⟨(hg y hy).2.1.1, (hg y hy).2.2.2.2.1, (hg y hy).2.2.2.2.2⟩)
  obtain ⟨R, rfl⟩ := ru_of more (fun y hy => ⟨(hg2 y hy).2.1.1, (hg2 y hy).2.2.2.2.1, (hg2 y hy).2.2.2.2.2⟩)
  rw [List.length_map] at hl hl2
  apply Ev.rounds
  unfold octroilaw13_FilterFirst.f
  refine Ev.bnd _ awake_ev ?_
  refine Ev.pos rfl ?_
  have hup : Ev (fun k => octroilaw13_FilterFirst.j0 k (L.map Ru.s) (R.map Ru.s) T.toNat true true Y.toNat m) true := Ev.step (f := fun _ => some true) (fun k => by simp [octroilaw13_FilterFirst.j0]) (Ev.now _)
  refine Ev.ite (fun _ => hup) (fun h100 => ?_)
  by_cases hr : ((R.map Ru.s).length : Int) > 100
  · rw [decide_eq_true hr]; exact hup
  rw [decide_eq_false hr]
  rw [List.length_map] at h100 hr
  refine Ev.step (fun k => by simp only [octroilaw13_FilterFirst.j0]; rw [if_neg (by simp)]) ?_
  refine Ev.bnd _ (Permits_ev L hl Y m T) ?_
  have happ : ∀ r : Bool × Int, permR Y m T (L ++ R) 0 = r → Ev (fun k => filter_Permits.f k ([] ++ L.map Ru.s ++ R.map Ru.s) Y.toNat m T.toNat) r := fun r h => by
    have := Permits_ev (L ++ R) (by simp [maxLen]; omega) Y m T
    rw [List.map_append] at this
    rw [← h]
    exact this
  rcases permR_cases Y m T L 0 with ⟨h1, h2⟩ | ⟨j, x, h1, h2, h3, h4⟩
  · rw [h1]
    refine Ev.neg (by simp) (Ev.neg (by simp; omega) (Ev.neg (by simp) ?_))
    refine Ev.step (fun k => by simp only [octroilaw13_FilterFirst.j1]; rw [if_neg (by simp)]) ?_
    refine Ev.pos (by simp; omega) ?_
    refine Ev.bnds _ ?_
    refine Ev.pos (by simp; omega) ?_
    refine Ev.bnd _ (happ _ (permR_none Y m T L R 0 h2)) ?_
    refine Ev.pos (by simp) ?_
    refine Ev.bnd _ (Permits_ev R hl2 Y m T) ?_
    obtain ⟨s1, s2⟩ := permR_shift Y m T R (0 + L.length)
    refine Ev.pos (by rw [s1]; simp) ?_
    refine Ev.ite (fun hm => ?_) (fun hm => ?_)
    · refine Ev.pos (by omega) (Ev.now _)
    · refine Ev.pos (by omega) (Ev.some_ ?_)
      rw [beq_iff_eq, List.length_map]
      rcases s2 with s2 | ⟨s2, s3, s4⟩
      · omega
      · rw [wrap64_id _ (by omega) (by omega)]; omega
  · have hj : j < L.length := by
      rcases Nat.lt_or_ge j L.length with h | h
      · exact h
      · rw [List.getElem?_eq_none h] at h1; cases h1
    have hx : L[j] = x := by rw [List.getElem?_eq_getElem hj] at h1; exact Option.some.inj h1
    have hdrop : L.drop j = x :: L.drop (j + 1) := by rw [List.drop_eq_getElem_cons hj, hx]
    have hrest : Ev (fun k => octroilaw13_FilterFirst.j1 k (L.map Ru.s) (R.map Ru.s) T.toNat x.permit (((0 + j : Nat)) : Int) false Y.toNat m) true := by
      refine Ev.step (fun k => by simp only [octroilaw13_FilterFirst.j1]; rw [if_neg (by simp)]) ?_
      refine Ev.pos (by simp; omega) ?_
      refine Ev.bnds _ ?_
      refine Ev.pos (by simp; omega) ?_
      refine Ev.bnd _ (happ _ (permR_some Y m T L R 0 j x h1 h2 h3)) ?_
      refine Ev.neg (by omega) (Ev.pos (by omega) (Ev.pos (by simp; omega) ?_))
      have hd : Ev (fun k => filter_Permits.f k ((L.map Ru.s).drop ((0 + j : Nat) : Int).toNat) Y.toNat m T.toNat) (x.permit, 0) := by
        have := Permits_ev (L.drop j) (by simp; omega) Y m T
        rw [Int.toNat_natCast, Nat.zero_add, ← List.map_drop]
        refine Ev.eq this ?_
        rw [hdrop]
        simp only [permR, if_pos h2]
        rfl
      refine Ev.bnd _ hd ?_
      have hrd := rd_map L j x _ hdrop
      refine Ev.pos (by simp; omega) ?_
      rw [Nat.zero_add, hrd]
      refine Ev.pos (by simp [Ru.s]) (Ev.pos (by simp) (Ev.pos (by simp) (Ev.pos (by simp) (Ev.some_ (by simp)))))
    rw [h4]
    refine Ev.neg (by simp <;> omega) (Ev.neg (by simp <;> omega) ?_)
    refine Ev.ite (fun _ => ?_) (fun _ => hrest)
    rw [decide_eq_false (by simp only; omega)]
    exact hrest
end Go.Proofs.Ytjgfdhkphmhbcaa.Pure
