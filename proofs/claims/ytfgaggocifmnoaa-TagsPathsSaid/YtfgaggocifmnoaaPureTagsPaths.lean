/- A list of domains that is a tag's has no number twice; in another order it is the same tag's (at most 100 numbers). -/
import Derived.Test.YtfgaggocifmnoaaLx2
import Derived.Test.YtfgaggocifmnoaaTagsPlain
namespace Go.Proofs.Ytfgaggocifmnoaa.Pure
open Go Go.RowKit Go.Proofs.Ytfgaggocifmnoaa.L Go.Proofs.YtfgaggocifmnoaaW.PrintWords Go.Proofs.YtfgaggocifmnoaaPlain Go.Proofs.YtfgaggocifmnoaaBits Go.Proofs.Ytfgaggocifmnoaa.TagsPlain

theorem nodup_rev (l : List Int) : l.reverse.Nodup ↔ l.Nodup := by
  unfold List.Nodup
  rw [List.pairwise_reverse]
  constructor <;> exact fun h => h.imp Ne.symm

theorem rd_nat (l : List Int) (i : Nat) (hi : i < l.length) : rd l (i : Int) = l[i] := by simp [rd, hi]

theorem paths_l1 (l : List Int) (hl : l.length ≤ 100) (a e : Int) (b : List Int) (i : Nat) (hi : i < l.length) (r : Bool) : ∀ (d j : Nat) (t : Bool), j + d = i →
    Ev (fun k => octroilaw03_TagsPaths.l0 k l a e b (t || ((l.drop j).take d).any (fun y => l[i] == y)) ((i : Int) - 1)) r → Ev (fun k => octroilaw03_TagsPaths.l1 k l a e b t (i : Int) (j : Int)) r := by
  intro d
  induction d with
  | zero =>
    intro j t hj h
    refine Ev.step (f := fun k => octroilaw03_TagsPaths.l0 k l a e b t ((i : Int) - 1)) (fun k => ?_) (by simpa using h)
    simp only [octroilaw03_TagsPaths.l1]
    rw [if_neg (by omega), wrap64_id _ (by omega) (by omega)]
  | succ d ih =>
    intro j t hj h
    have hjl : j < l.length := by omega
    have hcons : (l.drop j).take (d + 1) = l[j] :: (l.drop (j + 1)).take d := by rw [List.drop_eq_getElem_cons hjl, List.take_succ_cons]
    rw [hcons] at h
    simp only [List.any_cons, ← Bool.or_assoc] at h
    cases t with
    | true =>
      refine Ev.step (f := fun k => octroilaw03_TagsPaths.l1 k l a e b true (i : Int) ((j + 1 : Nat) : Int)) (fun k => ?_) (ih (j + 1) true (by omega) (by simpa using h))
      simp only [octroilaw03_TagsPaths.l1]
      rw [if_pos (by omega), if_pos trivial, wrap64_nat j (by omega)]
    | false =>
      refine Ev.step (f := fun k => octroilaw03_TagsPaths.l1 k l a e b (l[i] == l[j]) (i : Int) ((j + 1 : Nat) : Int)) (fun k => ?_) (ih (j + 1) _ (by omega) (by simpa using h))
      simp only [octroilaw03_TagsPaths.l1]
      rw [if_pos (by omega), if_neg (by simp), if_pos (by omega), if_pos (by omega), if_pos (by omega), if_pos (by omega), wrap64_nat j (by omega), rd_nat l i hi, rd_nat l j hjl]

theorem paths_l0 (l : List Int) (hl : l.length ≤ 100) (a e : Int) (r : Bool) : ∀ (n : Nat) (t : Bool), n ≤ l.length →
    Ev (fun k => octroilaw03_TagsPaths.l0 k l a e l.reverse (t || !decide (l.take n).Nodup) (-1)) r → Ev (fun k => octroilaw03_TagsPaths.l0 k l a e (l.drop n).reverse t ((n : Int) - 1)) r := by
  intro n
  induction n with
  | zero => intro t _ h; simpa using h
  | succ n ih =>
    intro t hn h
    have hnl : n < l.length := by omega
    refine Ev.step (f := fun k => octroilaw03_TagsPaths.l1 k l a e (l.drop n).reverse t (n : Int) 0) (fun k => ?_) ?_
    · simp only [octroilaw03_TagsPaths.l0]
      rw [if_pos (by omega), if_pos (by omega), if_pos (by omega), if_pos (by simp; omega)]
      have e1 : (((n + 1 : Nat) : Int) - 1) = (n : Int) := by omega
      rw [e1, rd_nat l n hnl]
      congr 1
      rw [List.drop_eq_getElem_cons hnl, List.reverse_cons]
    · refine paths_l1 l hl a e _ n hnl r n 0 t (by omega) ?_
      refine ih _ (by omega) ?_
      have e2 : (t || (List.take n (List.drop 0 l)).any (fun y => l[n] == y) || !decide (l.take n).Nodup) = (t || !decide (l.take (n + 1)).Nodup) := by
        rw [Bool.or_assoc]
        congr 1
        rw [List.drop_zero, List.take_succ_eq_append_getElem hnl]
        have hnd : (l.take n ++ [l[n]]).Nodup ↔ (l.take n).Nodup ∧ l[n] ∉ l.take n := by
          rw [List.nodup_append]
          simp
          intro _
          constructor
          · intro h hm; exact h _ hm rfl
          · intro h x hx hxe; exact h (hxe ▸ hx)
        by_cases h1 : l[n] ∈ l.take n
        · have : (l.take n).any (fun y => l[n] == y) = true := List.any_eq_true.2 ⟨_, h1, by simp⟩
          rw [this, decide_eq_false (fun h => (hnd.1 h).2 h1)]
          rfl
        · have : (l.take n).any (fun y => l[n] == y) = false := by
            rw [List.any_eq_false]
            intro y hy
            simp
            rintro rfl
            exact h1 hy
          rw [this, Bool.false_or]
          congr 1
          rw [decide_eq_decide, hnd]
          exact ⟨fun h => ⟨h, h1⟩, fun h => h.1⟩
      rw [e2]
      exact h

theorem TagsPaths : octroilaw03_TagsPaths.Pure := by
  intro l hl _ _
  apply Ev.rounds
  unfold octroilaw03_TagsPaths.f
  refine Ev.bnd _ awake_ev ?_
  refine Ev.pos rfl ?_
  by_cases h100 : (l.length : Int) > 100
  · rw [decide_eq_true h100]
    exact Ev.step (f := fun _ => some true) (fun k => by simp [octroilaw03_TagsPaths.j0]) (Ev.now _)
  rw [decide_eq_false h100]
  refine Ev.step (fun k => by simp only [octroilaw03_TagsPaths.j0]; rw [if_neg (by simp), wrap64_id _ (by omega) (by omega)]) ?_
  refine Ev.bnd _ (Of_ev l hl) ?_
  have key := paths_l0 l (by omega) (cast2 (ofS 0 l)).1 (cast2 (ofS 0 l)).2 true l.length false (by omega)
  simp only [List.drop_length, List.reverse_nil, List.take_length, Bool.false_or] at key
  refine key ?_
  refine Ev.step (fun k => by simp only [octroilaw03_TagsPaths.l0]; rw [if_neg (by omega)]) ?_
  refine Ev.bnd _ (Of_ev l.reverse (by simpa using hl)) ?_
  refine Ev.ite (fun h0 => ?_) (fun h0 => Ev.some_ ?_)
  · have h0' : (ofS 0 l).2 = 0 := h0
    obtain ⟨g1, g2, g3, g4⟩ := ofS_ok _ _ h0'
    have r0 : (ofS 0 l.reverse).2 = 0 := ofS_mk _ _ (fun d hd => g1 d (List.mem_reverse.1 hd)) ((nodup_rev l).2 g2)
    obtain ⟨_, _, q3, _⟩ := ofS_ok _ _ r0
    have heq : (ofS 0 l).1 = (ofS 0 l.reverse).1 := by
      apply BitVec.eq_of_getLsbD_eq
      intro i _
      rw [g3, q3]
      simp
    refine Ev.pos r0 (Ev.pos (by show ((ofS 0 l).1.toNat : Int) = ((ofS 0 l.reverse).1.toNat : Int); rw [heq]) ?_)
    rw [decide_eq_true g2]
    refine Ev.neg (by simp) ?_
    refine Ev.bnd _ (Depth_ev (ofS 0 l).1) ?_
    refine Ev.some_ ?_
    have : pc (0 : BitVec 16) = 0 := pcF_zero 16
    show ((pc (ofS 0 l).1 : Int) == (l.length : Int)) = true
    rw [g4, this]
    simp
  · rw [bne_iff_ne]
    intro r0
    apply h0
    obtain ⟨g1, g2, _, _⟩ := ofS_ok _ _ (show (ofS 0 l.reverse).2 = 0 from r0)
    exact ofS_mk _ _ (fun d hd => g1 d (List.mem_reverse.2 hd)) ((nodup_rev l).1 g2)
end Go.Proofs.Ytfgaggocifmnoaa.Pure
