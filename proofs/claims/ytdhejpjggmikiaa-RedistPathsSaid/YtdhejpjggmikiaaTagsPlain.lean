/- Lists of domains, and how deep a tag is. -/
import Derived.Test.YtdhejpjggmikiaaLx16
import Derived.Test.YtdhejpjggmikiaaLx14
import Derived.Test.YtdhejpjggmikiaaTagsHas
namespace Go.Proofs.Ytdhejpjggmikiaa.TagsPlain
open Go Go.RowKit Go.Proofs.Ytdhejpjggmikiaa.L Go.Proofs.YtdhejpjggmikiaaW.PrintWords Go.Proofs.YtdhejpjggmikiaaW.PrintMore Go.Proofs.YtdhejpjggmikiaaPlain Go.Proofs.YtdhejpjggmikiaaBits

def ofS (A : BitVec 16) : List Int → BitVec 16 × Int
  | [] => (A, 0)
  | d :: r => if (addS A d).2 = 0 then ofS (addS A d).1 r else (0, (addS A d).2)
theorem Of_l0 (l : List Int) (hl : l.length ≤ maxLen) : ∀ (r : List Int) (i : Nat) (A : BitVec 16), l.drop i = r → i ≤ l.length → Ev (fun k => tags_Of.l0 k A.toNat l (l.length : Int) i) (cast2 (ofS A r)) := by
  intro r
  induction r with
  | nil =>
    intro i A h hi
    have := drop_nil h hi
    exact Ev.step (f := fun _ => some ((A.toNat : Int), (0 : Int))) (fun k => by simp only [tags_Of.l0]; rw [if_neg (by omega)]) (Ev.some_ rfl)
  | cons d r ih =>
    intro i A h hi
    obtain ⟨hlt, hr, hd⟩ := drop_cons h
    have hd' : rd l i = d := hd 0
    by_cases hc : (addS A d).2 = 0
    · refine Ev.step (f := fun k => tags_Of.l0 k (addS A d).1.toNat l (l.length : Int) ((i + 1 : Nat) : Int)) (fun k => ?_) ?_
      · simp only [tags_Of.l0]
        rw [if_pos (by omega), if_pos (by omega), if_pos (by omega), hd', Add_eq]
        simp only [Option.bind_some, cast2]
        rw [if_pos hc, wrap64_nat i (by unfold maxLen at hl; omega)]
      · simp only [ofS, if_pos hc]; exact ih (i + 1) _ hr (by omega)
    · refine Ev.step (f := fun _ => some ((0 : Int), (addS A d).2)) (fun k => ?_) ?_
      · simp only [tags_Of.l0]
        rw [if_pos (by omega), if_pos (by omega), if_pos (by omega), hd', Add_eq]
        simp only [Option.bind_some, cast2]
        rw [if_neg hc]
      · simp only [ofS, if_neg hc]; exact Ev.some_ rfl
theorem Of_ev (l : List Int) (hl : l.length ≤ maxLen) : Ev (fun k => tags_Of.f k l) (cast2 (ofS 0 l)) := Of_l0 l hl l 0 0 rfl (by omega)

def pc (A : BitVec 16) : Nat := pcF 16 A.toNat
theorem pc_le (A : BitVec 16) : pc A ≤ 16 := pcF_le _ _
theorem Depth_l0 : ∀ (p : Nat) (x : Nat) (n : Nat), x < 65536 → pcF 16 x = p → n + p ≤ 100 → Ev (fun k => tags_Depth.l0 k (x : Int) (n : Int)) ((n + p : Nat) : Int) := by
  intro p
  induction p with
  | zero =>
    intro x n hx hp hn
    have : x = 0 := pcF_zero_iff 16 x hx hp
    subst this
    exact Ev.step (f := fun _ => some (n : Int)) (fun k => by simp [tags_Depth.l0]) (Ev.some_ rfl)
  | succ p ih =>
    intro x n hx hp hn
    have h0 : x ≠ 0 := by rintro rfl; rw [pcF_zero] at hp; omega
    have hd := pcF_drop 16 x hx h0
    have hlt : x &&& (x - 1) < 65536 := Nat.lt_of_le_of_lt Nat.and_le_left hx
    refine Ev.step (f := fun k => tags_Depth.l0 k ((x &&& (x - 1) : Nat) : Int) ((n + 1 : Nat) : Int)) (fun k => ?_) ?_
    · simp only [tags_Depth.l0]
      rw [if_neg (by omega), wrap64_nat n (by omega)]
      have e1 : IntKind.u16.wrap ((x : Int) - 1) = ((x - 1 : Nat) : Int) := by rw [wrap16_mod]; omega
      have e2 := and16 (BitVec.ofNat 16 x) (BitVec.ofNat 16 (x - 1))
      rw [BitVec.toNat_and, BitVec.toNat_ofNat, BitVec.toNat_ofNat, Nat.mod_eq_of_lt (show x < 2 ^ 16 by omega), Nat.mod_eq_of_lt (show x - 1 < 2 ^ 16 by omega)] at e2
      rw [e1, e2]
    · refine Ev.eq (ih _ (n + 1) hlt (by omega) (by omega)) ?_
      congr 1; omega
theorem Depth_ev (A : BitVec 16) : Ev (fun k => tags_Depth.f k A.toNat) (pc A : Int) := by
  refine Ev.eq (Depth_l0 (pc A) A.toNat 0 (by have := A.isLt; omega) rfl (by have := pc_le A; omega)) ?_
  simp

theorem pc_add {A : BitVec 16} {d : Nat} (hd : d < 16) (hb : A.getLsbD d = false) : pc (A ||| 1#16 <<< d) = pc A + 1 := by
  have h := pcF_split 16 A.toNat (1#16 <<< d).toNat
  rw [← BitVec.toNat_or, ← BitVec.toNat_and] at h
  have e0 : A &&& 1#16 <<< d = 0#16 := by
    apply BitVec.eq_of_getLsbD_eq
    intro i hi
    rw [BitVec.getLsbD_and, bit_get d i hd]
    by_cases hid : i = d
    · subst hid; rw [hb]; simp
    · simp [hid]
  have e1 : (1#16 <<< d).toNat = 2 ^ d := by
    rw [BitVec.toNat_shiftLeft, Nat.shiftLeft_eq]
    simp
    have := Nat.pow_lt_pow_right (a := 2) (by omega) hd
    omega
  rw [e0, e1, pcF_one 16 d hd] at h
  unfold pc
  simp [pcF_zero] at h
  exact h

theorem ofS_ok : ∀ (l : List Int) (A : BitVec 16), (ofS A l).2 = 0 → (∀ d ∈ l, (0 ≤ d ∧ d < 16) ∧ A.getLsbD d.toNat = false) ∧ l.Nodup ∧ (∀ i, (ofS A l).1.getLsbD i = (A.getLsbD i || decide ((i : Int) ∈ l))) ∧ pc (ofS A l).1 = pc A + l.length := by
  intro l
  induction l with
  | nil => intro A _; exact ⟨by simp, by simp, by simp [ofS], by simp [ofS]⟩
  | cons d r ih =>
    intro A h
    by_cases hc : (addS A d).2 = 0
    · simp only [ofS, if_pos hc] at h ⊢
      obtain ⟨hd, hb, he⟩ := addS_ok hc
      have hd' : d.toNat < 16 := by omega
      obtain ⟨h1, h2, h3, h4⟩ := ih _ h
      rw [he] at h1 h3 h4
      refine ⟨?_, ?_, ?_, ?_⟩
      · intro x hx
        rcases List.mem_cons.1 hx with rfl | hx
        · exact ⟨hd, hb⟩
        · obtain ⟨hx1, hx2⟩ := h1 x hx
          rw [or_get A _ _ hd'] at hx2
          exact ⟨hx1, (Bool.or_eq_false_iff.1 hx2).1⟩
      · refine List.nodup_cons.2 ⟨fun hm => ?_, h2⟩
        obtain ⟨_, hx2⟩ := h1 d hm
        rw [or_get A _ _ hd'] at hx2
        simp at hx2
      · intro i
        rw [he, h3, or_get A _ _ hd', Bool.or_assoc]
        congr 1
        by_cases hi : (i : Int) = d
        · subst hi
          simp
        · have : i ≠ d.toNat := by omega
          simp [hi, this]
      · rw [he, h4, pc_add hd' hb, List.length_cons]; omega
    · simp only [ofS, if_neg hc] at h; exact absurd h hc
theorem ofS_mk : ∀ (l : List Int) (A : BitVec 16), (∀ d ∈ l, (0 ≤ d ∧ d < 16) ∧ A.getLsbD d.toNat = false) → l.Nodup → (ofS A l).2 = 0 := by
  intro l
  induction l with
  | nil => intro A _ _; rfl
  | cons d r ih =>
    intro A h hn
    obtain ⟨hd, hb⟩ := h d (by simp)
    obtain ⟨hn1, hn2⟩ := List.nodup_cons.1 hn
    have e := addS_mk hd hb
    simp only [ofS, e]
    refine ih _ (fun x hx => ?_) hn2
    obtain ⟨hx1, hx2⟩ := h x (by simp [hx])
    refine ⟨hx1, ?_⟩
    rw [or_get A _ _ (by omega), hx2]
    have : x ≠ d := fun h' => hn1 (h' ▸ hx)
    simp
    omega
theorem ofS_err : ∀ (l : List Int) (A : BitVec 16), (ofS A l).2 ≠ 0 → (ofS A l).1 = 0 := by
  intro l
  induction l with
  | nil => intro A h; exact absurd rfl h
  | cons d r ih =>
    intro A h
    by_cases hc : (addS A d).2 = 0
    · simp only [ofS, if_pos hc] at h ⊢; exact ih _ h
    · simp only [ofS, if_neg hc]
end Go.Proofs.Ytdhejpjggmikiaa.TagsPlain
