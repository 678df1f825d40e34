/- The reference's history, a list of bools, as a number: what its functions come to. -/
import Derived.Test.YtchmcmioilmnpaaLx2
import Derived.Test.YtchmcmioilmnpaaNeighPlain
import Derived.Test.YtchmcmioilmnpaaNeighHello
namespace Go.Proofs.Ytchmcmioilmnpaa.NeighPlain
open Go Go.RowKit Go.Proofs.Ytchmcmioilmnpaa.L Go.Proofs.YtchmcmioilmnpaaW.PrintWords Go.Proofs.YtchmcmioilmnpaaW.PrintMore Go.Proofs.YtchmcmioilmnpaaPlain Go.Proofs.YtchmcmioilmnpaaBits

set_option linter.unusedVariables false
set_option linter.unusedSimpArgs false
def valN : List Bool → Nat
  | [] => 0
  | b :: l => b.toNat * 2 ^ l.length + valN l
theorem valN_lt : ∀ l : List Bool, valN l < 2 ^ l.length
  | [] => by simp [valN]
  | b :: l => by
    have := valN_lt l
    simp only [valN, List.length_cons, Nat.pow_succ]
    cases b <;> simp <;> omega
theorem valN_append : ∀ a b : List Bool, valN (a ++ b) = valN a * 2 ^ b.length + valN b
  | [], b => by simp [valN]
  | x :: a, b => by
    simp only [List.cons_append, valN, valN_append a b, List.length_append, Nat.pow_add, Nat.add_mul, Nat.mul_assoc, Nat.add_assoc]
theorem valN_zeros : ∀ n : Nat, valN (List.replicate n false) = 0
  | 0 => rfl
  | n + 1 => by simp [List.replicate_succ, valN, valN_zeros n]
theorem valN_take (l : List Bool) (k : Nat) (hk : k ≤ l.length) : valN (l.take k) = valN l / 2 ^ (l.length - k) := by
  have h := valN_append (l.take k) (l.drop k)
  rw [List.take_append_drop, List.length_drop] at h
  have h2 := valN_lt (l.drop k)
  rw [List.length_drop] at h2
  rw [h, Nat.mul_comm, Nat.mul_add_div (Nat.two_pow_pos _), Nat.div_eq_of_lt h2, Nat.add_zero]
theorem valN_drop (l : List Bool) (k : Nat) (hk : k ≤ l.length) : valN (l.drop k) = valN l % 2 ^ (l.length - k) := by
  have h := valN_append (l.take k) (l.drop k)
  rw [List.take_append_drop, List.length_drop] at h
  have h2 := valN_lt (l.drop k)
  rw [List.length_drop] at h2
  rw [h, Nat.mul_comm, Nat.mul_add_mod, Nat.mod_eq_of_lt h2]

theorem valN_miss (H : List Bool) (hL : H.length = 16) : valN (false :: H.take 15) = valN H / 2 := by
  simp only [valN, Bool.toNat_false, Nat.zero_mul, Nat.zero_add]
  rw [valN_take H 15 (by omega), hL]
theorem valN_true (B : List Bool) (hL : B.length = 16) : valN (true :: B.take 15) = valN B / 2 + 32768 := by
  simp only [valN, Bool.toNat_true, Nat.one_mul]
  rw [valN_take B 15 (by omega), hL, List.length_take, hL]
  simp
  omega
theorem valN_base (H : List Bool) (hL : H.length = 16) (any : Bool) (nx a : Int) : (valN (baseR H any nx a) : Int) = baseH (valN H) nx any a := by
  unfold baseR baseH
  by_cases h0 : any = true
  · rw [if_pos h0, if_pos h0]
    have e1 : 0 ≤ IntKind.u16.wrap (a - nx) := by rw [wrap16_mod]; omega
    have e2 : 0 ≤ IntKind.u16.wrap (nx - a) := by rw [wrap16_mod]; omega
    generalize IntKind.u16.wrap (a - nx) = x at e1
    generalize IntKind.u16.wrap (nx - a) = y at e2
    obtain ⟨m, rfl⟩ := Int.eq_ofNat_of_zero_le e1
    obtain ⟨n, rfl⟩ := Int.eq_ofNat_of_zero_le e2
    simp only [Int.toNat_natCast]
    by_cases h1 : 17 ≤ (m : Int)
    · rw [if_pos h1, if_neg (show ¬ (m : Int) ≤ 16 by omega)]
      by_cases h2 : 17 ≤ (n : Int)
      · rw [if_pos h2, if_neg (show ¬ (n : Int) ≤ 16 by omega)]
        rfl
      · rw [if_neg h2, if_pos (show (n : Int) ≤ 16 by omega)]
        have hl : (H ++ List.replicate n false).length = n + 16 := by rw [List.length_append, List.length_replicate, hL]; omega
        rw [List.take_of_length_le (by omega), valN_drop _ _ (by omega), hl, Nat.add_sub_cancel_left, valN_append, valN_zeros, List.length_replicate, Nat.add_zero]
        simp
    · rw [if_neg h1, if_pos (show (m : Int) ≤ 16 by omega)]
      have hl : (List.replicate m false ++ H).length = m + 16 := by rw [List.length_append, List.length_replicate, hL]
      rw [valN_take _ _ (by omega), hl, Nat.add_sub_cancel, valN_append, valN_zeros, Nat.zero_mul, Nat.zero_add]
      simp
  · rw [if_neg h0, if_neg h0]
    rfl
theorem baseR_len (H : List Bool) (hL : H.length = 16) (any : Bool) (nx a : Int) : (baseR H any nx a).length = 16 := by
  unfold baseR
  split
  · split
    · split
      · rfl
      · rw [List.length_drop, List.length_take, List.length_append, List.length_replicate, hL]; omega
    · rw [List.length_take, List.length_append, List.length_replicate, hL]; omega
  · rfl
theorem valN_hello (H : List Bool) (hL : H.length = 16) (any : Bool) (nx a : Int) : (valN (true :: (baseR H any nx a).take 15) : Int) = helloH (valN H) nx any a := by
  unfold helloH
  rw [valN_true _ (baseR_len H hL any nx a), ← valN_base H hL any nx a]
  omega

theorem Hist_l0 (H : List Bool) (hL : H.length = 16) (any : Bool) (nx told : Int) : ∀ (r : List Bool) (i : Nat), H.drop i = r → i ≤ 16 →
    Ev (fun k => octroiref11_Neigh_History.l0 k (valN (H.take i)) i H any nx told) ((valN H : Int), any, nx, told) := by
  intro r
  induction r with
  | nil =>
    intro i h hi
    have := drop_nil h (by omega)
    refine Ev.step (f := fun _ => some ((valN H : Int), any, nx, told)) (fun k => ?_) (Ev.now _)
    simp only [octroiref11_Neigh_History.l0]
    rw [if_neg (by omega), List.take_of_length_le (by omega)]
  | cons b r ih =>
    intro i h hi
    obtain ⟨hlt, hr, hb⟩ := drop_cons h
    have hb' : rdOf false H (i : Int) = b := hb false
    have e : valN (H.take (i + 1)) = valN (H.take i) * 2 + b.toNat := by
      have hg : H[i] = b := by have := hb false; rw [List.getD_eq_getElem?_getD, List.getElem?_eq_getElem hlt] at this; exact this
      rw [← List.take_append_getElem hlt, valN_append, hg]
      simp [valN]
    have hv := valN_lt (H.take i)
    rw [List.length_take, Nat.min_eq_left (by omega)] at hv
    have hp : 2 ^ i ≤ 2 ^ 15 := Nat.pow_le_pow_right (by omega) (by omega)
    refine Ev.step (f := fun k => octroiref11_Neigh_History.l0 k (valN (H.take (i + 1))) ((i + 1 : Nat) : Int) H any nx told) (fun k => ?_) (ih (i + 1) hr (by omega))
    simp only [octroiref11_Neigh_History.l0]
    rw [if_pos (by omega), if_pos (by omega), if_pos (by omega), hb', wrap64_nat i (by omega), e, wrap16_mod, wrap16_mod]
    cases b
    · rw [if_neg (by simp)]
      congr 1
      simp
      omega
    · rw [if_pos rfl]
      congr 1
      simp
      omega
theorem Hist_ev (H : List Bool) (hL : H.length = 16) (any : Bool) (nx told : Int) : Ev (fun k => octroiref11_Neigh_History.f k H any nx told) ((valN H : Int), any, nx, told) :=
  Hist_l0 H hL any nx told H 0 rfl (by omega)

theorem RxR_ev (H : List Bool) (hL : H.length = 16) (any : Bool) (nx told : Int) : Ev (fun k => octroiref11_Neigh_Rx.f k H any nx told) (rxS (valN H), any, nx, told) := by
  obtain ⟨a, b, c, r, rfl⟩ : ∃ a b c r, H = a :: b :: c :: r := by
    match H, hL with
    | a :: b :: c :: r, _ => exact ⟨a, b, c, r, rfl⟩
  have hr : r.length = 13 := by simp at hL; omega
  have hv := valN_lt r
  rw [hr] at hv
  have hq : (valN (a :: b :: c :: r) : Int) / 8192 = a.toNat * 4 + b.toNat * 2 + c.toNat := by
    simp only [valN, List.length_cons, hr]
    omega
  have hl : ((a :: b :: c :: r).length : Int) = 16 := by rw [hL]; rfl
  refine ⟨4, fun k hk => ?_⟩
  obtain ⟨m, rfl⟩ : ∃ m, k = m + 4 := ⟨k - 4, by omega⟩
  unfold octroiref11_Neigh_Rx.f rxS
  rw [hq]
  cases a <;> cases b <;> cases c <;> simp [octroiref11_Neigh_Rx.l0, rdOf, wrap64, hl] <;> omega
theorem CostR_ev (H : List Bool) (hL : H.length = 16) (any : Bool) (nx told : Int) : Ev (fun k => octroiref11_Neigh_Cost.f k H any nx told) (mx (rxS (valN H)) told, any, nx, told) := by
  unfold octroiref11_Neigh_Cost.f
  refine Ev.bnd _ (RxR_ev H hL any nx told) ?_
  refine Ev.ite (fun h => Ev.some_ ?_) (fun h => Ev.some_ ?_)
  · have h' : told > rxS (valN H) := h
    unfold mx; rw [if_pos h']
  · have h' : ¬ told > rxS (valN H) := h
    unfold mx; rw [if_neg h']
theorem IhuR_eq (H : List Bool) (any : Bool) (nx told a : Int) : octroiref11_Neigh_Ihu.f H any nx told a = some (any, nx, mx 0 (mn a 65535)) := by
  unfold octroiref11_Neigh_Ihu.f mx mn
  by_cases h1 : a < 0
  · rw [if_pos h1, if_neg (by omega)]
    congr 1
    rw [if_neg (by rw [if_neg (by omega)]; omega)]
  · rw [if_neg h1]
    by_cases h2 : a > 65535
    · rw [if_pos h2]; rw [if_pos (show (65535 : Int) < a from h2)]; rfl
    · rw [if_neg h2]; rw [if_neg (show ¬ (65535 : Int) < a from h2)]
      congr 1
      by_cases h3 : 0 < a
      · rw [if_pos h3]
      · rw [if_neg h3]; have : a = 0 := by omega
        rw [this]
end Go.Proofs.Ytchmcmioilmnpaa.NeighPlain
