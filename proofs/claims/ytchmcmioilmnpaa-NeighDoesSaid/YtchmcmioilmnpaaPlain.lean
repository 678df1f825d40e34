/- Small helpers for the pure statements: rounds, lists read by an index. -/
import Derived.Test.YtchmcmioilmnpaaWWords
import Derived.Test.YtchmcmioilmnpaaWMore
namespace Go.Proofs.YtchmcmioilmnpaaPlain
open Go Go.RowKit Go.Proofs.YtchmcmioilmnpaaW.PrintWords Go.Proofs.YtchmcmioilmnpaaW.PrintMore

theorem Ev.pos {α : Type} {c : Prop} [Decidable c] {f g : Nat → Option α} {r : α} (h : c) (hf : Ev f r) : Ev (fun k => if c then f k else g k) r := by
  obtain ⟨K, hf⟩ := hf
  exact ⟨K, fun k hk => (if_pos h).trans (hf k hk)⟩
theorem Ev.neg {α : Type} {c : Prop} [Decidable c] {f g : Nat → Option α} {r : α} (h : ¬ c) (hf : Ev g r) : Ev (fun k => if c then f k else g k) r := by
  obtain ⟨K, hf⟩ := hf
  exact ⟨K, fun k hk => (if_neg h).trans (hf k hk)⟩
theorem Ev.ite {α : Type} {c : Prop} [Decidable c] {f g : Nat → Option α} {r : α} (hf : c → Ev f r) (hg : ¬ c → Ev g r) : Ev (fun k => if c then f k else g k) r := by
  by_cases h : c
  · exact Ev.pos h (hf h)
  · exact Ev.neg h (hg h)
theorem Ev.some_ {α : Type} {a r : α} (h : a = r) : Ev (fun _ => some a) r := by rw [h]; exact Ev.now r
theorem Ev.const {α : Type} {g : Option α} {r : α} (h : g = some r) : Ev (fun _ => g) r := ⟨0, fun _ _ => h⟩
theorem Ev.eq {α : Type} {g : Nat → Option α} {a r : α} (h : Ev g a) (e : a = r) : Ev g r := by rw [← e]; exact h
theorem Ev.bnd {α β : Type} {g : Nat → Option α} {f : Nat → α → Option β} {r : β} (a : α) (h : Ev g a) (k : Ev (fun n => f n a) r) : Ev (fun n => (g n).bind (f n)) r := Ev.bind h k
theorem Ev.bnds {α β : Type} {f : Nat → α → Option β} {r : β} (a : α) (k : Ev (fun n => f n a) r) : Ev (fun n => (some a).bind (f n)) r := k
theorem Ev.bndc {α β : Type} {g : Option α} {f : Nat → α → Option β} {r : β} (a : α) (h : g = some a) (k : Ev (fun n => f n a) r) : Ev (fun n => g.bind (f n)) r := by
  rw [h]; exact k
/-- Two values of one run are one. -/
theorem Ev.unique {α : Type} {g : Nat → Option α} {a b : α} (h : Ev g a) (h' : Ev g b) : a = b := by
  obtain ⟨K, h⟩ := h
  obtain ⟨K', h'⟩ := h'
  have h1 := h (max K K') (by omega)
  have h2 := h' (max K K') (by omega)
  rw [h1] at h2
  exact Option.some.inj h2

theorem drop_cons {α : Type} {l : List α} {i : Nat} {b : α} {r : List α} (h : l.drop i = b :: r) : i < l.length ∧ l.drop (i + 1) = r ∧ ∀ d, l.getD i d = b := by
  have hi : i < l.length := by
    rcases Nat.lt_or_ge i l.length with h' | h'
    · exact h'
    · rw [List.drop_eq_nil_of_le h'] at h; cases h
  rw [List.drop_eq_getElem_cons hi] at h
  injection h with h1 h2
  exact ⟨hi, h2, fun d => by rw [List.getD_eq_getElem?_getD, List.getElem?_eq_getElem hi]; exact h1⟩
theorem drop_nil {α : Type} {l : List α} {i : Nat} (h : l.drop i = []) (hi : i ≤ l.length) : i = l.length := by
  have := List.drop_eq_nil_iff.1 h
  omega

theorem wrap64_nat (i : Nat) (h : i < 9223372036854775807) : wrap64 ((i : Int) + 1) = ((i + 1 : Nat) : Int) := by
  unfold wrap64; omega
theorem wrap64_id (i : Int) (h0 : -9223372036854775808 ≤ i) (h : i ≤ 9223372036854775807) : wrap64 i = i := by
  unfold wrap64; omega
theorem i64_of {a : Int} (h : (Lit.int .i64 a).wf = true) : -9223372036854775808 ≤ a ∧ a ≤ 9223372036854775807 := by
  have h1 := h; simp only [Lit.wf, Bool.and_eq_true, decide_eq_true_eq] at h1; have e1 := h1.1; have e2 := h1.2; simp [IntKind.min, IntKind.max, IntKind.bits, IntKind.signed] at e1 e2; omega
theorem u16_of {a : Int} (h : (Lit.int .u16 a).wf = true) : 0 ≤ a ∧ a ≤ 65535 := by
  have h1 := h; simp only [Lit.wf, Bool.and_eq_true, decide_eq_true_eq] at h1; have e1 := h1.1; have e2 := h1.2; simp [IntKind.min, IntKind.max, IntKind.bits, IntKind.signed] at e1 e2; omega
theorem u32_of {a : Int} (h : (Lit.int .u32 a).wf = true) : 0 ≤ a ∧ a ≤ 4294967295 := by
  have h1 := h; simp only [Lit.wf, Bool.and_eq_true, decide_eq_true_eq] at h1; have e1 := h1.1; have e2 := h1.2; simp [IntKind.min, IntKind.max, IntKind.bits, IntKind.signed] at e1 e2; omega
end Go.Proofs.YtchmcmioilmnpaaPlain
