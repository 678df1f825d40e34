/- The reference's state, whose history is a row of its own that is made anew: walked by hand. -/
import Derived.Test.YtchmcmioilmnpaaLx2
namespace Go.Proofs.Ytchmcmioilmnpaa.L
open Go.Proofs.YtchmcmioilmnpaaLab
open Go.RowKit Go.Proofs.YtchmcmioilmnpaaW.PrintWords Go.Proofs.YtchmcmioilmnpaaW.PrintLast Go.Proofs.YtchmcmioilmnpaaW.PrintMore
attribute [local go_sem] max2_int min2_int max_two min_two max_three min_three max_four min_four
set_option linter.unusedVariables false
set_option linter.unusedSimpArgs false

theorem C_bool_move {w w1 : World} {A : Option Addr} {n : Nat} {xs : List Bool} (h : Kd.C Kd.bool w A n xs) (hm : ∀ ad, A = some ad → w1.heap[ad.block]? = w.heap[ad.block]?) : Kd.C Kd.bool w1 A n xs := by
  obtain ⟨h1, h2, h3⟩ := h
  refine ⟨h1, h2, fun hp => ?_⟩
  obtain ⟨ad, he, hc⟩ := h3 hp
  refine ⟨ad, he, fun j p hj => ?_⟩
  obtain ⟨c, hl, hK, hcc⟩ := hc j p hj
  refine ⟨c, hl, hK, fun i u hu => ?_⟩
  have := hcc i u hu
  have hb := hm ad he
  simp only [World.cell?, add_block, hb] at this ⊢
  exact this

/-- A state of the reference at block g of W: its history is read in W, in a block of bools. -/
def IsR (b : Nat) (W : World) (g : Nat) (H : List Bool) (f1 : Bool) (f2 f3 : Int) : Prop :=
  ∃ A c, W.heap[g]? = some (.cells #[.slice A H.length c, .bool f1, .int .u16 f2, .int .i64 f3] 43 (0, 0)) ∧ b ≤ g ∧ H.length ≤ c ∧ Kd.C Kd.bool W A H.length H ∧ ∀ ad, A = some ad → ∃ cells, W.heap[ad.block]? = some (.cells cells 4 (0, 0))
theorem IsR.move {b : Nat} {W W1 : World} {g : Nat} {H : List Bool} {f1 : Bool} {f2 f3 : Int} (h : IsR b W g H f1 f2 f3) (hg : W1.heap[g]? = W.heap[g]?)
    (hm : ∀ (k : Nat) (cells : Array Value), W.heap[k]? = some (.cells cells 4 (0, 0)) → W1.heap[k]? = W.heap[k]?) : IsR b W1 g H f1 f2 f3 := by
  obtain ⟨A, c, h1, h2, h3, h4, h5⟩ := h
  refine ⟨A, c, hg.trans h1, h2, h3, C_bool_move h4 (fun ad he => ?_), fun ad he => ?_⟩
  · obtain ⟨cells, hc⟩ := h5 ad he
    exact hm _ _ hc
  · obtain ⟨cells, hc⟩ := h5 ad he
    exact ⟨cells, (hm _ _ hc).trans hc⟩
theorem IsR.below {b : Nat} {W W1 : World} {g : Nat} {H : List Bool} {f1 : Bool} {f2 f3 : Int} (h : IsR b W g H f1 f2 f3) (hb : Below W.heap.size W W1) : IsR b W1 g H f1 f2 f3 := by
  refine h.move ?_ (fun k cells hk => hb.block k (blk_lt hk))
  obtain ⟨A, c, h1, _⟩ := h
  exact hb.block g (blk_lt h1)
theorem IsR.drewN {b : Nat} {W : World} {g : Nat} {H : List Bool} {f1 : Bool} {f2 f3 : Int} (h : IsR b W g H f1 f2 f3) (m : Nat) : IsR b (W.drewN m) g H f1 f2 f3 := h
theorem IsR.drew {b : Nat} {W : World} {g : Nat} {H : List Bool} {f1 : Bool} {f2 f3 : Int} (h : IsR b W g H f1 f2 f3) : IsR b W.drew g H f1 f2 f3 := h
/-- The other state changes. -/
theorem IsR.keep {b : Nat} {W W1 : World} {g g1 : Nat} {H : List Bool} {f1 : Bool} {f2 f3 : Int} {cs : Array Value} (h : IsR b W g H f1 f2 f3) (hk : KeepBut W W1 g1 none) (h1 : W.heap[g1]? = some (.cells cs 40 (0, 0))) : IsR b W1 g H f1 f2 f3 := by
  refine h.move ?_ (fun k cells hc => ?_)
  · obtain ⟨A, c, hb, _⟩ := h
    refine hk.2 g (blk_lt hb) (fun e => ?_) (by simp)
    subst e
    rw [hb] at h1
    injection h1 with h1
    injection h1 with _ h1
    exact absurd h1 (by decide)
  · refine hk.2 k (blk_lt hc) (fun e => ?_) (by simp)
    subst e
    rw [hc] at h1
    injection h1 with h1
    injection h1 with _ h1
    exact absurd h1 (by decide)
/-- A new history, a row of the call's own, is stored. -/
theorem IsR.put {b base : Nat} {W : World} {g c n : Nat} {A : Option Addr} {H' : List Bool} {f1 : Bool} {f2 f3 : Int} {v : Value} {ok : Nat → Prop} (h1 : W.heap[g]? = some (.cells #[.slice A n c, .bool f1, .int .u16 f2, .int .i64 f3] 43 (0, 0))) (h2 : b ≤ g) (ho : Kd.bool.R 4 W base ok v H') : IsR b (W.setCell ⟨g, 0, none⟩ v) g H' f1 f2 f3 := by
  obtain ⟨A', c', rfl, hc, hC⟩ := Kd.R_reads ho
  obtain ⟨inner, hown⟩ := Kd.R_own ho
  have hty : ∀ ad, A' = some ad → ∃ cells, W.heap[ad.block]? = some (.cells cells 4 (0, 0)) := fun ad he => own_typed hown ad.block (by subst he; rfl)
  have hne : ∀ ad, A' = some ad → ad.block ≠ g := fun ad he e => by
    obtain ⟨cells, hcl⟩ := hty ad he
    rw [e, h1] at hcl
    injection hcl with hcl
    injection hcl with _ hcl
    exact absurd hcl (by decide)
  refine ⟨A', c', by simpa using blk_set h1 0 (.slice A' H'.length c'), h2, hc, C_bool_move hC (fun ad he => Below.heap_setCell W ⟨g, 0, none⟩ _ _ (hne ad he)), fun ad he => ?_⟩
  obtain ⟨cells, hcl⟩ := hty ad he
  exact ⟨cells, blk_far hcl (hne ad he) _⟩
theorem IsR.put' {b : Nat} {W : World} {g c n n' c' : Nat} {A A' : Option Addr} {H' : List Bool} {f1 : Bool} {f2 f3 : Int} (h1 : W.heap[g]? = some (.cells #[.slice A n c, .bool f1, .int .u16 f2, .int .i64 f3] 43 (0, 0))) (h2 : b ≤ g)
    (hn : H'.length = n') (hc : n' ≤ c') (hC : Kd.C Kd.bool W A' n' H') (hty : ∀ ad, A' = some ad → ∃ cells, W.heap[ad.block]? = some (.cells cells 4 (0, 0))) : IsR b (W.setCell ⟨g, 0, none⟩ (.slice A' n' c')) g H' f1 f2 f3 := by
  subst hn
  have hne : ∀ ad, A' = some ad → ad.block ≠ g := fun ad he e => by
    obtain ⟨cells, hcl⟩ := hty ad he
    rw [e, h1] at hcl
    injection hcl with hcl
    injection hcl with _ hcl
    exact absurd hcl (by decide)
  refine ⟨A', c', by simpa using blk_set h1 0 (.slice A' H'.length c'), h2, hc, C_bool_move hC (fun ad he => Below.heap_setCell W ⟨g, 0, none⟩ _ _ (hne ad he)), fun ad he => ?_⟩
  obtain ⟨cells, hcl⟩ := hty ad he
  exact ⟨cells, blk_far hcl (hne ad he) _⟩
theorem IsR.set1 {b : Nat} {W : World} {g : Nat} {H : List Bool} {f1 : Bool} {f2 f3 : Int} (h : IsR b W g H f1 f2 f3) (x : Bool) : IsR b (W.setCell ⟨g, 1, none⟩ (.bool x)) g H x f2 f3 := by
  obtain ⟨A, c, h1, h2, h3, h4, h5⟩ := h
  have hne : ∀ ad, A = some ad → ad.block ≠ g := fun ad he e => by
    obtain ⟨cells, hcl⟩ := h5 ad he
    rw [e, h1] at hcl
    injection hcl with hcl
    injection hcl with _ hcl
    exact absurd hcl (by decide)
  refine ⟨A, c, by simpa using blk_set h1 1 (.bool x), h2, h3, C_bool_move h4 (fun ad he => Below.heap_setCell W ⟨g, 1, none⟩ _ _ (hne ad he)), fun ad he => ?_⟩
  obtain ⟨cells, hcl⟩ := h5 ad he
  exact ⟨cells, blk_far hcl (hne ad he) _⟩
theorem IsR.set2 {b : Nat} {W : World} {g : Nat} {H : List Bool} {f1 : Bool} {f2 f3 : Int} (h : IsR b W g H f1 f2 f3) (x : Int) : IsR b (W.setCell ⟨g, 2, none⟩ (.int .u16 x)) g H f1 x f3 := by
  obtain ⟨A, c, h1, h2, h3, h4, h5⟩ := h
  have hne : ∀ ad, A = some ad → ad.block ≠ g := fun ad he e => by
    obtain ⟨cells, hcl⟩ := h5 ad he
    rw [e, h1] at hcl
    injection hcl with hcl
    injection hcl with _ hcl
    exact absurd hcl (by decide)
  refine ⟨A, c, by simpa using blk_set h1 2 (.int .u16 x), h2, h3, C_bool_move h4 (fun ad he => Below.heap_setCell W ⟨g, 2, none⟩ _ _ (hne ad he)), fun ad he => ?_⟩
  obtain ⟨cells, hcl⟩ := h5 ad he
  exact ⟨cells, blk_far hcl (hne ad he) _⟩
theorem IsR.set3 {b : Nat} {W : World} {g : Nat} {H : List Bool} {f1 : Bool} {f2 f3 : Int} (h : IsR b W g H f1 f2 f3) (x : Int) : IsR b (W.setCell ⟨g, 3, none⟩ (.int .i64 x)) g H f1 f2 x := by
  obtain ⟨A, c, h1, h2, h3, h4, h5⟩ := h
  have hne : ∀ ad, A = some ad → ad.block ≠ g := fun ad he e => by
    obtain ⟨cells, hcl⟩ := h5 ad he
    rw [e, h1] at hcl
    injection hcl with hcl
    injection hcl with _ hcl
    exact absurd hcl (by decide)
  refine ⟨A, c, by simpa using blk_set h1 3 (.int .i64 x), h2, h3, C_bool_move h4 (fun ad he => Below.heap_setCell W ⟨g, 3, none⟩ _ _ (hne ad he)), fun ad he => ?_⟩
  obtain ⟨cells, hcl⟩ := h5 ad he
  exact ⟨cells, blk_far hcl (hne ad he) _⟩
theorem IsR.ge {b : Nat} {W : World} {g : Nat} {H : List Bool} {f1 : Bool} {f2 f3 : Int} (h : IsR b W g H f1 f2 f3) : b ≤ g := by
  obtain ⟨A, c, h1, h2, _⟩ := h
  exact h2
theorem IsR.cell {b : Nat} {W : World} {g : Nat} {H : List Bool} {f1 : Bool} {f2 f3 : Int} (h : IsR b W g H f1 f2 f3) : ∃ A c, W.heap[g]? = some (.cells #[.slice A H.length c, .bool f1, .int .u16 f2, .int .i64 f3] 43 (0, 0)) ∧ H.length ≤ c ∧ Kd.C Kd.bool W A H.length H := by
  obtain ⟨A, c, h1, h2, h3, h4, h5⟩ := h
  exact ⟨A, c, h1, h3, h4⟩
end Go.Proofs.Ytchmcmioilmnpaa.L
