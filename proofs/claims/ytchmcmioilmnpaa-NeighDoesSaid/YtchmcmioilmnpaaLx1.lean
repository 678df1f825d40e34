/- Printed by the session's own program out of the translation: for each Go function a Lean function with the same answers, and the proof that the code comes to them. No conditions. -/
import Derived.Test.YtchmcmioilmnpaaLx0
namespace Go.Proofs.Ytchmcmioilmnpaa.L
open Go.Proofs.YtchmcmioilmnpaaLab
open Go.RowKit Go.Proofs.YtchmcmioilmnpaaW.PrintWords Go.Proofs.YtchmcmioilmnpaaW.PrintLast Go.Proofs.YtchmcmioilmnpaaW.PrintMore
attribute [local go_sem] max2_int min2_int max_two min_two max_three min_three max_four min_four   -- for this text's walks alone
set_option linter.unusedVariables false
set_option linter.unusedSimpArgs false

/-- A state of type 40 at block g of W; what its slices lead to came in by w0. -/
def IsS40 (w0 W : World) (g : Nat) (f0 : Int) (f1 : Int) (f2 : Bool) (f3 : Int) : Prop := W.heap[g]? = some (.cells #[.int .u16 f0, .int .u16 f1, .bool f2, .int .i64 f3] 40 (0, 0)) ∧ w0.heap.size ≤ g
theorem IsS40.grown {w0 W : World} {g : Nat} {f0 : Int} {f1 : Int} {f2 : Bool} {f3 : Int} {W1 : World} {row : Option Nat} (h : IsS40 w0 W g f0 f1 f2 f3) (hw : W.grownBy W1 row) (hne : some g ≠ row) : IsS40 w0 W1 g f0 f1 f2 f3 := by
  obtain ⟨hb, hg⟩ := h
  exact ⟨blk_grown hb hw hne, hg⟩
theorem IsS40.own_neN {w0 W : World} {g : Nat} {f0 : Int} {f1 : Int} {f2 : Bool} {f3 : Int} {α : Type} {d : Kd α} {e : Nat} {base : Nat} {ok : Nat → Prop} {v : Value} {xs : List α} (h : IsS40 w0 W g f0 f1 f2 f3) (ho : Kd.N d e W base ok v xs) (ht : e ≠ 40) : some g ≠ v.ownBlock := by
  obtain ⟨hb, hg⟩ := h
  exact Kd.N_ne ho hb ht
theorem IsS40.fresh {w0 W : World} {g : Nat} {f0 : Int} {f1 : Int} {f2 : Bool} {f3 : Int} (h : IsS40 w0 W g f0 f1 f2 f3) : ∀ k, W.heap.size ≤ k → k ≠ g := by
  obtain ⟨hb, hg⟩ := h
  exact Kd.freshB hb
theorem IsS40.kept {w0 W : World} {g : Nat} {f0 : Int} {f1 : Int} {f2 : Bool} {f3 : Int} {W1 : World} {S : Nat → Prop} (h : IsS40 w0 W g f0 f1 f2 f3) (hk : Kept W W1 S) (hne : ¬ S g) : IsS40 w0 W1 g f0 f1 f2 f3 := by
  obtain ⟨hb, hg⟩ := h
  exact ⟨blk_kept hb hk hne, hg⟩
theorem IsS40.below {w0 W : World} {g : Nat} {f0 : Int} {f1 : Int} {f2 : Bool} {f3 : Int} {W1 : World} (h : IsS40 w0 W g f0 f1 f2 f3) (hw : Below W.heap.size W W1) : IsS40 w0 W1 g f0 f1 f2 f3 := h.grown (grown_of_below hw none) (by simp)
theorem IsS40.alloc {w0 W : World} {g : Nat} {f0 : Int} {f1 : Int} {f2 : Bool} {f3 : Int} (h : IsS40 w0 W g f0 f1 f2 f3) (o : Obj) : IsS40 w0 (W.alloc o) g f0 f1 f2 f3 := h.below (below_alloc (Below.refl _ _) o)
theorem IsS40.drewN {w0 W : World} {g : Nat} {f0 : Int} {f1 : Int} {f2 : Bool} {f3 : Int} (h : IsS40 w0 W g f0 f1 f2 f3) (m : Nat) : IsS40 w0 (W.drewN m) g f0 f1 f2 f3 := h
theorem IsS40.drew {w0 W : World} {g : Nat} {f0 : Int} {f1 : Int} {f2 : Bool} {f3 : Int} (h : IsS40 w0 W g f0 f1 f2 f3) : IsS40 w0 W.drew g f0 f1 f2 f3 := h
theorem IsS40.at_ {w0 W : World} {g : Nat} {f0 : Int} {f1 : Int} {f2 : Bool} {f3 : Int} {w' : World} {m : Nat} (hq : W.drewN m = w') (h : IsS40 w0 W g f0 f1 f2 f3) : IsS40 w0 w' g f0 f1 f2 f3 := by subst hq; exact IsS40.drewN h m
theorem IsS40.apart {w0 W : World} {g : Nat} {f0 : Int} {f1 : Int} {f2 : Bool} {f3 : Int} {α : Type} {d : Kd α} {e : Nat} {base : Nat} {ok : Nat → Prop} {v : Value} {xs : List α} (h : IsS40 w0 W g f0 f1 f2 f3) (ho : d.R e W base ok v xs) (ht : ∀ q, q ∈ e :: d.E → q ≠ 40) : d.R e W base (fun k => ok k ∧ k ≠ g) v xs := by
  obtain ⟨hb, hg⟩ := h
  exact Kd.R_types ho hb ht
theorem IsS40.own_ne {w0 W : World} {g : Nat} {f0 : Int} {f1 : Int} {f2 : Bool} {f3 : Int} {α : Type} {d : Kd α} {e : Nat} {base : Nat} {ok : Nat → Prop} {v : Value} {xs : List α} (h : IsS40 w0 W g f0 f1 f2 f3) (ho : d.R e W base ok v xs) (ht : e ≠ 40) : some g ≠ v.ownBlock := by
  obtain ⟨hb, hg⟩ := h
  exact Kd.R_ne ho hb ht
theorem IsS40.apartQ {w0 W : World} {g : Nat} {f0 : Int} {f1 : Int} {f2 : Bool} {f3 : Int} {α : Type} {d : Kd α} {e : Nat} {base : Nat} {ok : Nat → Prop} {v : Value} {xs : List α} (h : IsS40 w0 W g f0 f1 f2 f3) (ho : d.Q e W base ok v xs) (ht : ∀ q, q ∈ e :: d.E → q ≠ 40) : d.Q e W base (fun k => ok k ∧ k ≠ g) v xs := by
  obtain ⟨hb, hg⟩ := h
  exact Kd.Q_types ho hb ht
theorem IsS40.own_neQ {w0 W : World} {g : Nat} {f0 : Int} {f1 : Int} {f2 : Bool} {f3 : Int} {α : Type} {d : Kd α} {e : Nat} {base : Nat} {ok : Nat → Prop} {v : Value} {xs : List α} (h : IsS40 w0 W g f0 f1 f2 f3) (ho : d.Q e W base ok v xs) (ht : e ≠ 40) : some g ≠ v.ownBlock := by
  obtain ⟨hb, hg⟩ := h
  exact Kd.Q_ne ho hb ht
theorem IsS40.apartS {w0 W : World} {g : Nat} {f0 : Int} {f1 : Int} {f2 : Bool} {f3 : Int} {α : Type} {d : Kd α} {e : Nat} {base : Nat} {ok : Nat → Prop} {v : Value} {xs : List α} (h : IsS40 w0 W g f0 f1 f2 f3) (ho : d.S e W base ok v xs) (ht : ∀ q, q ∈ e :: d.E → q ≠ 40) : d.S e W base (fun k => ok k ∧ k ≠ g) v xs := by
  obtain ⟨hb, hg⟩ := h
  exact Kd.S_types ho hb ht
theorem IsS40.own_neS {w0 W : World} {g : Nat} {f0 : Int} {f1 : Int} {f2 : Bool} {f3 : Int} {α : Type} {d : Kd α} {e : Nat} {base : Nat} {ok : Nat → Prop} {v : Value} {xs : List α} (h : IsS40 w0 W g f0 f1 f2 f3) (ho : d.S e W base ok v xs) (ht : e ≠ 40) : some g ≠ v.ownBlock := by
  obtain ⟨hb, hg⟩ := h
  exact Kd.S_ne ho hb ht
theorem IsS40.lt {w0 W : World} {g : Nat} {f0 : Int} {f1 : Int} {f2 : Bool} {f3 : Int} (h : IsS40 w0 W g f0 f1 f2 f3) : g < W.heap.size := by
  obtain ⟨hb, hg⟩ := h
  exact blk_lt hb
theorem IsS40.ge {w0 W : World} {g : Nat} {f0 : Int} {f1 : Int} {f2 : Bool} {f3 : Int} (h : IsS40 w0 W g f0 f1 f2 f3) : w0.heap.size ≤ g := by
  obtain ⟨hb, hg⟩ := h
  exact hg
theorem IsS40.ne_blk {w0 W : World} {g : Nat} {f0 : Int} {f1 : Int} {f2 : Bool} {f3 : Int} {a : Nat} {cs : Array Value} {t : TypeId} {fr : Nat × Nat} (h : IsS40 w0 W g f0 f1 f2 f3) (hb2 : W.heap[a]? = some (.cells cs t fr)) (ht : t ≠ 40) : g ≠ a := by
  obtain ⟨hb, hg⟩ := h
  rintro rfl
  rw [hb] at hb2
  injection hb2 with hb2
  injection hb2 with _ ht2
  exact ht ht2.symm
theorem IsS40.far {w0 W : World} {g : Nat} {f0 : Int} {f1 : Int} {f2 : Bool} {f3 : Int} {p : Addr} (h : IsS40 w0 W g f0 f1 f2 f3) (hne : g ≠ p.block) (u : Value) : IsS40 w0 (W.setCell p u) g f0 f1 f2 f3 := by
  obtain ⟨hb, hg⟩ := h
  exact ⟨blk_far hb hne u, hg⟩
theorem cellS40_0 {W : World} {g : Nat} {f0 : Int} {f1 : Int} {f2 : Bool} {f3 : Int} (h : W.heap[g]? = some (.cells #[.int .u16 f0, .int .u16 f1, .bool f2, .int .i64 f3] 40 (0, 0))) : W.cell? ⟨g, 0, none⟩ = some (.int .u16 f0) := (blk_cell h 0).trans rfl
theorem IsS40.set_0 {w0 W : World} {g : Nat} {f0 : Int} {f1 : Int} {f2 : Bool} {f3 : Int} (h : IsS40 w0 W g f0 f1 f2 f3) (x : Int) : IsS40 w0 (W.setCell ⟨g, 0, none⟩ (.int .u16 x)) g x f1 f2 f3 := by
  obtain ⟨hb, hg⟩ := h
  exact ⟨by simpa using blk_set hb 0 (.int .u16 x), hg⟩
theorem cellS40_1 {W : World} {g : Nat} {f0 : Int} {f1 : Int} {f2 : Bool} {f3 : Int} (h : W.heap[g]? = some (.cells #[.int .u16 f0, .int .u16 f1, .bool f2, .int .i64 f3] 40 (0, 0))) : W.cell? ⟨g, 1, none⟩ = some (.int .u16 f1) := (blk_cell h 1).trans rfl
theorem IsS40.set_1 {w0 W : World} {g : Nat} {f0 : Int} {f1 : Int} {f2 : Bool} {f3 : Int} (h : IsS40 w0 W g f0 f1 f2 f3) (x : Int) : IsS40 w0 (W.setCell ⟨g, 1, none⟩ (.int .u16 x)) g f0 x f2 f3 := by
  obtain ⟨hb, hg⟩ := h
  exact ⟨by simpa using blk_set hb 1 (.int .u16 x), hg⟩
theorem cellS40_2 {W : World} {g : Nat} {f0 : Int} {f1 : Int} {f2 : Bool} {f3 : Int} (h : W.heap[g]? = some (.cells #[.int .u16 f0, .int .u16 f1, .bool f2, .int .i64 f3] 40 (0, 0))) : W.cell? ⟨g, 2, none⟩ = some (.bool f2) := (blk_cell h 2).trans rfl
theorem IsS40.set_2 {w0 W : World} {g : Nat} {f0 : Int} {f1 : Int} {f2 : Bool} {f3 : Int} (h : IsS40 w0 W g f0 f1 f2 f3) (x : Bool) : IsS40 w0 (W.setCell ⟨g, 2, none⟩ (.bool x)) g f0 f1 x f3 := by
  obtain ⟨hb, hg⟩ := h
  exact ⟨by simpa using blk_set hb 2 (.bool x), hg⟩
theorem cellS40_3 {W : World} {g : Nat} {f0 : Int} {f1 : Int} {f2 : Bool} {f3 : Int} (h : W.heap[g]? = some (.cells #[.int .u16 f0, .int .u16 f1, .bool f2, .int .i64 f3] 40 (0, 0))) : W.cell? ⟨g, 3, none⟩ = some (.int .i64 f3) := (blk_cell h 3).trans rfl
theorem IsS40.set_3 {w0 W : World} {g : Nat} {f0 : Int} {f1 : Int} {f2 : Bool} {f3 : Int} (h : IsS40 w0 W g f0 f1 f2 f3) (x : Int) : IsS40 w0 (W.setCell ⟨g, 3, none⟩ (.int .i64 x)) g f0 f1 f2 x := by
  obtain ⟨hb, hg⟩ := h
  exact ⟨by simpa using blk_set hb 3 (.int .i64 x), hg⟩
theorem IsS40.new (w0 W : World) (f0 : Int) (f1 : Int) (f2 : Bool) (f3 : Int) (hB : Below w0.heap.size w0 W) : IsS40 w0 (W.alloc (.cells #[.int .u16 f0, .int .u16 f1, .bool f2, .int .i64 f3] 40)) W.heap.size f0 f1 f2 f3 := ⟨by simpa using heap_alloc_new W _, hB.size⟩

/-! ### neigh_New: function 10 -/
def neigh_New.f  : Option (Int × Int × Bool × Int) := some (0, 0, false, 65535)
set_option maxHeartbeats 8000000 in
set_option maxRecDepth 100000 in
theorem neigh_New.calls  (r1 : Int) (r2 : Int) (r3 : Bool) (r4 : Int) (w0 w : World) (hB : Below w0.heap.size w0 w) (h : neigh_New.f  = some (r1, r2, r3, r4)) :
    Calls Try.prog 10 #[] w fun e w' => ∃ g_ : Nat, e = .returned (.pointer (some ⟨g_, 0, none⟩)) ∧ IsS40 w0 w' g_ r1 r2 r3 r4 ∧ Below w0.heap.size w0 w' ∧ Below w.heap.size w w' := by
  have hu40 := Try.underlying40
  have HBW := Aside0.mk (Below.refl w.heap.size w)
  have HW0 := Aside0.mk hB.size
  have HB := Aside0.mk hB
  clear hB
  have H : (some (0, 0, false, 65535)) = some (r1, r2, r3, r4) := h
  clear h
  simp only [Option.some.injEq, Prod.mk.injEq] at H
  obtain ⟨rfl, rfl, rfl, rfl⟩ := H
  go_enter Try.func10, Try.ntmps10
  go_wp2_with (first | ((with_reducible refine gate_dst (N := 2) rfl ?_); refine box_event ?hg (N := 2) ?hd (cs := #[.int .u16 0, .int .u16 0, .bool false, .int .i64 65535]) (t := 40) ?hr ?_; (case hd => rfl); (case hg => rfl); (case hr => first | (go_simp; done) | (go_simp; rfl)); intro gb101 hg w1 hbox hb; have n0_ := Aside0.mk (below_step HBW.out hb); have n1_ := Aside0.mk (below_step (by repeat (first | (with_reducible first | exact HB.out | apply below_alloc | apply pw_below_drewN | apply below_drew1) | exact HB.out)) hb); have n2_ := Aside0.mk (hbox); have n3_ := Aside0.mk ((by rw [hg]; exact (below_size (by repeat (first | (with_reducible first | exact HBW.out | apply below_alloc | apply pw_below_drewN | apply below_drew1) | exact HBW.out))) : w.heap.size ≤ gb101)); have n4_ := Aside0.mk ((Nat.le_trans HW0.out (by rw [hg]; exact (below_size (by repeat (first | (with_reducible first | exact HBW.out | apply below_alloc | apply pw_below_drewN | apply below_drew1) | exact HBW.out))) : w.heap.size ≤ gb101) : w0.heap.size ≤ gb101)); clear HBW; clear HB; have HBW := n0_; have HB := n1_; have BK101 := n2_; have GW101 := n3_; have GE101 := n4_; clear n0_ n1_ n2_ n3_ n4_; clear hb hbox hg))
  go_ret
  exact ⟨_, rfl, (show IsS40 w0 _ gb101 0 0 false 65535 from ⟨by (with_reducible repeat (first | refine blk_drewN ?_ _ | refine blk_drew ?_ | refine blk_alloc ?_ _)); exact BK101.out, GE101.out⟩), by repeat (first | (with_reducible first | exact HB.out | apply below_alloc | apply pw_below_drewN | apply below_drew1 | refine below_set ?_ GE101.out) | exact HB.out), by repeat (first | (with_reducible first | exact HBW.out | apply below_alloc | apply pw_below_drewN | apply below_drew1 | refine below_set ?_ GW101.out) | exact HBW.out)⟩

/-! ### neigh_Neigh_Hello: function 12 -/
def neigh_Neigh_Hello.j0 : Nat → Int → Int → Int → Bool → Int → Int → Bool → Int → Option (Int × Int × Bool × Int)
  | 0, _, _, _, _, _, _, _, _ => none
  | k + 1, x1, x4, x5, x24, x1000, x1001, x1002, x1003 => if x24 = true then (some (Go.bits .or .u16 0 32768, IntKind.u16.wrap (x1 + 1), true, x1003)) else (if x4 ≤ 16 then (if 0 ≤ x4 then (some (Go.bits .or .u16 ((shr .u16 x1000 x4) / 2) 32768, IntKind.u16.wrap (x1 + 1), true, x1003)) else (none)) else (if 0 ≤ x5 then (some (Go.bits .or .u16 ((shl .u16 x1000 x5) / 2) 32768, IntKind.u16.wrap (x1 + 1), true, x1003)) else (none)))
def neigh_Neigh_Hello.f (k : Nat) (s0_0 : Int) (s0_1 : Int) (s0_2 : Bool) (s0_3 : Int) (a1 : Int) : Option (Int × Int × Bool × Int) := if s0_2 = true then (if (IntKind.u16.wrap (a1 - s0_1)) > 16 then (neigh_Neigh_Hello.j0 k a1 (IntKind.u16.wrap (a1 - s0_1)) (IntKind.u16.wrap (s0_1 - a1)) (decide ((IntKind.u16.wrap (s0_1 - a1)) > 16)) s0_0 s0_1 s0_2 s0_3) else (neigh_Neigh_Hello.j0 k a1 (IntKind.u16.wrap (a1 - s0_1)) (IntKind.u16.wrap (s0_1 - a1)) false s0_0 s0_1 s0_2 s0_3)) else (some (Go.bits .or .u16 0 32768, IntKind.u16.wrap (a1 + 1), true, s0_3))
theorem neigh_Neigh_Hello.mono_l : ∀ k, (∀ y0 y1 y2 y3 y4 y5 y6 y7, LeO (neigh_Neigh_Hello.j0 k y0 y1 y2 y3 y4 y5 y6 y7) (neigh_Neigh_Hello.j0 (k + 1) y0 y1 y2 y3 y4 y5 y6 y7))
  | 0 => fun _ _ _ _ _ _ _ _ r h => by simp [neigh_Neigh_Hello.j0] at h
  | k + 1 => by
    have ih0 := neigh_Neigh_Hello.mono_l k
    · intro y0 y1 y2 y3 y4 y5 y6 y7
      unfold neigh_Neigh_Hello.j0
      repeat' first
      | (with_reducible exact ih0 _ _ _ _ _ _ _ _)
      | (with_reducible exact LeO.refl _)
      | (with_reducible exact LeO.none _)
      | (with_reducible refine LeO.ite ?_ ?_)
      | (with_reducible refine LeO.bind ?_ (fun _ => ?_))
      | exact ih0 _ _ _ _ _ _ _ _
      | exact LeO.none _
      | refine LeO.ite ?_ ?_
      | refine LeO.bind ?_ (fun _ => ?_)
theorem neigh_Neigh_Hello.mono : ∀ a0 a1 a2 a3 a4 k, LeO (neigh_Neigh_Hello.f k a0 a1 a2 a3 a4) (neigh_Neigh_Hello.f (k + 1) a0 a1 a2 a3 a4) := by
  intro a0 a1 a2 a3 a4 k
  have ih0 := neigh_Neigh_Hello.mono_l k
  unfold neigh_Neigh_Hello.f
  repeat' first
      | (with_reducible exact ih0 _ _ _ _ _ _ _ _)
      | (with_reducible exact LeO.refl _)
      | (with_reducible exact LeO.none _)
      | (with_reducible refine LeO.ite ?_ ?_)
      | (with_reducible refine LeO.bind ?_ (fun _ => ?_))
      | exact ih0 _ _ _ _ _ _ _ _
      | exact LeO.none _
      | refine LeO.ite ?_ ?_
      | refine LeO.bind ?_ (fun _ => ?_)
set_option maxHeartbeats 8000000 in
set_option maxRecDepth 100000 in
theorem neigh_Neigh_Hello.calls (k : Nat) (g : Nat) (s0_0 : Int) (s0_1 : Int) (s0_2 : Bool) (s0_3 : Int) (a1 : Int) (r1 : Int) (r2 : Int) (r3 : Bool) (r4 : Int) (w0 w : World) (hI : IsS40 w0 w g s0_0 s0_1 s0_2 s0_3) (hB : Below w0.heap.size w0 w) (h : neigh_Neigh_Hello.f k s0_0 s0_1 s0_2 s0_3 a1 = some (r1, r2, r3, r4)) :
    Calls Try.prog 12 #[.pointer (some ⟨g, 0, none⟩), .int .u16 a1] w fun e w' => e = .returned (.tuple #[]) ∧ IsS40 w0 w' g r1 r2 r3 r4 ∧ Below w0.heap.size w0 w' ∧ KeepBut w w' g none := by
  have HI0 := Aside0.mk hI
  have HK := Aside0.mk (KeepBut.refl w g none)
  have HL := Aside0.mk hB.size
  clear hI
  have HW0 := Aside0.mk hB.size
  have HB := Aside0.mk hB
  clear hB
  have H : (if s0_2 = true then (if (IntKind.u16.wrap (a1 - s0_1)) > 16 then (neigh_Neigh_Hello.j0 k a1 (IntKind.u16.wrap (a1 - s0_1)) (IntKind.u16.wrap (s0_1 - a1)) (decide ((IntKind.u16.wrap (s0_1 - a1)) > 16)) s0_0 s0_1 s0_2 s0_3) else (neigh_Neigh_Hello.j0 k a1 (IntKind.u16.wrap (a1 - s0_1)) (IntKind.u16.wrap (s0_1 - a1)) false s0_0 s0_1 s0_2 s0_3)) else (some (Go.bits .or .u16 0 32768, IntKind.u16.wrap (a1 + 1), true, s0_3))) = some (r1, r2, r3, r4) := h
  clear h
  by_cases c3 : s0_2 = true
  · subst c3
    have H1 : (if (IntKind.u16.wrap (a1 - s0_1)) > 16 then (neigh_Neigh_Hello.j0 k a1 (IntKind.u16.wrap (a1 - s0_1)) (IntKind.u16.wrap (s0_1 - a1)) (decide ((IntKind.u16.wrap (s0_1 - a1)) > 16)) s0_0 s0_1 true s0_3) else (neigh_Neigh_Hello.j0 k a1 (IntKind.u16.wrap (a1 - s0_1)) (IntKind.u16.wrap (s0_1 - a1)) false s0_0 s0_1 true s0_3)) = some (r1, r2, r3, r4) := by rw [if_pos rfl] at H; exact H
    clear H
    have H := H1
    clear H1
    have HC4 := Aside0.mk H
    clear H
    obtain ⟨HGz5, hgz5⟩ := HI0.out
    have hcz5_0 := cellS40_0 HGz5
    have hcz5_1 := cellS40_1 HGz5
    have hcz5_2 := cellS40_2 HGz5
    have hcz5_3 := cellS40_3 HGz5
    have hfz5_0 := blk_frozen HGz5 0
    have hfz5_1 := blk_frozen HGz5 1
    have hfz5_2 := blk_frozen HGz5 2
    have hfz5_3 := blk_frozen HGz5 3
    clear HGz5 hgz5
    go_enter Try.func12, Try.ntmps12
    go_upto_region 2 with (fail)
    repeat (go_quiet (fail); go_upto_region 2 with (fail))
    go_cut [24] (fun v24 wc => ∃ (kq : Nat) (x24_3 : Bool), v24 = .bool x24_3 ∧ Aside0 (neigh_Neigh_Hello.j0 kq a1 (IntKind.u16.wrap (a1 - s0_1)) (IntKind.u16.wrap (s0_1 - a1)) x24_3 s0_0 s0_1 true s0_3 = some (r1, r2, r3, r4)) ∧ Aside0 (kq ≤ k) ∧ Aside0 (IsS40 w0 wc g s0_0 s0_1 true s0_3) ∧ Aside0 (KeepBut w wc g none) ∧ Aside0 (Below w0.heap.size w0 wc))
    case first =>
      have H := HC4.out
      clear HC4
      by_cases c6 : (IntKind.u16.wrap (a1 - s0_1)) > 16
      · rw [if_pos c6] at H
        have c6b0 : decide (16 < (IntKind.u16.wrap (a1 - s0_1))) = true := decide_eq_true c6
        clear c6
        (first | rw [c6b0] | (simp only [i64_w, i32_w]; rw [c6b0]) | skip)
        have H' := Aside0.mk H
        clear H
        go_wp2
        repeat (go_quiet (fail); try go_wp2)
        go_meet
        case rel => exact ⟨_, (decide ((IntKind.u16.wrap (s0_1 - a1)) > 16)), (by first | rfl | (simp; done) | (simp [*]; done)), H', ⟨by first | omega | exact Nat.le_refl _⟩, ⟨by repeat (first | (with_reducible first | exact HI0.out | apply IsS40.alloc | apply IsS40.drewN | apply IsS40.drew | apply IsS40.set_0 | apply IsS40.set_1 | apply IsS40.set_2 | apply IsS40.set_3) | exact HI0.out)⟩, ⟨by repeat (first | (with_reducible first | exact HK.out | apply KeepBut.set_ | apply keep_drewN | apply keep_drew | apply keep_alloc) | exact HK.out)⟩, ⟨by repeat (first | (with_reducible first | exact HB.out | apply below_alloc | apply pw_below_drewN | apply below_drew1 | refine below_set ?_ (IsS40.ge HI0.out)) | exact HB.out)⟩⟩
      · rw [if_neg c6] at H
        have c6b0 : decide (16 < (IntKind.u16.wrap (a1 - s0_1))) = false := decide_eq_false c6
        clear c6
        (first | rw [c6b0] | (simp only [i64_w, i32_w]; rw [c6b0]) | skip)
        have H' := Aside0.mk H
        clear H
        go_wp2
        repeat (go_quiet (fail); try go_wp2)
        go_meet
        case rel => exact ⟨_, (false), (by first | rfl | (simp; done) | (simp [*]; done)), H', ⟨by first | omega | exact Nat.le_refl _⟩, ⟨by repeat (first | (with_reducible first | exact HI0.out | apply IsS40.alloc | apply IsS40.drewN | apply IsS40.drew | apply IsS40.set_0 | apply IsS40.set_1 | apply IsS40.set_2 | apply IsS40.set_3) | exact HI0.out)⟩, ⟨by repeat (first | (with_reducible first | exact HK.out | apply KeepBut.set_ | apply keep_drewN | apply keep_drew | apply keep_alloc) | exact HK.out)⟩, ⟨by repeat (first | (with_reducible first | exact HB.out | apply below_alloc | apply pw_below_drewN | apply below_drew1 | refine below_set ?_ (IsS40.ge HI0.out)) | exact HB.out)⟩⟩
    case rest =>
      clear HC4
      try clear c1
      try clear p2
      try clear c3
      try clear c6
      try clear c6b0
      try clear hcz5_0
      try clear hcz5_1
      try clear hcz5_2
      try clear hcz5_3
      try clear hfz5_0
      try clear hfz5_1
      try clear hfz5_2
      try clear hfz5_3
      obtain ⟨kq, x24_3, rfl, HA, HJ3, HI0, HK, HB⟩ := hcut
      cases kq with
      | zero => exact absurd HA.out (by simp [neigh_Neigh_Hello.j0])
      | succ kj3 =>
        have H := HA.out
        clear HA
        simp only [neigh_Neigh_Hello.j0] at H
        by_cases c7 : x24_3 = true
        · subst c7
          have H1 : (some (Go.bits .or .u16 0 32768, IntKind.u16.wrap (a1 + 1), true, s0_3)) = some (r1, r2, r3, r4) := by rw [if_pos rfl] at H; exact H
          clear H
          have H := H1
          clear H1
          simp only [Option.some.injEq, Prod.mk.injEq] at H
          obtain ⟨rfl, rfl, rfl, rfl⟩ := H
          obtain ⟨HGz8, hgz8⟩ := HI0.out
          have hcz8_0 := cellS40_0 HGz8
          have hcz8_1 := cellS40_1 HGz8
          have hcz8_2 := cellS40_2 HGz8
          have hcz8_3 := cellS40_3 HGz8
          have hfz8_0 := blk_frozen HGz8 0
          have hfz8_1 := blk_frozen HGz8 1
          have hfz8_2 := blk_frozen HGz8 2
          have hfz8_3 := blk_frozen HGz8 3
          clear HGz8 hgz8
          go_wp2
          repeat (go_quiet (fail); try go_wp2)
          first | go_end0 | ((try simp only [Exit.inBlock, Exit.then]); refine bodyPost_ret (results_none rfl _ _ _) rfl ?_)
          exact ⟨by first | rfl | (simp [errW_none, errW_some] <;> rfl) | (simp [*, errW_none, errW_some] <;> rfl), by repeat (first | (with_reducible first | exact HI0.out | apply IsS40.alloc | apply IsS40.drewN | apply IsS40.drew | apply IsS40.set_0 | apply IsS40.set_1 | apply IsS40.set_2 | apply IsS40.set_3) | exact HI0.out), by repeat (first | (with_reducible first | exact HB.out | apply below_alloc | apply pw_below_drewN | apply below_drew1 | refine below_set ?_ (IsS40.ge HI0.out)) | exact HB.out), by repeat (first | (with_reducible first | exact HK.out | apply KeepBut.set_ | apply keep_drewN | apply keep_drew | apply keep_alloc) | exact HK.out)⟩
        · replace c7 := Bool.eq_false_iff.mpr c7
          subst c7
          have H1 : (if (IntKind.u16.wrap (a1 - s0_1)) ≤ 16 then (if 0 ≤ (IntKind.u16.wrap (a1 - s0_1)) then (some (Go.bits .or .u16 ((shr .u16 s0_0 (IntKind.u16.wrap (a1 - s0_1))) / 2) 32768, IntKind.u16.wrap (a1 + 1), true, s0_3)) else (none)) else (if 0 ≤ (IntKind.u16.wrap (s0_1 - a1)) then (some (Go.bits .or .u16 ((shl .u16 s0_0 (IntKind.u16.wrap (s0_1 - a1))) / 2) 32768, IntKind.u16.wrap (a1 + 1), true, s0_3)) else (none))) = some (r1, r2, r3, r4) := by rw [if_neg (show ¬ (false = true) by decide)] at H; exact H
          clear H
          have H := H1
          clear H1
          by_cases c9 : (IntKind.u16.wrap (a1 - s0_1)) ≤ 16
          · rw [if_pos c9] at H
            have c9b0 : decide ((IntKind.u16.wrap (a1 - s0_1)) ≤ 16) = true := decide_eq_true c9
            clear c9
            obtain ⟨ji10, hji10⟩ : ∃ j_ : Int, (IntKind.u16.wrap (a1 - s0_1)) = j_ := ⟨_, rfl⟩
            replace H : (if 0 ≤ (ji10) then (some (Go.bits .or .u16 ((shr .u16 s0_0 (ji10)) / 2) 32768, IntKind.u16.wrap (a1 + 1), true, s0_3)) else (none)) = some (r1, r2, r3, r4) := by first | (rw [hji10] at H; exact H) | (simp only [hji10] at H ⊢; exact H)
            (try rw [hji10] at c9b0)
            by_cases c11 : 0 ≤ (ji10)
            · rw [if_pos c11] at H
              have c11b0 := eq_true c11
              have c11b1 : decide (0 ≤ (ji10)) = true := decide_eq_true c11
              clear c11
              obtain ⟨ji12, hji12⟩ : ∃ j_ : Int, (shr .u16 s0_0 (ji10)) = j_ := ⟨_, rfl⟩
              replace H : (some (Go.bits .or .u16 ((ji12) / 2) 32768, IntKind.u16.wrap (a1 + 1), true, s0_3)) = some (r1, r2, r3, r4) := by first | (rw [hji12] at H; exact H) | (simp only [hji12] at H ⊢; exact H)
              have hji12_ : (s0_0 / 2 ^ min (ji10).toNat 16) = ji12 := hji12
              have hji12z : (ji10) ≤ 16 → (s0_0 / 2 ^ (ji10).toNat) = ji12 := shr_small hji12
              simp only [Option.some.injEq, Prod.mk.injEq] at H
              obtain ⟨rfl, rfl, rfl, rfl⟩ := H
              obtain ⟨HGz13, hgz13⟩ := HI0.out
              have hcz13_0 := cellS40_0 HGz13
              have hcz13_1 := cellS40_1 HGz13
              have hcz13_2 := cellS40_2 HGz13
              have hcz13_3 := cellS40_3 HGz13
              have hfz13_0 := blk_frozen HGz13 0
              have hfz13_1 := blk_frozen HGz13 1
              have hfz13_2 := blk_frozen HGz13 2
              have hfz13_3 := blk_frozen HGz13 3
              clear HGz13 hgz13
              go_wp2
              repeat (go_quiet (fail); try go_wp2)
              first | go_end0 | ((try simp only [Exit.inBlock, Exit.then]); refine bodyPost_ret (results_none rfl _ _ _) rfl ?_)
              exact ⟨by first | rfl | (simp [errW_none, errW_some] <;> rfl) | (simp only [← hji10, ← hji12]; first | rfl | (simp [errW_none, errW_some] <;> rfl)) | (simp [*, errW_none, errW_some] <;> rfl), by repeat (first | (with_reducible first | exact HI0.out | apply IsS40.alloc | apply IsS40.drewN | apply IsS40.drew | apply IsS40.set_0 | apply IsS40.set_1 | apply IsS40.set_2 | apply IsS40.set_3) | exact HI0.out), by repeat (first | (with_reducible first | exact HB.out | apply below_alloc | apply pw_below_drewN | apply below_drew1 | refine below_set ?_ (IsS40.ge HI0.out)) | exact HB.out), by repeat (first | (with_reducible first | exact HK.out | apply KeepBut.set_ | apply keep_drewN | apply keep_drew | apply keep_alloc) | exact HK.out)⟩
            · rw [if_neg c11] at H
              exact absurd H (by simp)
          · rw [if_neg c9] at H
            have c9b0 : decide ((IntKind.u16.wrap (a1 - s0_1)) ≤ 16) = false := decide_eq_false c9
            clear c9
            obtain ⟨ji14, hji14⟩ : ∃ j_ : Int, (IntKind.u16.wrap (s0_1 - a1)) = j_ := ⟨_, rfl⟩
            replace H : (if 0 ≤ (ji14) then (some (Go.bits .or .u16 ((shl .u16 s0_0 (ji14)) / 2) 32768, IntKind.u16.wrap (a1 + 1), true, s0_3)) else (none)) = some (r1, r2, r3, r4) := by first | (rw [hji14] at H; exact H) | (simp only [hji14] at H ⊢; exact H)
            by_cases c15 : 0 ≤ (ji14)
            · rw [if_pos c15] at H
              have c15b0 := eq_true c15
              have c15b1 : decide (0 ≤ (ji14)) = true := decide_eq_true c15
              clear c15
              obtain ⟨ji16, hji16⟩ : ∃ j_ : Int, (shl .u16 s0_0 (ji14)) = j_ := ⟨_, rfl⟩
              replace H : (some (Go.bits .or .u16 ((ji16) / 2) 32768, IntKind.u16.wrap (a1 + 1), true, s0_3)) = some (r1, r2, r3, r4) := by first | (rw [hji16] at H; exact H) | (simp only [hji16] at H ⊢; exact H)
              have hji16_ : (IntKind.u16.wrap (s0_0 * 2 ^ min (ji14).toNat 16)) = ji16 := hji16
              have hji16z : (ji14) ≤ 16 → (IntKind.u16.wrap (s0_0 * 2 ^ (ji14).toNat)) = ji16 := shl_small hji16
              simp only [Option.some.injEq, Prod.mk.injEq] at H
              obtain ⟨rfl, rfl, rfl, rfl⟩ := H
              obtain ⟨HGz17, hgz17⟩ := HI0.out
              have hcz17_0 := cellS40_0 HGz17
              have hcz17_1 := cellS40_1 HGz17
              have hcz17_2 := cellS40_2 HGz17
              have hcz17_3 := cellS40_3 HGz17
              have hfz17_0 := blk_frozen HGz17 0
              have hfz17_1 := blk_frozen HGz17 1
              have hfz17_2 := blk_frozen HGz17 2
              have hfz17_3 := blk_frozen HGz17 3
              clear HGz17 hgz17
              go_wp2
              repeat (go_quiet (fail); try go_wp2)
              first | go_end0 | ((try simp only [Exit.inBlock, Exit.then]); refine bodyPost_ret (results_none rfl _ _ _) rfl ?_)
              exact ⟨by first | rfl | (simp [errW_none, errW_some] <;> rfl) | (simp only [← hji14, ← hji16]; first | rfl | (simp [errW_none, errW_some] <;> rfl)) | (simp [*, errW_none, errW_some] <;> rfl), by repeat (first | (with_reducible first | exact HI0.out | apply IsS40.alloc | apply IsS40.drewN | apply IsS40.drew | apply IsS40.set_0 | apply IsS40.set_1 | apply IsS40.set_2 | apply IsS40.set_3) | exact HI0.out), by repeat (first | (with_reducible first | exact HB.out | apply below_alloc | apply pw_below_drewN | apply below_drew1 | refine below_set ?_ (IsS40.ge HI0.out)) | exact HB.out), by repeat (first | (with_reducible first | exact HK.out | apply KeepBut.set_ | apply keep_drewN | apply keep_drew | apply keep_alloc) | exact HK.out)⟩
            · rw [if_neg c15] at H
              exact absurd H (by simp)
  · replace c3 := Bool.eq_false_iff.mpr c3
    subst c3
    have H1 : (some (Go.bits .or .u16 0 32768, IntKind.u16.wrap (a1 + 1), true, s0_3)) = some (r1, r2, r3, r4) := by rw [if_neg (show ¬ (false = true) by decide)] at H; exact H
    clear H
    have H := H1
    clear H1
    simp only [Option.some.injEq, Prod.mk.injEq] at H
    obtain ⟨rfl, rfl, rfl, rfl⟩ := H
    obtain ⟨HGz18, hgz18⟩ := HI0.out
    have hcz18_0 := cellS40_0 HGz18
    have hcz18_1 := cellS40_1 HGz18
    have hcz18_2 := cellS40_2 HGz18
    have hcz18_3 := cellS40_3 HGz18
    have hfz18_0 := blk_frozen HGz18 0
    have hfz18_1 := blk_frozen HGz18 1
    have hfz18_2 := blk_frozen HGz18 2
    have hfz18_3 := blk_frozen HGz18 3
    clear HGz18 hgz18
    go_enter Try.func12, Try.ntmps12
    go_wp2
    repeat (go_quiet (fail); try go_wp2)
    first | go_end0 | ((try simp only [Exit.inBlock, Exit.then]); refine bodyPost_ret (results_none rfl _ _ _) rfl ?_)
    exact ⟨by first | rfl | (simp [errW_none, errW_some] <;> rfl) | (simp [*, errW_none, errW_some] <;> rfl), by repeat (first | (with_reducible first | exact HI0.out | apply IsS40.alloc | apply IsS40.drewN | apply IsS40.drew | apply IsS40.set_0 | apply IsS40.set_1 | apply IsS40.set_2 | apply IsS40.set_3) | exact HI0.out), by repeat (first | (with_reducible first | exact HB.out | apply below_alloc | apply pw_below_drewN | apply below_drew1 | refine below_set ?_ (IsS40.ge HI0.out)) | exact HB.out), by repeat (first | (with_reducible first | exact HK.out | apply KeepBut.set_ | apply keep_drewN | apply keep_drew | apply keep_alloc) | exact HK.out)⟩

/-! ### neigh_Neigh_Miss: function 14 -/
def neigh_Neigh_Miss.f (s0_0 : Int) (s0_1 : Int) (s0_2 : Bool) (s0_3 : Int) : Option (Int × Int × Bool × Int) := if s0_2 = true then (some (s0_0 / 2, IntKind.u16.wrap (s0_1 + 1), s0_2, s0_3)) else (some (s0_0, s0_1, s0_2, s0_3))
set_option maxHeartbeats 8000000 in
set_option maxRecDepth 100000 in
theorem neigh_Neigh_Miss.calls (g : Nat) (s0_0 : Int) (s0_1 : Int) (s0_2 : Bool) (s0_3 : Int) (r1 : Int) (r2 : Int) (r3 : Bool) (r4 : Int) (w0 w : World) (hI : IsS40 w0 w g s0_0 s0_1 s0_2 s0_3) (hB : Below w0.heap.size w0 w) (h : neigh_Neigh_Miss.f s0_0 s0_1 s0_2 s0_3 = some (r1, r2, r3, r4)) :
    Calls Try.prog 14 #[.pointer (some ⟨g, 0, none⟩)] w fun e w' => e = .returned (.tuple #[]) ∧ IsS40 w0 w' g r1 r2 r3 r4 ∧ Below w0.heap.size w0 w' ∧ KeepBut w w' g none := by
  have HI0 := Aside0.mk hI
  have HK := Aside0.mk (KeepBut.refl w g none)
  have HL := Aside0.mk hB.size
  clear hI
  have HW0 := Aside0.mk hB.size
  have HB := Aside0.mk hB
  clear hB
  have H : (if s0_2 = true then (some (s0_0 / 2, IntKind.u16.wrap (s0_1 + 1), s0_2, s0_3)) else (some (s0_0, s0_1, s0_2, s0_3))) = some (r1, r2, r3, r4) := h
  clear h
  by_cases c2 : s0_2 = true
  · subst c2
    have H1 : (some (s0_0 / 2, IntKind.u16.wrap (s0_1 + 1), true, s0_3)) = some (r1, r2, r3, r4) := by rw [if_pos rfl] at H; exact H
    clear H
    have H := H1
    clear H1
    simp only [Option.some.injEq, Prod.mk.injEq] at H
    obtain ⟨rfl, rfl, rfl, rfl⟩ := H
    obtain ⟨HGz3, hgz3⟩ := HI0.out
    have hcz3_0 := cellS40_0 HGz3
    have hcz3_1 := cellS40_1 HGz3
    have hcz3_2 := cellS40_2 HGz3
    have hcz3_3 := cellS40_3 HGz3
    have hfz3_0 := blk_frozen HGz3 0
    have hfz3_1 := blk_frozen HGz3 1
    have hfz3_2 := blk_frozen HGz3 2
    have hfz3_3 := blk_frozen HGz3 3
    clear HGz3 hgz3
    go_enter Try.func14, Try.ntmps14
    go_wp2
    first | go_end0 | ((try simp only [Exit.inBlock, Exit.then]); refine bodyPost_ret (results_none rfl _ _ _) rfl ?_)
    exact ⟨by first | rfl | (simp [errW_none, errW_some] <;> rfl) | (simp [*, errW_none, errW_some] <;> rfl), by repeat (first | (with_reducible first | exact HI0.out | apply IsS40.alloc | apply IsS40.drewN | apply IsS40.drew | apply IsS40.set_0 | apply IsS40.set_1 | apply IsS40.set_2 | apply IsS40.set_3) | exact HI0.out), by repeat (first | (with_reducible first | exact HB.out | apply below_alloc | apply pw_below_drewN | apply below_drew1 | refine below_set ?_ (IsS40.ge HI0.out)) | exact HB.out), by repeat (first | (with_reducible first | exact HK.out | apply KeepBut.set_ | apply keep_drewN | apply keep_drew | apply keep_alloc) | exact HK.out)⟩
  · replace c2 := Bool.eq_false_iff.mpr c2
    subst c2
    have H1 : (some (s0_0, s0_1, false, s0_3)) = some (r1, r2, r3, r4) := by rw [if_neg (show ¬ (false = true) by decide)] at H; exact H
    clear H
    have H := H1
    clear H1
    simp only [Option.some.injEq, Prod.mk.injEq] at H
    obtain ⟨rfl, rfl, rfl, rfl⟩ := H
    obtain ⟨HGz4, hgz4⟩ := HI0.out
    have hcz4_0 := cellS40_0 HGz4
    have hcz4_1 := cellS40_1 HGz4
    have hcz4_2 := cellS40_2 HGz4
    have hcz4_3 := cellS40_3 HGz4
    have hfz4_0 := blk_frozen HGz4 0
    have hfz4_1 := blk_frozen HGz4 1
    have hfz4_2 := blk_frozen HGz4 2
    have hfz4_3 := blk_frozen HGz4 3
    clear HGz4 hgz4
    go_enter Try.func14, Try.ntmps14
    go_wp2
    first | go_end0 | ((try simp only [Exit.inBlock, Exit.then]); refine bodyPost_ret (results_none rfl _ _ _) rfl ?_)
    exact ⟨by first | rfl | (simp [errW_none, errW_some] <;> rfl) | (simp [*, errW_none, errW_some] <;> rfl), by repeat (first | (with_reducible first | exact HI0.out | apply IsS40.alloc | apply IsS40.drewN | apply IsS40.drew | apply IsS40.set_0 | apply IsS40.set_1 | apply IsS40.set_2 | apply IsS40.set_3) | exact HI0.out), by repeat (first | (with_reducible first | exact HB.out | apply below_alloc | apply pw_below_drewN | apply below_drew1 | refine below_set ?_ (IsS40.ge HI0.out)) | exact HB.out), by repeat (first | (with_reducible first | exact HK.out | apply KeepBut.set_ | apply keep_drewN | apply keep_drew | apply keep_alloc) | exact HK.out)⟩

/-! ### neigh_Neigh_Ihu: function 16 -/
def neigh_Neigh_Ihu.f (s0_0 : Int) (s0_1 : Int) (s0_2 : Bool) (s0_3 : Int) (a1 : Int) : Option (Int × Int × Bool × Int) := some (s0_0, s0_1, s0_2, mx 0 (mn a1 65535))
set_option maxHeartbeats 8000000 in
set_option maxRecDepth 100000 in
theorem neigh_Neigh_Ihu.calls (g : Nat) (s0_0 : Int) (s0_1 : Int) (s0_2 : Bool) (s0_3 : Int) (a1 : Int) (r1 : Int) (r2 : Int) (r3 : Bool) (r4 : Int) (w0 w : World) (hI : IsS40 w0 w g s0_0 s0_1 s0_2 s0_3) (hB : Below w0.heap.size w0 w) (h : neigh_Neigh_Ihu.f s0_0 s0_1 s0_2 s0_3 a1 = some (r1, r2, r3, r4)) :
    Calls Try.prog 16 #[.pointer (some ⟨g, 0, none⟩), .int .i64 a1] w fun e w' => e = .returned (.tuple #[]) ∧ IsS40 w0 w' g r1 r2 r3 r4 ∧ Below w0.heap.size w0 w' ∧ KeepBut w w' g none := by
  have HI0 := Aside0.mk hI
  have HK := Aside0.mk (KeepBut.refl w g none)
  have HL := Aside0.mk hB.size
  clear hI
  have HW0 := Aside0.mk hB.size
  have HB := Aside0.mk hB
  clear hB
  have H : (some (s0_0, s0_1, s0_2, mx 0 (mn a1 65535))) = some (r1, r2, r3, r4) := h
  clear h
  obtain ⟨ji3, hji3⟩ : ∃ j_ : Int, (mn a1 65535) = j_ := ⟨_, rfl⟩
  replace H : (some (s0_0, s0_1, s0_2, mx 0 (ji3))) = some (r1, r2, r3, r4) := by first | (rw [hji3] at H; exact H) | (simp only [hji3] at H ⊢; exact H)
  (try (have hji3h : ji3 ≤ 65535 := by (rw [← hji3]; unfold mn; (repeat' split) <;> omega)))
  (try (have hji3g : ji3 ≤ 64 := by omega))
  have hji3_ : (if 65535 < a1 then 65535 else a1) = ji3 := hji3
  obtain ⟨ji4, hji4⟩ : ∃ j_ : Int, (mx 0 (ji3)) = j_ := ⟨_, rfl⟩
  replace H : (some (s0_0, s0_1, s0_2, ji4)) = some (r1, r2, r3, r4) := by first | (rw [hji4] at H; exact H) | (simp only [hji4] at H ⊢; exact H)
  have hji4_ : (if 0 < (ji3) then (ji3) else 0) = ji4 := hji4
  simp only [Option.some.injEq, Prod.mk.injEq] at H
  obtain ⟨rfl, rfl, rfl, rfl⟩ := H
  obtain ⟨HGz5, hgz5⟩ := HI0.out
  have hcz5_0 := cellS40_0 HGz5
  have hcz5_1 := cellS40_1 HGz5
  have hcz5_2 := cellS40_2 HGz5
  have hcz5_3 := cellS40_3 HGz5
  have hfz5_0 := blk_frozen HGz5 0
  have hfz5_1 := blk_frozen HGz5 1
  have hfz5_2 := blk_frozen HGz5 2
  have hfz5_3 := blk_frozen HGz5 3
  clear HGz5 hgz5
  go_enter Try.func16, Try.ntmps16
  go_wp2
  first | go_end0 | ((try simp only [Exit.inBlock, Exit.then]); refine bodyPost_ret (results_none rfl _ _ _) rfl ?_)
  exact ⟨by first | rfl | (simp [errW_none, errW_some] <;> rfl) | (simp only [← hji3, ← hji4]; first | rfl | (simp [errW_none, errW_some] <;> rfl)) | (simp [*, errW_none, errW_some] <;> rfl), by repeat (first | (with_reducible first | exact HI0.out | apply IsS40.alloc | apply IsS40.drewN | apply IsS40.drew | apply IsS40.set_0 | apply IsS40.set_1 | apply IsS40.set_2 | apply IsS40.set_3) | exact HI0.out), by repeat (first | (with_reducible first | exact HB.out | apply below_alloc | apply pw_below_drewN | apply below_drew1 | refine below_set ?_ (IsS40.ge HI0.out)) | exact HB.out), by repeat (first | (with_reducible first | exact HK.out | apply KeepBut.set_ | apply keep_drewN | apply keep_drew | apply keep_alloc) | exact HK.out)⟩

/-! ### neigh_Neigh_History: function 18 -/
def neigh_Neigh_History.f (s0_0 : Int) (s0_1 : Int) (s0_2 : Bool) (s0_3 : Int) : Option (Int × Int × Int × Bool × Int) := some (s0_0, s0_0, s0_1, s0_2, s0_3)
set_option maxHeartbeats 8000000 in
set_option maxRecDepth 100000 in
theorem neigh_Neigh_History.calls (g : Nat) (s0_0 : Int) (s0_1 : Int) (s0_2 : Bool) (s0_3 : Int) (r1 : Int) (r2 : Int) (r3 : Int) (r4 : Bool) (r5 : Int) (w0 w : World) (hI : IsS40 w0 w g s0_0 s0_1 s0_2 s0_3) (hB : Below w0.heap.size w0 w) (h : neigh_Neigh_History.f s0_0 s0_1 s0_2 s0_3 = some (r1, r2, r3, r4, r5)) :
    Calls Try.prog 18 #[.pointer (some ⟨g, 0, none⟩)] w fun e w' => e = .returned (.int .u16 r1) ∧ IsS40 w0 w' g r2 r3 r4 r5 ∧ Below w0.heap.size w0 w' ∧ KeepBut w w' g none := by
  have HI0 := Aside0.mk hI
  have HK := Aside0.mk (KeepBut.refl w g none)
  have HL := Aside0.mk hB.size
  clear hI
  have HW0 := Aside0.mk hB.size
  have HB := Aside0.mk hB
  clear hB
  have H : (some (s0_0, s0_0, s0_1, s0_2, s0_3)) = some (r1, r2, r3, r4, r5) := h
  clear h
  simp only [Option.some.injEq, Prod.mk.injEq] at H
  obtain ⟨rfl, rfl, rfl, rfl, rfl⟩ := H
  obtain ⟨HGz2, hgz2⟩ := HI0.out
  have hcz2_0 := cellS40_0 HGz2
  have hcz2_1 := cellS40_1 HGz2
  have hcz2_2 := cellS40_2 HGz2
  have hcz2_3 := cellS40_3 HGz2
  have hfz2_0 := blk_frozen HGz2 0
  have hfz2_1 := blk_frozen HGz2 1
  have hfz2_2 := blk_frozen HGz2 2
  have hfz2_3 := blk_frozen HGz2 3
  clear HGz2 hgz2
  go_enter Try.func18, Try.ntmps18
  go_wp2
  go_ret
  exact ⟨by first | rfl | (simp [errW_none, errW_some] <;> rfl) | (simp [*, errW_none, errW_some] <;> rfl), by repeat (first | (with_reducible first | exact HI0.out | apply IsS40.alloc | apply IsS40.drewN | apply IsS40.drew | apply IsS40.set_0 | apply IsS40.set_1 | apply IsS40.set_2 | apply IsS40.set_3) | exact HI0.out), by repeat (first | (with_reducible first | exact HB.out | apply below_alloc | apply pw_below_drewN | apply below_drew1 | refine below_set ?_ (IsS40.ge HI0.out)) | exact HB.out), by repeat (first | (with_reducible first | exact HK.out | apply KeepBut.set_ | apply keep_drewN | apply keep_drew | apply keep_alloc) | exact HK.out)⟩

/-! ### bits_OnesCount16: function 25 -/
def bits_OnesCount16.f (a0 : Int) : Option (Int) := if 0 ≤ (a0 / 256) then (if (a0 / 256) < 256 then (if 0 ≤ (Go.bits .and .u16 a0 255) then (if (Go.bits .and .u16 a0 255) < 256 then (some (((bt (⟨#[0, 1, 1, 2, 1, 2, 2, 3, 1, 2, 2, 3, 2, 3, 3, 4, 1, 2, 2, 3, 2, 3, 3, 4, 2, 3, 3, 4, 3, 4, 4, 5, 1, 2, 2, 3, 2, 3, 3, 4, 2, 3, 3, 4, 3, 4, 4, 5, 2, 3, 3, 4, 3, 4, 4, 5, 3, 4, 4, 5, 4, 5, 5, 6, 1, 2, 2, 3, 2, 3, 3, 4, 2, 3, 3, 4, 3, 4, 4, 5, 2, 3, 3, 4, 3, 4, 4, 5, 3, 4, 4, 5, 4, 5, 5, 6, 2, 3, 3, 4, 3, 4, 4, 5, 3, 4, 4, 5, 4, 5, 5, 6, 3, 4, 4, 5, 4, 5, 5, 6, 4, 5, 5, 6, 5, 6, 6, 7, 1, 2, 2, 3, 2, 3, 3, 4, 2, 3, 3, 4, 3, 4, 4, 5, 2, 3, 3, 4, 3, 4, 4, 5, 3, 4, 4, 5, 4, 5, 5, 6, 2, 3, 3, 4, 3, 4, 4, 5, 3, 4, 4, 5, 4, 5, 5, 6, 3, 4, 4, 5, 4, 5, 5, 6, 4, 5, 5, 6, 5, 6, 6, 7, 2, 3, 3, 4, 3, 4, 4, 5, 3, 4, 4, 5, 4, 5, 5, 6, 3, 4, 4, 5, 4, 5, 5, 6, 4, 5, 5, 6, 5, 6, 6, 7, 3, 4, 4, 5, 4, 5, 5, 6, 4, 5, 5, 6, 5, 6, 6, 7, 4, 5, 5, 6, 5, 6, 6, 7, 5, 6, 6, 7, 6, 7, 7, 8]⟩ : ByteArray) (a0 / 256)) + (bt (⟨#[0, 1, 1, 2, 1, 2, 2, 3, 1, 2, 2, 3, 2, 3, 3, 4, 1, 2, 2, 3, 2, 3, 3, 4, 2, 3, 3, 4, 3, 4, 4, 5, 1, 2, 2, 3, 2, 3, 3, 4, 2, 3, 3, 4, 3, 4, 4, 5, 2, 3, 3, 4, 3, 4, 4, 5, 3, 4, 4, 5, 4, 5, 5, 6, 1, 2, 2, 3, 2, 3, 3, 4, 2, 3, 3, 4, 3, 4, 4, 5, 2, 3, 3, 4, 3, 4, 4, 5, 3, 4, 4, 5, 4, 5, 5, 6, 2, 3, 3, 4, 3, 4, 4, 5, 3, 4, 4, 5, 4, 5, 5, 6, 3, 4, 4, 5, 4, 5, 5, 6, 4, 5, 5, 6, 5, 6, 6, 7, 1, 2, 2, 3, 2, 3, 3, 4, 2, 3, 3, 4, 3, 4, 4, 5, 2, 3, 3, 4, 3, 4, 4, 5, 3, 4, 4, 5, 4, 5, 5, 6, 2, 3, 3, 4, 3, 4, 4, 5, 3, 4, 4, 5, 4, 5, 5, 6, 3, 4, 4, 5, 4, 5, 5, 6, 4, 5, 5, 6, 5, 6, 6, 7, 2, 3, 3, 4, 3, 4, 4, 5, 3, 4, 4, 5, 4, 5, 5, 6, 3, 4, 4, 5, 4, 5, 5, 6, 4, 5, 5, 6, 5, 6, 6, 7, 3, 4, 4, 5, 4, 5, 5, 6, 4, 5, 5, 6, 5, 6, 6, 7, 4, 5, 5, 6, 5, 6, 6, 7, 5, 6, 6, 7, 6, 7, 7, 8]⟩ : ByteArray) (Go.bits .and .u16 a0 255))) % 256)) else (none)) else (none)) else (none)) else (none)
set_option maxHeartbeats 8000000 in
set_option maxRecDepth 100000 in
theorem bits_OnesCount16.calls (a0 : Int) (r : Int) (w : World) (h : bits_OnesCount16.f a0 = some r) :
    Calls Try.prog 25 #[.int .u16 a0] w fun e w' => e = .returned (.int .i64 r) ∧ Drawn0 w w' := by
  have H : (if 0 ≤ (a0 / 256) then (if (a0 / 256) < 256 then (if 0 ≤ (Go.bits .and .u16 a0 255) then (if (Go.bits .and .u16 a0 255) < 256 then (some (((bt (⟨#[0, 1, 1, 2, 1, 2, 2, 3, 1, 2, 2, 3, 2, 3, 3, 4, 1, 2, 2, 3, 2, 3, 3, 4, 2, 3, 3, 4, 3, 4, 4, 5, 1, 2, 2, 3, 2, 3, 3, 4, 2, 3, 3, 4, 3, 4, 4, 5, 2, 3, 3, 4, 3, 4, 4, 5, 3, 4, 4, 5, 4, 5, 5, 6, 1, 2, 2, 3, 2, 3, 3, 4, 2, 3, 3, 4, 3, 4, 4, 5, 2, 3, 3, 4, 3, 4, 4, 5, 3, 4, 4, 5, 4, 5, 5, 6, 2, 3, 3, 4, 3, 4, 4, 5, 3, 4, 4, 5, 4, 5, 5, 6, 3, 4, 4, 5, 4, 5, 5, 6, 4, 5, 5, 6, 5, 6, 6, 7, 1, 2, 2, 3, 2, 3, 3, 4, 2, 3, 3, 4, 3, 4, 4, 5, 2, 3, 3, 4, 3, 4, 4, 5, 3, 4, 4, 5, 4, 5, 5, 6, 2, 3, 3, 4, 3, 4, 4, 5, 3, 4, 4, 5, 4, 5, 5, 6, 3, 4, 4, 5, 4, 5, 5, 6, 4, 5, 5, 6, 5, 6, 6, 7, 2, 3, 3, 4, 3, 4, 4, 5, 3, 4, 4, 5, 4, 5, 5, 6, 3, 4, 4, 5, 4, 5, 5, 6, 4, 5, 5, 6, 5, 6, 6, 7, 3, 4, 4, 5, 4, 5, 5, 6, 4, 5, 5, 6, 5, 6, 6, 7, 4, 5, 5, 6, 5, 6, 6, 7, 5, 6, 6, 7, 6, 7, 7, 8]⟩ : ByteArray) (a0 / 256)) + (bt (⟨#[0, 1, 1, 2, 1, 2, 2, 3, 1, 2, 2, 3, 2, 3, 3, 4, 1, 2, 2, 3, 2, 3, 3, 4, 2, 3, 3, 4, 3, 4, 4, 5, 1, 2, 2, 3, 2, 3, 3, 4, 2, 3, 3, 4, 3, 4, 4, 5, 2, 3, 3, 4, 3, 4, 4, 5, 3, 4, 4, 5, 4, 5, 5, 6, 1, 2, 2, 3, 2, 3, 3, 4, 2, 3, 3, 4, 3, 4, 4, 5, 2, 3, 3, 4, 3, 4, 4, 5, 3, 4, 4, 5, 4, 5, 5, 6, 2, 3, 3, 4, 3, 4, 4, 5, 3, 4, 4, 5, 4, 5, 5, 6, 3, 4, 4, 5, 4, 5, 5, 6, 4, 5, 5, 6, 5, 6, 6, 7, 1, 2, 2, 3, 2, 3, 3, 4, 2, 3, 3, 4, 3, 4, 4, 5, 2, 3, 3, 4, 3, 4, 4, 5, 3, 4, 4, 5, 4, 5, 5, 6, 2, 3, 3, 4, 3, 4, 4, 5, 3, 4, 4, 5, 4, 5, 5, 6, 3, 4, 4, 5, 4, 5, 5, 6, 4, 5, 5, 6, 5, 6, 6, 7, 2, 3, 3, 4, 3, 4, 4, 5, 3, 4, 4, 5, 4, 5, 5, 6, 3, 4, 4, 5, 4, 5, 5, 6, 4, 5, 5, 6, 5, 6, 6, 7, 3, 4, 4, 5, 4, 5, 5, 6, 4, 5, 5, 6, 5, 6, 6, 7, 4, 5, 5, 6, 5, 6, 6, 7, 5, 6, 6, 7, 6, 7, 7, 8]⟩ : ByteArray) (Go.bits .and .u16 a0 255))) % 256)) else (none)) else (none)) else (none)) else (none)) = some r := h
  clear h
  obtain ⟨ji2, hji2⟩ : ∃ j_ : Int, (a0 / 256) = j_ := ⟨_, rfl⟩
  replace H : (if 0 ≤ (ji2) then (if (ji2) < 256 then (if 0 ≤ (Go.bits .and .u16 a0 255) then (if (Go.bits .and .u16 a0 255) < 256 then (some (((bt (⟨#[0, 1, 1, 2, 1, 2, 2, 3, 1, 2, 2, 3, 2, 3, 3, 4, 1, 2, 2, 3, 2, 3, 3, 4, 2, 3, 3, 4, 3, 4, 4, 5, 1, 2, 2, 3, 2, 3, 3, 4, 2, 3, 3, 4, 3, 4, 4, 5, 2, 3, 3, 4, 3, 4, 4, 5, 3, 4, 4, 5, 4, 5, 5, 6, 1, 2, 2, 3, 2, 3, 3, 4, 2, 3, 3, 4, 3, 4, 4, 5, 2, 3, 3, 4, 3, 4, 4, 5, 3, 4, 4, 5, 4, 5, 5, 6, 2, 3, 3, 4, 3, 4, 4, 5, 3, 4, 4, 5, 4, 5, 5, 6, 3, 4, 4, 5, 4, 5, 5, 6, 4, 5, 5, 6, 5, 6, 6, 7, 1, 2, 2, 3, 2, 3, 3, 4, 2, 3, 3, 4, 3, 4, 4, 5, 2, 3, 3, 4, 3, 4, 4, 5, 3, 4, 4, 5, 4, 5, 5, 6, 2, 3, 3, 4, 3, 4, 4, 5, 3, 4, 4, 5, 4, 5, 5, 6, 3, 4, 4, 5, 4, 5, 5, 6, 4, 5, 5, 6, 5, 6, 6, 7, 2, 3, 3, 4, 3, 4, 4, 5, 3, 4, 4, 5, 4, 5, 5, 6, 3, 4, 4, 5, 4, 5, 5, 6, 4, 5, 5, 6, 5, 6, 6, 7, 3, 4, 4, 5, 4, 5, 5, 6, 4, 5, 5, 6, 5, 6, 6, 7, 4, 5, 5, 6, 5, 6, 6, 7, 5, 6, 6, 7, 6, 7, 7, 8]⟩ : ByteArray) (ji2)) + (bt (⟨#[0, 1, 1, 2, 1, 2, 2, 3, 1, 2, 2, 3, 2, 3, 3, 4, 1, 2, 2, 3, 2, 3, 3, 4, 2, 3, 3, 4, 3, 4, 4, 5, 1, 2, 2, 3, 2, 3, 3, 4, 2, 3, 3, 4, 3, 4, 4, 5, 2, 3, 3, 4, 3, 4, 4, 5, 3, 4, 4, 5, 4, 5, 5, 6, 1, 2, 2, 3, 2, 3, 3, 4, 2, 3, 3, 4, 3, 4, 4, 5, 2, 3, 3, 4, 3, 4, 4, 5, 3, 4, 4, 5, 4, 5, 5, 6, 2, 3, 3, 4, 3, 4, 4, 5, 3, 4, 4, 5, 4, 5, 5, 6, 3, 4, 4, 5, 4, 5, 5, 6, 4, 5, 5, 6, 5, 6, 6, 7, 1, 2, 2, 3, 2, 3, 3, 4, 2, 3, 3, 4, 3, 4, 4, 5, 2, 3, 3, 4, 3, 4, 4, 5, 3, 4, 4, 5, 4, 5, 5, 6, 2, 3, 3, 4, 3, 4, 4, 5, 3, 4, 4, 5, 4, 5, 5, 6, 3, 4, 4, 5, 4, 5, 5, 6, 4, 5, 5, 6, 5, 6, 6, 7, 2, 3, 3, 4, 3, 4, 4, 5, 3, 4, 4, 5, 4, 5, 5, 6, 3, 4, 4, 5, 4, 5, 5, 6, 4, 5, 5, 6, 5, 6, 6, 7, 3, 4, 4, 5, 4, 5, 5, 6, 4, 5, 5, 6, 5, 6, 6, 7, 4, 5, 5, 6, 5, 6, 6, 7, 5, 6, 6, 7, 6, 7, 7, 8]⟩ : ByteArray) (Go.bits .and .u16 a0 255))) % 256)) else (none)) else (none)) else (none)) else (none)) = some r := by first | (rw [hji2] at H; exact H) | (simp only [hji2] at H ⊢; exact H)
  by_cases c3 : 0 ≤ (ji2)
  · rw [if_pos c3] at H
    have c3b0 : decide (0 ≤ (ji2)) = true := decide_eq_true c3
    clear c3
    by_cases c4 : (ji2) < 256
    · rw [if_pos c4] at H
      have c4b0 : decide ((ji2) < 256) = true := decide_eq_true c4
      clear c4
      by_cases c6 : 0 ≤ (Go.bits .and .u16 a0 255)
      · rw [if_pos c6] at H
        have c6b0 : decide (0 ≤ (Go.bits .and .u16 a0 255)) = true := decide_eq_true c6
        clear c6
        by_cases c7 : (Go.bits .and .u16 a0 255) < 256
        · rw [if_pos c7] at H
          have c7b0 : decide ((Go.bits .and .u16 a0 255) < 256) = true := decide_eq_true c7
          clear c7
          obtain rfl := Option.some.inj H
          have p5 : 0 ≤ ((ji2) : Int) := of_decide_eq_true (by first | (with_reducible assumption) | assumption)
          have q5 : (ji2) < (256 : Int) := of_decide_eq_true (by first | (with_reducible assumption) | assumption)
          have hx5 := bt_at (⟨#[0, 1, 1, 2, 1, 2, 2, 3, 1, 2, 2, 3, 2, 3, 3, 4, 1, 2, 2, 3, 2, 3, 3, 4, 2, 3, 3, 4, 3, 4, 4, 5, 1, 2, 2, 3, 2, 3, 3, 4, 2, 3, 3, 4, 3, 4, 4, 5, 2, 3, 3, 4, 3, 4, 4, 5, 3, 4, 4, 5, 4, 5, 5, 6, 1, 2, 2, 3, 2, 3, 3, 4, 2, 3, 3, 4, 3, 4, 4, 5, 2, 3, 3, 4, 3, 4, 4, 5, 3, 4, 4, 5, 4, 5, 5, 6, 2, 3, 3, 4, 3, 4, 4, 5, 3, 4, 4, 5, 4, 5, 5, 6, 3, 4, 4, 5, 4, 5, 5, 6, 4, 5, 5, 6, 5, 6, 6, 7, 1, 2, 2, 3, 2, 3, 3, 4, 2, 3, 3, 4, 3, 4, 4, 5, 2, 3, 3, 4, 3, 4, 4, 5, 3, 4, 4, 5, 4, 5, 5, 6, 2, 3, 3, 4, 3, 4, 4, 5, 3, 4, 4, 5, 4, 5, 5, 6, 3, 4, 4, 5, 4, 5, 5, 6, 4, 5, 5, 6, 5, 6, 6, 7, 2, 3, 3, 4, 3, 4, 4, 5, 3, 4, 4, 5, 4, 5, 5, 6, 3, 4, 4, 5, 4, 5, 5, 6, 4, 5, 5, 6, 5, 6, 6, 7, 3, 4, 4, 5, 4, 5, 5, 6, 4, 5, 5, 6, 5, 6, 6, 7, 4, 5, 5, 6, 5, 6, 6, 7, 5, 6, 6, 7, 6, 7, 7, 8]⟩ : ByteArray) (ji2)
          replace p5 := eq_true p5
          replace q5 := eq_true q5
          have p8 : 0 ≤ ((Go.bits .and .u16 a0 255) : Int) := of_decide_eq_true (by first | (with_reducible assumption) | assumption)
          have q8 : (Go.bits .and .u16 a0 255) < (256 : Int) := of_decide_eq_true (by first | (with_reducible assumption) | assumption)
          have hx8 := bt_at (⟨#[0, 1, 1, 2, 1, 2, 2, 3, 1, 2, 2, 3, 2, 3, 3, 4, 1, 2, 2, 3, 2, 3, 3, 4, 2, 3, 3, 4, 3, 4, 4, 5, 1, 2, 2, 3, 2, 3, 3, 4, 2, 3, 3, 4, 3, 4, 4, 5, 2, 3, 3, 4, 3, 4, 4, 5, 3, 4, 4, 5, 4, 5, 5, 6, 1, 2, 2, 3, 2, 3, 3, 4, 2, 3, 3, 4, 3, 4, 4, 5, 2, 3, 3, 4, 3, 4, 4, 5, 3, 4, 4, 5, 4, 5, 5, 6, 2, 3, 3, 4, 3, 4, 4, 5, 3, 4, 4, 5, 4, 5, 5, 6, 3, 4, 4, 5, 4, 5, 5, 6, 4, 5, 5, 6, 5, 6, 6, 7, 1, 2, 2, 3, 2, 3, 3, 4, 2, 3, 3, 4, 3, 4, 4, 5, 2, 3, 3, 4, 3, 4, 4, 5, 3, 4, 4, 5, 4, 5, 5, 6, 2, 3, 3, 4, 3, 4, 4, 5, 3, 4, 4, 5, 4, 5, 5, 6, 3, 4, 4, 5, 4, 5, 5, 6, 4, 5, 5, 6, 5, 6, 6, 7, 2, 3, 3, 4, 3, 4, 4, 5, 3, 4, 4, 5, 4, 5, 5, 6, 3, 4, 4, 5, 4, 5, 5, 6, 4, 5, 5, 6, 5, 6, 6, 7, 3, 4, 4, 5, 4, 5, 5, 6, 4, 5, 5, 6, 5, 6, 6, 7, 4, 5, 5, 6, 5, 6, 6, 7, 5, 6, 6, 7, 6, 7, 7, 8]⟩ : ByteArray) (Go.bits .and .u16 a0 255)
          replace p8 := eq_true p8
          replace q8 := eq_true q8
          go_enter Try.func25, Try.ntmps25
          go_wp2
          repeat (go_quiet (fail); try go_wp2)
          go_ret
          exact ⟨by first | rfl | (simp; done) | (simp only [← hji2] <;> (first | rfl | simp)) | (simp [*]; done), by repeat (first | exact Drawn0.refl _ | apply Drawn0.step)⟩
        · rw [if_neg c7] at H
          exact absurd H (by simp)
      · rw [if_neg c6] at H
        exact absurd H (by simp)
    · rw [if_neg c4] at H
      exact absurd H (by simp)
  · rw [if_neg c3] at H
    exact absurd H (by simp)

/-! ### neigh_Neigh_Rx: function 20 -/
def neigh_Neigh_Rx.f (s0_0 : Int) (s0_1 : Int) (s0_2 : Bool) (s0_3 : Int) : Option (Int × Int × Int × Bool × Int) := (bits_OnesCount16.f (Go.bits .and .u16 s0_0 57344)).bind fun t102 => (if t102 < 2 then (some (65535, s0_0, s0_1, s0_2, s0_3)) else (some (96, s0_0, s0_1, s0_2, s0_3)))
set_option maxHeartbeats 8000000 in
set_option maxRecDepth 100000 in
theorem neigh_Neigh_Rx.calls (g : Nat) (s0_0 : Int) (s0_1 : Int) (s0_2 : Bool) (s0_3 : Int) (r1 : Int) (r2 : Int) (r3 : Int) (r4 : Bool) (r5 : Int) (w0 w : World) (hI : IsS40 w0 w g s0_0 s0_1 s0_2 s0_3) (hB : Below w0.heap.size w0 w) (h : neigh_Neigh_Rx.f s0_0 s0_1 s0_2 s0_3 = some (r1, r2, r3, r4, r5)) :
    Calls Try.prog 20 #[.pointer (some ⟨g, 0, none⟩)] w fun e w' => e = .returned (.int .i64 r1) ∧ IsS40 w0 w' g r2 r3 r4 r5 ∧ Below w0.heap.size w0 w' ∧ KeepBut w w' g none := by
  have HI0 := Aside0.mk hI
  have HK := Aside0.mk (KeepBut.refl w g none)
  have HL := Aside0.mk hB.size
  clear hI
  have HW0 := Aside0.mk hB.size
  have HB := Aside0.mk hB
  clear hB
  have H : ((bits_OnesCount16.f (Go.bits .and .u16 s0_0 57344)).bind fun t102 => (if t102 < 2 then (some (65535, s0_0, s0_1, s0_2, s0_3)) else (some (96, s0_0, s0_1, s0_2, s0_3)))) = some (r1, r2, r3, r4, r5) := h
  clear h
  replace H := Option.bind_eq_some_iff.mp H
  obtain ⟨t102, A20, H⟩ := H
  replace H : (if t102 < 2 then (some (65535, s0_0, s0_1, s0_2, s0_3)) else (some (96, s0_0, s0_1, s0_2, s0_3))) = some (r1, r2, r3, r4, r5) := H
  have A2 := Aside0.mk A20
  clear A20
  by_cases c3 : t102 < 2
  · rw [if_pos c3] at H
    have c3b0 : decide (t102 < 2) = true := decide_eq_true c3
    clear c3
    simp only [Option.some.injEq, Prod.mk.injEq] at H
    obtain ⟨rfl, rfl, rfl, rfl, rfl⟩ := H
    obtain ⟨HGz4, hgz4⟩ := HI0.out
    have hcz4_0 := cellS40_0 HGz4
    have hcz4_1 := cellS40_1 HGz4
    have hcz4_2 := cellS40_2 HGz4
    have hcz4_3 := cellS40_3 HGz4
    have hfz4_0 := blk_frozen HGz4 0
    have hfz4_1 := blk_frozen HGz4 1
    have hfz4_2 := blk_frozen HGz4 2
    have hfz4_3 := blk_frozen HGz4 3
    clear HGz4 hgz4
    go_enter Try.func20, Try.ntmps20
    go_wp2_with (first | ((with_reducible refine gate_callee (f := 25) rfl ?_); refine goesL_ (some 8) rfl rfl Try.func25 (by kernel_rfl) rfl #[.int .u16 (Go.bits .and .u16 s0_0 57344)] rfl (by (try simp only [List.map_toArray, List.map_cons, List.map_nil]); first | done | rfl | (simp only [List.length_drop, List.length_take]; rfl)) ?_; (with_reducible refine (bits_OnesCount16.calls (Go.bits .and .u16 s0_0 57344) t102 _ A2.out).mono ?_); rintro e w' ⟨rfl, ⟨nd, rfl⟩⟩; refine ⟨_, rfl, ?_⟩))
    go_ret
    exact ⟨by first | rfl | (simp [errW_none, errW_some] <;> rfl) | (simp [*, errW_none, errW_some] <;> rfl), by repeat (first | (with_reducible first | exact HI0.out | apply IsS40.alloc | apply IsS40.drewN | apply IsS40.drew | apply IsS40.set_0 | apply IsS40.set_1 | apply IsS40.set_2 | apply IsS40.set_3) | exact HI0.out), by repeat (first | (with_reducible first | exact HB.out | apply below_alloc | apply pw_below_drewN | apply below_drew1 | refine below_set ?_ (IsS40.ge HI0.out)) | exact HB.out), by repeat (first | (with_reducible first | exact HK.out | apply KeepBut.set_ | apply keep_drewN | apply keep_drew | apply keep_alloc) | exact HK.out)⟩
  · rw [if_neg c3] at H
    have c3b0 : decide (t102 < 2) = false := decide_eq_false c3
    clear c3
    simp only [Option.some.injEq, Prod.mk.injEq] at H
    obtain ⟨rfl, rfl, rfl, rfl, rfl⟩ := H
    obtain ⟨HGz5, hgz5⟩ := HI0.out
    have hcz5_0 := cellS40_0 HGz5
    have hcz5_1 := cellS40_1 HGz5
    have hcz5_2 := cellS40_2 HGz5
    have hcz5_3 := cellS40_3 HGz5
    have hfz5_0 := blk_frozen HGz5 0
    have hfz5_1 := blk_frozen HGz5 1
    have hfz5_2 := blk_frozen HGz5 2
    have hfz5_3 := blk_frozen HGz5 3
    clear HGz5 hgz5
    go_enter Try.func20, Try.ntmps20
    go_wp2_with (first | ((with_reducible refine gate_callee (f := 25) rfl ?_); refine goesL_ (some 8) rfl rfl Try.func25 (by kernel_rfl) rfl #[.int .u16 (Go.bits .and .u16 s0_0 57344)] rfl (by (try simp only [List.map_toArray, List.map_cons, List.map_nil]); first | done | rfl | (simp only [List.length_drop, List.length_take]; rfl)) ?_; (with_reducible refine (bits_OnesCount16.calls (Go.bits .and .u16 s0_0 57344) t102 _ A2.out).mono ?_); rintro e w' ⟨rfl, ⟨nd, rfl⟩⟩; refine ⟨_, rfl, ?_⟩))
    go_ret
    exact ⟨by first | rfl | (simp [errW_none, errW_some] <;> rfl) | (simp [*, errW_none, errW_some] <;> rfl), by repeat (first | (with_reducible first | exact HI0.out | apply IsS40.alloc | apply IsS40.drewN | apply IsS40.drew | apply IsS40.set_0 | apply IsS40.set_1 | apply IsS40.set_2 | apply IsS40.set_3) | exact HI0.out), by repeat (first | (with_reducible first | exact HB.out | apply below_alloc | apply pw_below_drewN | apply below_drew1 | refine below_set ?_ (IsS40.ge HI0.out)) | exact HB.out), by repeat (first | (with_reducible first | exact HK.out | apply KeepBut.set_ | apply keep_drewN | apply keep_drew | apply keep_alloc) | exact HK.out)⟩

/-! ### neigh_Neigh_Cost: function 22 -/
def neigh_Neigh_Cost.f (s0_0 : Int) (s0_1 : Int) (s0_2 : Bool) (s0_3 : Int) : Option (Int × Int × Int × Bool × Int) := (bits_OnesCount16.f (Go.bits .and .u16 s0_0 57344)).bind fun t102 => some (mx (if t102 < 2 then 65535 else 96) s0_3, s0_0, s0_1, s0_2, s0_3)
set_option maxHeartbeats 8000000 in
set_option maxRecDepth 100000 in
theorem neigh_Neigh_Rx.quiet (g : Nat) (s0_0 : Int) (s0_1 : Int) (s0_2 : Bool) (s0_3 : Int) (t102 : Int) (w : World) (HGz4 : w.heap[g]? = some (.cells #[.int .u16 s0_0, .int .u16 s0_1, .bool s0_2, .int .i64 s0_3] 40 (0, 0))) (A2 : bits_OnesCount16.f (Go.bits .and .u16 s0_0 57344) = some t102) :
    Calls Try.prog 20 #[.pointer (some ⟨g, 0, none⟩)] w fun e w' => e = .returned (.int .i64 (if t102 < 2 then 65535 else 96)) ∧ ∃ m, w' = w.drewN m := by
  have hcz4_0 := cellS40_0 HGz4
  have hfz4_0 := blk_frozen HGz4 0
  clear HGz4
  have A2 := Aside0.mk A2
  by_cases c3 : t102 < 2
  · have c3b0 : decide (t102 < 2) = true := decide_eq_true c3
    rw [if_pos c3]
    clear c3
    go_enter Try.func20, Try.ntmps20
    go_wp2_with (first | ((with_reducible refine gate_callee (f := 25) rfl ?_); refine goesL_ (some 8) rfl rfl Try.func25 (by kernel_rfl) rfl #[.int .u16 (Go.bits .and .u16 s0_0 57344)] rfl (by (try simp only [List.map_toArray, List.map_cons, List.map_nil]); first | done | rfl | (simp only [List.length_drop, List.length_take]; rfl)) ?_; (with_reducible refine (bits_OnesCount16.calls (Go.bits .and .u16 s0_0 57344) t102 _ A2.out).mono ?_); rintro e w' ⟨rfl, ⟨nd, rfl⟩⟩; refine ⟨_, rfl, ?_⟩))
    go_ret
    exact ⟨rfl, (by repeat (first | exact Drawn0.refl _ | apply Drawn0.step) : Drawn0 w _).out⟩
  · have c3b0 : decide (t102 < 2) = false := decide_eq_false c3
    rw [if_neg c3]
    clear c3
    go_enter Try.func20, Try.ntmps20
    go_wp2_with (first | ((with_reducible refine gate_callee (f := 25) rfl ?_); refine goesL_ (some 8) rfl rfl Try.func25 (by kernel_rfl) rfl #[.int .u16 (Go.bits .and .u16 s0_0 57344)] rfl (by (try simp only [List.map_toArray, List.map_cons, List.map_nil]); first | done | rfl | (simp only [List.length_drop, List.length_take]; rfl)) ?_; (with_reducible refine (bits_OnesCount16.calls (Go.bits .and .u16 s0_0 57344) t102 _ A2.out).mono ?_); rintro e w' ⟨rfl, ⟨nd, rfl⟩⟩; refine ⟨_, rfl, ?_⟩))
    go_ret
    exact ⟨rfl, (by repeat (first | exact Drawn0.refl _ | apply Drawn0.step) : Drawn0 w _).out⟩
set_option maxHeartbeats 8000000 in
set_option maxRecDepth 100000 in
theorem neigh_Neigh_Cost.calls (g : Nat) (s0_0 : Int) (s0_1 : Int) (s0_2 : Bool) (s0_3 : Int) (r1 : Int) (r2 : Int) (r3 : Int) (r4 : Bool) (r5 : Int) (w0 w : World) (hI : IsS40 w0 w g s0_0 s0_1 s0_2 s0_3) (hB : Below w0.heap.size w0 w) (h : neigh_Neigh_Cost.f s0_0 s0_1 s0_2 s0_3 = some (r1, r2, r3, r4, r5)) :
    Calls Try.prog 22 #[.pointer (some ⟨g, 0, none⟩)] w fun e w' => e = .returned (.int .i64 r1) ∧ IsS40 w0 w' g r2 r3 r4 r5 ∧ Below w0.heap.size w0 w' ∧ KeepBut w w' g none := by
  have HI0 := Aside0.mk hI
  have HK := Aside0.mk (KeepBut.refl w g none)
  clear hI
  have HB := Aside0.mk hB
  clear hB
  have H : ((bits_OnesCount16.f (Go.bits .and .u16 s0_0 57344)).bind fun t102 => some (mx (if t102 < 2 then 65535 else 96) s0_3, s0_0, s0_1, s0_2, s0_3)) = some (r1, r2, r3, r4, r5) := h
  clear h
  replace H := Option.bind_eq_some_iff.mp H
  obtain ⟨t102, A20, H⟩ := H
  simp only [Option.some.injEq, Prod.mk.injEq] at H
  obtain ⟨rfl, rfl, rfl, rfl, rfl⟩ := H
  have A2 := Aside0.mk A20
  clear A20
  obtain ⟨HGz4, hgz4⟩ := HI0.out
  have hcz4_3 := cellS40_3 HGz4
  have hfz4_3 := blk_frozen HGz4 3
  have HG := Aside0.mk HGz4
  clear HGz4 hgz4
  obtain ⟨x, hx⟩ : ∃ x : Int, x = (if t102 < 2 then 65535 else 96) := ⟨_, rfl⟩
  have HQ : Aside0 (∀ m : Nat, Calls Try.prog 20 #[.pointer (some ⟨g, 0, none⟩)] (w.drewN m) fun e w' => e = .returned (.int .i64 x) ∧ ∃ k, w' = (w.drewN m).drewN k) := Aside0.mk (fun m => by
    have q := neigh_Neigh_Rx.quiet g s0_0 s0_1 s0_2 s0_3 t102 (w.drewN m) HG.out A2.out
    rw [← hx] at q
    exact q)
  rw [← hx]
  clear hx
  go_enter Try.func22, Try.ntmps22
  go_wp2
  go_quiet ((go_at_call 20; exact Calls.quiet_of (HQ.out _)))
  go_wp2
  all_goals (go_ret; exact ⟨by first | rfl | (refine congrArg (fun q => Ending.returned (Value.int .i64 q)) ?_; unfold mx; split <;> omega) | (simp [mx]; done) | (simp [*]; done), by repeat (first | (with_reducible first | exact HI0.out | apply IsS40.alloc | apply IsS40.drewN | apply IsS40.drew) | exact HI0.out), by repeat (first | (with_reducible first | exact HB.out | apply below_alloc | apply pw_below_drewN | apply below_drew1) | exact HB.out), by repeat (first | (with_reducible first | exact HK.out | apply keep_drewN | apply keep_drew | apply keep_alloc) | exact HK.out)⟩)

/-! ### octroilaw11_awake: function 9 -/
def octroilaw11_awake.f (k : Nat)  : Option (Bool) := (neigh_New.f).bind fun bt103 => ((neigh_Neigh_Cost.f bt103.1 bt103.2.1 bt103.2.2.1 bt103.2.2.2).bind fun bt108 => ((neigh_Neigh_Hello.f k bt108.2.1 bt108.2.2.1 bt108.2.2.2.1 bt108.2.2.2.2 5).bind fun bt113 => ((neigh_Neigh_Hello.f k bt113.1 bt113.2.1 bt113.2.2.1 bt113.2.2.2 6).bind fun bt117 => ((neigh_Neigh_Ihu.f bt117.1 bt117.2.1 bt117.2.2.1 bt117.2.2.2 96).bind fun bt121 => ((neigh_Neigh_Cost.f bt121.1 bt121.2.1 bt121.2.2.1 bt121.2.2.2).bind fun bt125 => ((neigh_Neigh_History.f bt125.2.1 bt125.2.2.1 bt125.2.2.2.1 bt125.2.2.2.2).bind fun bt130 => ((neigh_Neigh_Miss.f bt130.2.1 bt130.2.2.1 bt130.2.2.2.1 bt130.2.2.2.2).bind fun bt135 => ((neigh_Neigh_Miss.f bt135.1 bt135.2.1 bt135.2.2.1 bt135.2.2.2).bind fun bt139 => (if bt108.1 = 65535 then (if bt125.1 = 96 then (if bt130.1 = 49152 then ((neigh_Neigh_Cost.f bt139.1 bt139.2.1 bt139.2.2.1 bt139.2.2.2).bind fun bt143 => (if bt143.1 = 65535 then ((neigh_Neigh_History.f bt143.2.1 bt143.2.2.1 bt143.2.2.2.1 bt143.2.2.2.2).bind fun bt148 => (some (bt148.1 == 12288))) else (some false))) else (some false)) else (some false)) else (some false))))))))))
theorem octroilaw11_awake.mono : ∀ k, LeO (octroilaw11_awake.f k ) (octroilaw11_awake.f (k + 1) ) := by
  intro  k
  unfold octroilaw11_awake.f
  repeat' first
      | (with_reducible exact neigh_Neigh_Hello.mono _ _ _ _ _ _)
      | (with_reducible exact LeO.refl _)
      | (with_reducible exact LeO.none _)
      | (with_reducible refine LeO.ite ?_ ?_)
      | (with_reducible refine LeO.bind ?_ (fun _ => ?_))
      | exact neigh_Neigh_Hello.mono _ _ _ _ _ _
      | exact LeO.none _
      | refine LeO.ite ?_ ?_
      | refine LeO.bind ?_ (fun _ => ?_)
set_option maxHeartbeats 8000000 in
set_option maxRecDepth 100000 in
theorem octroilaw11_awake.calls (k : Nat)  (r : Bool) (w : World) (h : octroilaw11_awake.f k  = some r) :
    Calls Try.prog 9 #[] w fun e w' => e = .returned (.bool r) ∧ Below w.heap.size w w' := by
  have hup24 : Try.prog.underlying 24 = some (.pointer 40) := by kernel_rfl
  have HB := Aside0.mk (Below.refl w.heap.size w)
  have H : ((neigh_New.f).bind fun bt103 => ((neigh_Neigh_Cost.f bt103.1 bt103.2.1 bt103.2.2.1 bt103.2.2.2).bind fun bt108 => ((neigh_Neigh_Hello.f k bt108.2.1 bt108.2.2.1 bt108.2.2.2.1 bt108.2.2.2.2 5).bind fun bt113 => ((neigh_Neigh_Hello.f k bt113.1 bt113.2.1 bt113.2.2.1 bt113.2.2.2 6).bind fun bt117 => ((neigh_Neigh_Ihu.f bt117.1 bt117.2.1 bt117.2.2.1 bt117.2.2.2 96).bind fun bt121 => ((neigh_Neigh_Cost.f bt121.1 bt121.2.1 bt121.2.2.1 bt121.2.2.2).bind fun bt125 => ((neigh_Neigh_History.f bt125.2.1 bt125.2.2.1 bt125.2.2.2.1 bt125.2.2.2.2).bind fun bt130 => ((neigh_Neigh_Miss.f bt130.2.1 bt130.2.2.1 bt130.2.2.2.1 bt130.2.2.2.2).bind fun bt135 => ((neigh_Neigh_Miss.f bt135.1 bt135.2.1 bt135.2.2.1 bt135.2.2.2).bind fun bt139 => (if bt108.1 = 65535 then (if bt125.1 = 96 then (if bt130.1 = 49152 then ((neigh_Neigh_Cost.f bt139.1 bt139.2.1 bt139.2.2.1 bt139.2.2.2).bind fun bt143 => (if bt143.1 = 65535 then ((neigh_Neigh_History.f bt143.2.1 bt143.2.2.1 bt143.2.2.2.1 bt143.2.2.2.2).bind fun bt148 => (some (bt148.1 == 12288))) else (some false))) else (some false)) else (some false)) else (some false))))))))))) = some r := h
  clear h
  replace H := Option.bind_eq_some_iff.mp H
  obtain ⟨⟨t103, t104, t105, t106⟩, A10, H⟩ := H
  replace H : ((neigh_Neigh_Cost.f t103 t104 t105 t106).bind fun bt108 => ((neigh_Neigh_Hello.f k bt108.2.1 bt108.2.2.1 bt108.2.2.2.1 bt108.2.2.2.2 5).bind fun bt113 => ((neigh_Neigh_Hello.f k bt113.1 bt113.2.1 bt113.2.2.1 bt113.2.2.2 6).bind fun bt117 => ((neigh_Neigh_Ihu.f bt117.1 bt117.2.1 bt117.2.2.1 bt117.2.2.2 96).bind fun bt121 => ((neigh_Neigh_Cost.f bt121.1 bt121.2.1 bt121.2.2.1 bt121.2.2.2).bind fun bt125 => ((neigh_Neigh_History.f bt125.2.1 bt125.2.2.1 bt125.2.2.2.1 bt125.2.2.2.2).bind fun bt130 => ((neigh_Neigh_Miss.f bt130.2.1 bt130.2.2.1 bt130.2.2.2.1 bt130.2.2.2.2).bind fun bt135 => ((neigh_Neigh_Miss.f bt135.1 bt135.2.1 bt135.2.2.1 bt135.2.2.2).bind fun bt139 => (if bt108.1 = 65535 then (if bt125.1 = 96 then (if bt130.1 = 49152 then ((neigh_Neigh_Cost.f bt139.1 bt139.2.1 bt139.2.2.1 bt139.2.2.2).bind fun bt143 => (if bt143.1 = 65535 then ((neigh_Neigh_History.f bt143.2.1 bt143.2.2.1 bt143.2.2.2.1 bt143.2.2.2.2).bind fun bt148 => (some (bt148.1 == 12288))) else (some false))) else (some false)) else (some false)) else (some false)))))))))) = some r := H
  have A1 := Aside0.mk A10
  clear A10
  replace H := Option.bind_eq_some_iff.mp H
  obtain ⟨⟨t108, t109, t110, t111, t112⟩, A20, H⟩ := H
  replace H : ((neigh_Neigh_Hello.f k t109 t110 t111 t112 5).bind fun bt113 => ((neigh_Neigh_Hello.f k bt113.1 bt113.2.1 bt113.2.2.1 bt113.2.2.2 6).bind fun bt117 => ((neigh_Neigh_Ihu.f bt117.1 bt117.2.1 bt117.2.2.1 bt117.2.2.2 96).bind fun bt121 => ((neigh_Neigh_Cost.f bt121.1 bt121.2.1 bt121.2.2.1 bt121.2.2.2).bind fun bt125 => ((neigh_Neigh_History.f bt125.2.1 bt125.2.2.1 bt125.2.2.2.1 bt125.2.2.2.2).bind fun bt130 => ((neigh_Neigh_Miss.f bt130.2.1 bt130.2.2.1 bt130.2.2.2.1 bt130.2.2.2.2).bind fun bt135 => ((neigh_Neigh_Miss.f bt135.1 bt135.2.1 bt135.2.2.1 bt135.2.2.2).bind fun bt139 => (if t108 = 65535 then (if bt125.1 = 96 then (if bt130.1 = 49152 then ((neigh_Neigh_Cost.f bt139.1 bt139.2.1 bt139.2.2.1 bt139.2.2.2).bind fun bt143 => (if bt143.1 = 65535 then ((neigh_Neigh_History.f bt143.2.1 bt143.2.2.1 bt143.2.2.2.1 bt143.2.2.2.2).bind fun bt148 => (some (bt148.1 == 12288))) else (some false))) else (some false)) else (some false)) else (some false))))))))) = some r := H
  have A2 := Aside0.mk A20
  clear A20
  replace H := Option.bind_eq_some_iff.mp H
  obtain ⟨⟨t113, t114, t115, t116⟩, A30, H⟩ := H
  replace H : ((neigh_Neigh_Hello.f k t113 t114 t115 t116 6).bind fun bt117 => ((neigh_Neigh_Ihu.f bt117.1 bt117.2.1 bt117.2.2.1 bt117.2.2.2 96).bind fun bt121 => ((neigh_Neigh_Cost.f bt121.1 bt121.2.1 bt121.2.2.1 bt121.2.2.2).bind fun bt125 => ((neigh_Neigh_History.f bt125.2.1 bt125.2.2.1 bt125.2.2.2.1 bt125.2.2.2.2).bind fun bt130 => ((neigh_Neigh_Miss.f bt130.2.1 bt130.2.2.1 bt130.2.2.2.1 bt130.2.2.2.2).bind fun bt135 => ((neigh_Neigh_Miss.f bt135.1 bt135.2.1 bt135.2.2.1 bt135.2.2.2).bind fun bt139 => (if t108 = 65535 then (if bt125.1 = 96 then (if bt130.1 = 49152 then ((neigh_Neigh_Cost.f bt139.1 bt139.2.1 bt139.2.2.1 bt139.2.2.2).bind fun bt143 => (if bt143.1 = 65535 then ((neigh_Neigh_History.f bt143.2.1 bt143.2.2.1 bt143.2.2.2.1 bt143.2.2.2.2).bind fun bt148 => (some (bt148.1 == 12288))) else (some false))) else (some false)) else (some false)) else (some false)))))))) = some r := H
  have A3 := Aside0.mk A30
  clear A30
  replace H := Option.bind_eq_some_iff.mp H
  obtain ⟨⟨t117, t118, t119, t120⟩, A40, H⟩ := H
  replace H : ((neigh_Neigh_Ihu.f t117 t118 t119 t120 96).bind fun bt121 => ((neigh_Neigh_Cost.f bt121.1 bt121.2.1 bt121.2.2.1 bt121.2.2.2).bind fun bt125 => ((neigh_Neigh_History.f bt125.2.1 bt125.2.2.1 bt125.2.2.2.1 bt125.2.2.2.2).bind fun bt130 => ((neigh_Neigh_Miss.f bt130.2.1 bt130.2.2.1 bt130.2.2.2.1 bt130.2.2.2.2).bind fun bt135 => ((neigh_Neigh_Miss.f bt135.1 bt135.2.1 bt135.2.2.1 bt135.2.2.2).bind fun bt139 => (if t108 = 65535 then (if bt125.1 = 96 then (if bt130.1 = 49152 then ((neigh_Neigh_Cost.f bt139.1 bt139.2.1 bt139.2.2.1 bt139.2.2.2).bind fun bt143 => (if bt143.1 = 65535 then ((neigh_Neigh_History.f bt143.2.1 bt143.2.2.1 bt143.2.2.2.1 bt143.2.2.2.2).bind fun bt148 => (some (bt148.1 == 12288))) else (some false))) else (some false)) else (some false)) else (some false))))))) = some r := H
  have A4 := Aside0.mk A40
  clear A40
  replace H := Option.bind_eq_some_iff.mp H
  obtain ⟨⟨t121, t122, t123, t124⟩, A50, H⟩ := H
  replace H : ((neigh_Neigh_Cost.f t121 t122 t123 t124).bind fun bt125 => ((neigh_Neigh_History.f bt125.2.1 bt125.2.2.1 bt125.2.2.2.1 bt125.2.2.2.2).bind fun bt130 => ((neigh_Neigh_Miss.f bt130.2.1 bt130.2.2.1 bt130.2.2.2.1 bt130.2.2.2.2).bind fun bt135 => ((neigh_Neigh_Miss.f bt135.1 bt135.2.1 bt135.2.2.1 bt135.2.2.2).bind fun bt139 => (if t108 = 65535 then (if bt125.1 = 96 then (if bt130.1 = 49152 then ((neigh_Neigh_Cost.f bt139.1 bt139.2.1 bt139.2.2.1 bt139.2.2.2).bind fun bt143 => (if bt143.1 = 65535 then ((neigh_Neigh_History.f bt143.2.1 bt143.2.2.1 bt143.2.2.2.1 bt143.2.2.2.2).bind fun bt148 => (some (bt148.1 == 12288))) else (some false))) else (some false)) else (some false)) else (some false)))))) = some r := H
  have A5 := Aside0.mk A50
  clear A50
  replace H := Option.bind_eq_some_iff.mp H
  obtain ⟨⟨t125, t126, t127, t128, t129⟩, A60, H⟩ := H
  replace H : ((neigh_Neigh_History.f t126 t127 t128 t129).bind fun bt130 => ((neigh_Neigh_Miss.f bt130.2.1 bt130.2.2.1 bt130.2.2.2.1 bt130.2.2.2.2).bind fun bt135 => ((neigh_Neigh_Miss.f bt135.1 bt135.2.1 bt135.2.2.1 bt135.2.2.2).bind fun bt139 => (if t108 = 65535 then (if t125 = 96 then (if bt130.1 = 49152 then ((neigh_Neigh_Cost.f bt139.1 bt139.2.1 bt139.2.2.1 bt139.2.2.2).bind fun bt143 => (if bt143.1 = 65535 then ((neigh_Neigh_History.f bt143.2.1 bt143.2.2.1 bt143.2.2.2.1 bt143.2.2.2.2).bind fun bt148 => (some (bt148.1 == 12288))) else (some false))) else (some false)) else (some false)) else (some false))))) = some r := H
  have A6 := Aside0.mk A60
  clear A60
  replace H := Option.bind_eq_some_iff.mp H
  obtain ⟨⟨t130, t131, t132, t133, t134⟩, A70, H⟩ := H
  replace H : ((neigh_Neigh_Miss.f t131 t132 t133 t134).bind fun bt135 => ((neigh_Neigh_Miss.f bt135.1 bt135.2.1 bt135.2.2.1 bt135.2.2.2).bind fun bt139 => (if t108 = 65535 then (if t125 = 96 then (if t130 = 49152 then ((neigh_Neigh_Cost.f bt139.1 bt139.2.1 bt139.2.2.1 bt139.2.2.2).bind fun bt143 => (if bt143.1 = 65535 then ((neigh_Neigh_History.f bt143.2.1 bt143.2.2.1 bt143.2.2.2.1 bt143.2.2.2.2).bind fun bt148 => (some (bt148.1 == 12288))) else (some false))) else (some false)) else (some false)) else (some false)))) = some r := H
  have A7 := Aside0.mk A70
  clear A70
  replace H := Option.bind_eq_some_iff.mp H
  obtain ⟨⟨t135, t136, t137, t138⟩, A80, H⟩ := H
  replace H : ((neigh_Neigh_Miss.f t135 t136 t137 t138).bind fun bt139 => (if t108 = 65535 then (if t125 = 96 then (if t130 = 49152 then ((neigh_Neigh_Cost.f bt139.1 bt139.2.1 bt139.2.2.1 bt139.2.2.2).bind fun bt143 => (if bt143.1 = 65535 then ((neigh_Neigh_History.f bt143.2.1 bt143.2.2.1 bt143.2.2.2.1 bt143.2.2.2.2).bind fun bt148 => (some (bt148.1 == 12288))) else (some false))) else (some false)) else (some false)) else (some false))) = some r := H
  have A8 := Aside0.mk A80
  clear A80
  replace H := Option.bind_eq_some_iff.mp H
  obtain ⟨⟨t139, t140, t141, t142⟩, A90, H⟩ := H
  replace H : (if t108 = 65535 then (if t125 = 96 then (if t130 = 49152 then ((neigh_Neigh_Cost.f t139 t140 t141 t142).bind fun bt143 => (if bt143.1 = 65535 then ((neigh_Neigh_History.f bt143.2.1 bt143.2.2.1 bt143.2.2.2.1 bt143.2.2.2.2).bind fun bt148 => (some (bt148.1 == 12288))) else (some false))) else (some false)) else (some false)) else (some false)) = some r := H
  have A9 := Aside0.mk A90
  clear A90
  by_cases c10 : t108 = 65535
  · rw [if_pos c10] at H
    have c10b0 : (t108 == 65535) = true := beq_iff_eq.mpr c10
    have c10b1 : (t108 != 65535) = false := bne_eq_false_iff_eq.mpr c10
    clear c10
    by_cases c11 : t125 = 96
    · rw [if_pos c11] at H
      have c11b0 : (t125 == 96) = true := beq_iff_eq.mpr c11
      have c11b1 : (t125 != 96) = false := bne_eq_false_iff_eq.mpr c11
      clear c11
      by_cases c12 : t130 = 49152
      · rw [if_pos c12] at H
        have c12b0 : (t130 == 49152) = true := beq_iff_eq.mpr c12
        have c12b1 : (t130 != 49152) = false := bne_eq_false_iff_eq.mpr c12
        clear c12
        replace H := Option.bind_eq_some_iff.mp H
        obtain ⟨⟨t143, t144, t145, t146, t147⟩, A130, H⟩ := H
        replace H : (if t143 = 65535 then ((neigh_Neigh_History.f t144 t145 t146 t147).bind fun bt148 => (some (bt148.1 == 12288))) else (some false)) = some r := H
        have A13 := Aside0.mk A130
        clear A130
        by_cases c14 : t143 = 65535
        · rw [if_pos c14] at H
          have c14b0 : (t143 == 65535) = true := beq_iff_eq.mpr c14
          have c14b1 : (t143 != 65535) = false := bne_eq_false_iff_eq.mpr c14
          clear c14
          replace H := Option.bind_eq_some_iff.mp H
          obtain ⟨⟨t148, t149, t150, t151, t152⟩, A150, H⟩ := H
          replace H : (some (t148 == 12288)) = some r := H
          have A15 := Aside0.mk A150
          clear A150
          obtain rfl := Option.some.inj H
          go_enter Try.func9, Try.ntmps9
          go_wp2_with (first | ((with_reducible refine gate_callee (f := 10) rfl ?_); refine goesL_ (some 5) rfl rfl Try.func10 (by kernel_rfl) rfl #[] rfl (by (try simp only [List.map_toArray, List.map_cons, List.map_nil]); first | done | rfl | (simp only [List.length_drop, List.length_take]; rfl)) ?_; (with_reducible refine (neigh_New.calls  t103 t104 t105 t106 w _ ?side1 A1.out).mono ?_); (case side1 => repeat (first | (with_reducible first | exact HB.out | apply below_alloc | apply pw_below_drewN | apply below_drew1) | exact HB.out)); rintro e w16 ⟨g107, rfl, hi, hb, hb2⟩; refine ⟨_, rfl, ?_⟩; have n0_ := Aside0.mk (hb); have n1_ := Aside0.mk (hi); clear HB; have HB := n0_; have HI107 := n1_; clear n0_ n1_; (try clear hb); (try clear hb2); (try clear hk); (try clear hi)) | ((with_reducible refine gate_callee (f := 22) rfl ?_); refine goesL_ (some 9) rfl rfl Try.func22 (by kernel_rfl) rfl #[.pointer (some ⟨g107, 0, none⟩)] rfl (by (try simp only [List.map_toArray, List.map_cons, List.map_nil]); first | done | rfl | (simp only [List.length_drop, List.length_take]; rfl)) ?_; (with_reducible refine (neigh_Neigh_Cost.calls g107 t103 t104 t105 t106 t108 t109 t110 t111 t112 w _ ?side1 ?side2 A2.out).mono ?_); (case side1 => repeat (first | (with_reducible first | exact HI107.out | apply IsS40.alloc | apply IsS40.drewN | apply IsS40.drew | apply IsS40.set_0 | apply IsS40.set_1 | apply IsS40.set_2 | apply IsS40.set_3) | exact HI107.out)); (case side2 => repeat (first | (with_reducible first | exact HB.out | apply below_alloc | apply pw_below_drewN | apply below_drew1 | refine below_set ?_ (IsS40.ge HI107.out)) | exact HB.out)); rintro e w17 ⟨rfl, hi, hb, hk⟩; refine ⟨_, rfl, ?_⟩; have n0_ := Aside0.mk (hb); have n1_ := Aside0.mk (hi); clear HB; clear HI107; have HB := n0_; have HI107 := n1_; clear n0_ n1_; (try clear hb); (try clear hb2); (try clear hk); (try clear hi)) | ((with_reducible refine gate_callee (f := 12) rfl ?_); refine goesL_ (some 11) rfl rfl Try.func12 (by kernel_rfl) rfl #[.pointer (some ⟨g107, 0, none⟩), .int .u16 5] rfl (by (try simp only [List.map_toArray, List.map_cons, List.map_nil]); first | done | rfl | (simp only [List.length_drop, List.length_take]; rfl)) ?_; (with_reducible refine (neigh_Neigh_Hello.calls k g107 t109 t110 t111 t112 5 t113 t114 t115 t116 w _ ?side1 ?side2 A3.out).mono ?_); (case side1 => repeat (first | (with_reducible first | exact HI107.out | apply IsS40.alloc | apply IsS40.drewN | apply IsS40.drew | apply IsS40.set_0 | apply IsS40.set_1 | apply IsS40.set_2 | apply IsS40.set_3) | exact HI107.out)); (case side2 => repeat (first | (with_reducible first | exact HB.out | apply below_alloc | apply pw_below_drewN | apply below_drew1 | refine below_set ?_ (IsS40.ge HI107.out)) | exact HB.out)); rintro e w18 ⟨rfl, hi, hb, hk⟩; refine ⟨_, rfl, ?_⟩; have n0_ := Aside0.mk (hb); have n1_ := Aside0.mk (hi); clear HB; clear HI107; have HB := n0_; have HI107 := n1_; clear n0_ n1_; (try clear hb); (try clear hb2); (try clear hk); (try clear hi)) | ((with_reducible refine gate_callee (f := 12) rfl ?_); refine goesL_ (some 13) rfl rfl Try.func12 (by kernel_rfl) rfl #[.pointer (some ⟨g107, 0, none⟩), .int .u16 6] rfl (by (try simp only [List.map_toArray, List.map_cons, List.map_nil]); first | done | rfl | (simp only [List.length_drop, List.length_take]; rfl)) ?_; (with_reducible refine (neigh_Neigh_Hello.calls k g107 t113 t114 t115 t116 6 t117 t118 t119 t120 w _ ?side1 ?side2 A4.out).mono ?_); (case side1 => repeat (first | (with_reducible first | exact HI107.out | apply IsS40.alloc | apply IsS40.drewN | apply IsS40.drew | apply IsS40.set_0 | apply IsS40.set_1 | apply IsS40.set_2 | apply IsS40.set_3) | exact HI107.out)); (case side2 => repeat (first | (with_reducible first | exact HB.out | apply below_alloc | apply pw_below_drewN | apply below_drew1 | refine below_set ?_ (IsS40.ge HI107.out)) | exact HB.out)); rintro e w19 ⟨rfl, hi, hb, hk⟩; refine ⟨_, rfl, ?_⟩; have n0_ := Aside0.mk (hb); have n1_ := Aside0.mk (hi); clear HB; clear HI107; have HB := n0_; have HI107 := n1_; clear n0_ n1_; (try clear hb); (try clear hb2); (try clear hk); (try clear hi)) | ((with_reducible refine gate_callee (f := 16) rfl ?_); refine goesL_ (some 15) rfl rfl Try.func16 (by kernel_rfl) rfl #[.pointer (some ⟨g107, 0, none⟩), .int .i64 96] rfl (by (try simp only [List.map_toArray, List.map_cons, List.map_nil]); first | done | rfl | (simp only [List.length_drop, List.length_take]; rfl)) ?_; (with_reducible refine (neigh_Neigh_Ihu.calls g107 t117 t118 t119 t120 96 t121 t122 t123 t124 w _ ?side1 ?side2 A5.out).mono ?_); (case side1 => repeat (first | (with_reducible first | exact HI107.out | apply IsS40.alloc | apply IsS40.drewN | apply IsS40.drew | apply IsS40.set_0 | apply IsS40.set_1 | apply IsS40.set_2 | apply IsS40.set_3) | exact HI107.out)); (case side2 => repeat (first | (with_reducible first | exact HB.out | apply below_alloc | apply pw_below_drewN | apply below_drew1 | refine below_set ?_ (IsS40.ge HI107.out)) | exact HB.out)); rintro e w20 ⟨rfl, hi, hb, hk⟩; refine ⟨_, rfl, ?_⟩; have n0_ := Aside0.mk (hb); have n1_ := Aside0.mk (hi); clear HB; clear HI107; have HB := n0_; have HI107 := n1_; clear n0_ n1_; (try clear hb); (try clear hb2); (try clear hk); (try clear hi)) | ((with_reducible refine gate_callee (f := 22) rfl ?_); refine goesL_ (some 17) rfl rfl Try.func22 (by kernel_rfl) rfl #[.pointer (some ⟨g107, 0, none⟩)] rfl (by (try simp only [List.map_toArray, List.map_cons, List.map_nil]); first | done | rfl | (simp only [List.length_drop, List.length_take]; rfl)) ?_; (with_reducible refine (neigh_Neigh_Cost.calls g107 t121 t122 t123 t124 t125 t126 t127 t128 t129 w _ ?side1 ?side2 A6.out).mono ?_); (case side1 => repeat (first | (with_reducible first | exact HI107.out | apply IsS40.alloc | apply IsS40.drewN | apply IsS40.drew | apply IsS40.set_0 | apply IsS40.set_1 | apply IsS40.set_2 | apply IsS40.set_3) | exact HI107.out)); (case side2 => repeat (first | (with_reducible first | exact HB.out | apply below_alloc | apply pw_below_drewN | apply below_drew1 | refine below_set ?_ (IsS40.ge HI107.out)) | exact HB.out)); rintro e w21 ⟨rfl, hi, hb, hk⟩; refine ⟨_, rfl, ?_⟩; have n0_ := Aside0.mk (hb); have n1_ := Aside0.mk (hi); clear HB; clear HI107; have HB := n0_; have HI107 := n1_; clear n0_ n1_; (try clear hb); (try clear hb2); (try clear hk); (try clear hi)) | ((with_reducible refine gate_callee (f := 18) rfl ?_); refine goesL_ (some 19) rfl rfl Try.func18 (by kernel_rfl) rfl #[.pointer (some ⟨g107, 0, none⟩)] rfl (by (try simp only [List.map_toArray, List.map_cons, List.map_nil]); first | done | rfl | (simp only [List.length_drop, List.length_take]; rfl)) ?_; (with_reducible refine (neigh_Neigh_History.calls g107 t126 t127 t128 t129 t130 t131 t132 t133 t134 w _ ?side1 ?side2 A7.out).mono ?_); (case side1 => repeat (first | (with_reducible first | exact HI107.out | apply IsS40.alloc | apply IsS40.drewN | apply IsS40.drew | apply IsS40.set_0 | apply IsS40.set_1 | apply IsS40.set_2 | apply IsS40.set_3) | exact HI107.out)); (case side2 => repeat (first | (with_reducible first | exact HB.out | apply below_alloc | apply pw_below_drewN | apply below_drew1 | refine below_set ?_ (IsS40.ge HI107.out)) | exact HB.out)); rintro e w22 ⟨rfl, hi, hb, hk⟩; refine ⟨_, rfl, ?_⟩; have n0_ := Aside0.mk (hb); have n1_ := Aside0.mk (hi); clear HB; clear HI107; have HB := n0_; have HI107 := n1_; clear n0_ n1_; (try clear hb); (try clear hb2); (try clear hk); (try clear hi)) | ((with_reducible refine gate_callee (f := 14) rfl ?_); refine goesL_ (some 21) rfl rfl Try.func14 (by kernel_rfl) rfl #[.pointer (some ⟨g107, 0, none⟩)] rfl (by (try simp only [List.map_toArray, List.map_cons, List.map_nil]); first | done | rfl | (simp only [List.length_drop, List.length_take]; rfl)) ?_; (with_reducible refine (neigh_Neigh_Miss.calls g107 t131 t132 t133 t134 t135 t136 t137 t138 w _ ?side1 ?side2 A8.out).mono ?_); (case side1 => repeat (first | (with_reducible first | exact HI107.out | apply IsS40.alloc | apply IsS40.drewN | apply IsS40.drew | apply IsS40.set_0 | apply IsS40.set_1 | apply IsS40.set_2 | apply IsS40.set_3) | exact HI107.out)); (case side2 => repeat (first | (with_reducible first | exact HB.out | apply below_alloc | apply pw_below_drewN | apply below_drew1 | refine below_set ?_ (IsS40.ge HI107.out)) | exact HB.out)); rintro e w23 ⟨rfl, hi, hb, hk⟩; refine ⟨_, rfl, ?_⟩; have n0_ := Aside0.mk (hb); have n1_ := Aside0.mk (hi); clear HB; clear HI107; have HB := n0_; have HI107 := n1_; clear n0_ n1_; (try clear hb); (try clear hb2); (try clear hk); (try clear hi)) | ((with_reducible refine gate_callee (f := 14) rfl ?_); refine goesL_ (some 23) rfl rfl Try.func14 (by kernel_rfl) rfl #[.pointer (some ⟨g107, 0, none⟩)] rfl (by (try simp only [List.map_toArray, List.map_cons, List.map_nil]); first | done | rfl | (simp only [List.length_drop, List.length_take]; rfl)) ?_; (with_reducible refine (neigh_Neigh_Miss.calls g107 t135 t136 t137 t138 t139 t140 t141 t142 w _ ?side1 ?side2 A9.out).mono ?_); (case side1 => repeat (first | (with_reducible first | exact HI107.out | apply IsS40.alloc | apply IsS40.drewN | apply IsS40.drew | apply IsS40.set_0 | apply IsS40.set_1 | apply IsS40.set_2 | apply IsS40.set_3) | exact HI107.out)); (case side2 => repeat (first | (with_reducible first | exact HB.out | apply below_alloc | apply pw_below_drewN | apply below_drew1 | refine below_set ?_ (IsS40.ge HI107.out)) | exact HB.out)); rintro e w24 ⟨rfl, hi, hb, hk⟩; refine ⟨_, rfl, ?_⟩; have n0_ := Aside0.mk (hb); have n1_ := Aside0.mk (hi); clear HB; clear HI107; have HB := n0_; have HI107 := n1_; clear n0_ n1_; (try clear hb); (try clear hb2); (try clear hk); (try clear hi)) | (go_at_call 22; (with_reducible refine (neigh_Neigh_Cost.calls g107 t139 t140 t141 t142 t143 t144 t145 t146 t147 w _ ?side1 ?side2 A13.out).mono ?_); (case side1 => repeat (first | (with_reducible first | exact HI107.out | apply IsS40.alloc | apply IsS40.drewN | apply IsS40.drew | apply IsS40.set_0 | apply IsS40.set_1 | apply IsS40.set_2 | apply IsS40.set_3) | exact HI107.out)); (case side2 => repeat (first | (with_reducible first | exact HB.out | apply below_alloc | apply pw_below_drewN | apply below_drew1 | refine below_set ?_ (IsS40.ge HI107.out)) | exact HB.out)); rintro e w25 ⟨rfl, hi, hb, hk⟩; have n0_ := Aside0.mk (hb); have n1_ := Aside0.mk (hi); clear HB; clear HI107; have HB := n0_; have HI107 := n1_; clear n0_ n1_; (try clear hb); (try clear hb2); (try clear hk); (try clear hi)) | (go_at_call 18; (with_reducible refine (neigh_Neigh_History.calls g107 t144 t145 t146 t147 t148 t149 t150 t151 t152 w _ ?side1 ?side2 A15.out).mono ?_); (case side1 => repeat (first | (with_reducible first | exact HI107.out | apply IsS40.alloc | apply IsS40.drewN | apply IsS40.drew | apply IsS40.set_0 | apply IsS40.set_1 | apply IsS40.set_2 | apply IsS40.set_3) | exact HI107.out)); (case side2 => repeat (first | (with_reducible first | exact HB.out | apply below_alloc | apply pw_below_drewN | apply below_drew1 | refine below_set ?_ (IsS40.ge HI107.out)) | exact HB.out)); rintro e w26 ⟨rfl, hi, hb, hk⟩; have n0_ := Aside0.mk (hb); have n1_ := Aside0.mk (hi); clear HB; clear HI107; have HB := n0_; have HI107 := n1_; clear n0_ n1_; (try clear hb); (try clear hb2); (try clear hk); (try clear hi)))
          go_ret
          exact ⟨by first | rfl | (simp [errW_none, errW_some] <;> rfl) | (simp [*, errW_none, errW_some] <;> rfl), by repeat (first | (with_reducible first | exact HB.out | apply below_alloc | apply pw_below_drewN | apply below_drew1 | refine below_set ?_ (IsS40.ge HI107.out)) | exact HB.out)⟩
        · rw [if_neg c14] at H
          have c14b0 : (t143 == 65535) = false := beq_eq_false_iff_ne.mpr c14
          have c14b1 : (t143 != 65535) = true := bne_iff_ne.mpr c14
          obtain rfl := Option.some.inj H
          go_enter Try.func9, Try.ntmps9
          go_wp2_with (first | ((with_reducible refine gate_callee (f := 10) rfl ?_); refine goesL_ (some 5) rfl rfl Try.func10 (by kernel_rfl) rfl #[] rfl (by (try simp only [List.map_toArray, List.map_cons, List.map_nil]); first | done | rfl | (simp only [List.length_drop, List.length_take]; rfl)) ?_; (with_reducible refine (neigh_New.calls  t103 t104 t105 t106 w _ ?side1 A1.out).mono ?_); (case side1 => repeat (first | (with_reducible first | exact HB.out | apply below_alloc | apply pw_below_drewN | apply below_drew1) | exact HB.out)); rintro e w27 ⟨g107, rfl, hi, hb, hb2⟩; refine ⟨_, rfl, ?_⟩; have n0_ := Aside0.mk (hb); have n1_ := Aside0.mk (hi); clear HB; have HB := n0_; have HI107 := n1_; clear n0_ n1_; (try clear hb); (try clear hb2); (try clear hk); (try clear hi)) | ((with_reducible refine gate_callee (f := 22) rfl ?_); refine goesL_ (some 9) rfl rfl Try.func22 (by kernel_rfl) rfl #[.pointer (some ⟨g107, 0, none⟩)] rfl (by (try simp only [List.map_toArray, List.map_cons, List.map_nil]); first | done | rfl | (simp only [List.length_drop, List.length_take]; rfl)) ?_; (with_reducible refine (neigh_Neigh_Cost.calls g107 t103 t104 t105 t106 t108 t109 t110 t111 t112 w _ ?side1 ?side2 A2.out).mono ?_); (case side1 => repeat (first | (with_reducible first | exact HI107.out | apply IsS40.alloc | apply IsS40.drewN | apply IsS40.drew | apply IsS40.set_0 | apply IsS40.set_1 | apply IsS40.set_2 | apply IsS40.set_3) | exact HI107.out)); (case side2 => repeat (first | (with_reducible first | exact HB.out | apply below_alloc | apply pw_below_drewN | apply below_drew1 | refine below_set ?_ (IsS40.ge HI107.out)) | exact HB.out)); rintro e w28 ⟨rfl, hi, hb, hk⟩; refine ⟨_, rfl, ?_⟩; have n0_ := Aside0.mk (hb); have n1_ := Aside0.mk (hi); clear HB; clear HI107; have HB := n0_; have HI107 := n1_; clear n0_ n1_; (try clear hb); (try clear hb2); (try clear hk); (try clear hi)) | ((with_reducible refine gate_callee (f := 12) rfl ?_); refine goesL_ (some 11) rfl rfl Try.func12 (by kernel_rfl) rfl #[.pointer (some ⟨g107, 0, none⟩), .int .u16 5] rfl (by (try simp only [List.map_toArray, List.map_cons, List.map_nil]); first | done | rfl | (simp only [List.length_drop, List.length_take]; rfl)) ?_; (with_reducible refine (neigh_Neigh_Hello.calls k g107 t109 t110 t111 t112 5 t113 t114 t115 t116 w _ ?side1 ?side2 A3.out).mono ?_); (case side1 => repeat (first | (with_reducible first | exact HI107.out | apply IsS40.alloc | apply IsS40.drewN | apply IsS40.drew | apply IsS40.set_0 | apply IsS40.set_1 | apply IsS40.set_2 | apply IsS40.set_3) | exact HI107.out)); (case side2 => repeat (first | (with_reducible first | exact HB.out | apply below_alloc | apply pw_below_drewN | apply below_drew1 | refine below_set ?_ (IsS40.ge HI107.out)) | exact HB.out)); rintro e w29 ⟨rfl, hi, hb, hk⟩; refine ⟨_, rfl, ?_⟩; have n0_ := Aside0.mk (hb); have n1_ := Aside0.mk (hi); clear HB; clear HI107; have HB := n0_; have HI107 := n1_; clear n0_ n1_; (try clear hb); (try clear hb2); (try clear hk); (try clear hi)) | ((with_reducible refine gate_callee (f := 12) rfl ?_); refine goesL_ (some 13) rfl rfl Try.func12 (by kernel_rfl) rfl #[.pointer (some ⟨g107, 0, none⟩), .int .u16 6] rfl (by (try simp only [List.map_toArray, List.map_cons, List.map_nil]); first | done | rfl | (simp only [List.length_drop, List.length_take]; rfl)) ?_; (with_reducible refine (neigh_Neigh_Hello.calls k g107 t113 t114 t115 t116 6 t117 t118 t119 t120 w _ ?side1 ?side2 A4.out).mono ?_); (case side1 => repeat (first | (with_reducible first | exact HI107.out | apply IsS40.alloc | apply IsS40.drewN | apply IsS40.drew | apply IsS40.set_0 | apply IsS40.set_1 | apply IsS40.set_2 | apply IsS40.set_3) | exact HI107.out)); (case side2 => repeat (first | (with_reducible first | exact HB.out | apply below_alloc | apply pw_below_drewN | apply below_drew1 | refine below_set ?_ (IsS40.ge HI107.out)) | exact HB.out)); rintro e w30 ⟨rfl, hi, hb, hk⟩; refine ⟨_, rfl, ?_⟩; have n0_ := Aside0.mk (hb); have n1_ := Aside0.mk (hi); clear HB; clear HI107; have HB := n0_; have HI107 := n1_; clear n0_ n1_; (try clear hb); (try clear hb2); (try clear hk); (try clear hi)) | ((with_reducible refine gate_callee (f := 16) rfl ?_); refine goesL_ (some 15) rfl rfl Try.func16 (by kernel_rfl) rfl #[.pointer (some ⟨g107, 0, none⟩), .int .i64 96] rfl (by (try simp only [List.map_toArray, List.map_cons, List.map_nil]); first | done | rfl | (simp only [List.length_drop, List.length_take]; rfl)) ?_; (with_reducible refine (neigh_Neigh_Ihu.calls g107 t117 t118 t119 t120 96 t121 t122 t123 t124 w _ ?side1 ?side2 A5.out).mono ?_); (case side1 => repeat (first | (with_reducible first | exact HI107.out | apply IsS40.alloc | apply IsS40.drewN | apply IsS40.drew | apply IsS40.set_0 | apply IsS40.set_1 | apply IsS40.set_2 | apply IsS40.set_3) | exact HI107.out)); (case side2 => repeat (first | (with_reducible first | exact HB.out | apply below_alloc | apply pw_below_drewN | apply below_drew1 | refine below_set ?_ (IsS40.ge HI107.out)) | exact HB.out)); rintro e w31 ⟨rfl, hi, hb, hk⟩; refine ⟨_, rfl, ?_⟩; have n0_ := Aside0.mk (hb); have n1_ := Aside0.mk (hi); clear HB; clear HI107; have HB := n0_; have HI107 := n1_; clear n0_ n1_; (try clear hb); (try clear hb2); (try clear hk); (try clear hi)) | ((with_reducible refine gate_callee (f := 22) rfl ?_); refine goesL_ (some 17) rfl rfl Try.func22 (by kernel_rfl) rfl #[.pointer (some ⟨g107, 0, none⟩)] rfl (by (try simp only [List.map_toArray, List.map_cons, List.map_nil]); first | done | rfl | (simp only [List.length_drop, List.length_take]; rfl)) ?_; (with_reducible refine (neigh_Neigh_Cost.calls g107 t121 t122 t123 t124 t125 t126 t127 t128 t129 w _ ?side1 ?side2 A6.out).mono ?_); (case side1 => repeat (first | (with_reducible first | exact HI107.out | apply IsS40.alloc | apply IsS40.drewN | apply IsS40.drew | apply IsS40.set_0 | apply IsS40.set_1 | apply IsS40.set_2 | apply IsS40.set_3) | exact HI107.out)); (case side2 => repeat (first | (with_reducible first | exact HB.out | apply below_alloc | apply pw_below_drewN | apply below_drew1 | refine below_set ?_ (IsS40.ge HI107.out)) | exact HB.out)); rintro e w32 ⟨rfl, hi, hb, hk⟩; refine ⟨_, rfl, ?_⟩; have n0_ := Aside0.mk (hb); have n1_ := Aside0.mk (hi); clear HB; clear HI107; have HB := n0_; have HI107 := n1_; clear n0_ n1_; (try clear hb); (try clear hb2); (try clear hk); (try clear hi)) | ((with_reducible refine gate_callee (f := 18) rfl ?_); refine goesL_ (some 19) rfl rfl Try.func18 (by kernel_rfl) rfl #[.pointer (some ⟨g107, 0, none⟩)] rfl (by (try simp only [List.map_toArray, List.map_cons, List.map_nil]); first | done | rfl | (simp only [List.length_drop, List.length_take]; rfl)) ?_; (with_reducible refine (neigh_Neigh_History.calls g107 t126 t127 t128 t129 t130 t131 t132 t133 t134 w _ ?side1 ?side2 A7.out).mono ?_); (case side1 => repeat (first | (with_reducible first | exact HI107.out | apply IsS40.alloc | apply IsS40.drewN | apply IsS40.drew | apply IsS40.set_0 | apply IsS40.set_1 | apply IsS40.set_2 | apply IsS40.set_3) | exact HI107.out)); (case side2 => repeat (first | (with_reducible first | exact HB.out | apply below_alloc | apply pw_below_drewN | apply below_drew1 | refine below_set ?_ (IsS40.ge HI107.out)) | exact HB.out)); rintro e w33 ⟨rfl, hi, hb, hk⟩; refine ⟨_, rfl, ?_⟩; have n0_ := Aside0.mk (hb); have n1_ := Aside0.mk (hi); clear HB; clear HI107; have HB := n0_; have HI107 := n1_; clear n0_ n1_; (try clear hb); (try clear hb2); (try clear hk); (try clear hi)) | ((with_reducible refine gate_callee (f := 14) rfl ?_); refine goesL_ (some 21) rfl rfl Try.func14 (by kernel_rfl) rfl #[.pointer (some ⟨g107, 0, none⟩)] rfl (by (try simp only [List.map_toArray, List.map_cons, List.map_nil]); first | done | rfl | (simp only [List.length_drop, List.length_take]; rfl)) ?_; (with_reducible refine (neigh_Neigh_Miss.calls g107 t131 t132 t133 t134 t135 t136 t137 t138 w _ ?side1 ?side2 A8.out).mono ?_); (case side1 => repeat (first | (with_reducible first | exact HI107.out | apply IsS40.alloc | apply IsS40.drewN | apply IsS40.drew | apply IsS40.set_0 | apply IsS40.set_1 | apply IsS40.set_2 | apply IsS40.set_3) | exact HI107.out)); (case side2 => repeat (first | (with_reducible first | exact HB.out | apply below_alloc | apply pw_below_drewN | apply below_drew1 | refine below_set ?_ (IsS40.ge HI107.out)) | exact HB.out)); rintro e w34 ⟨rfl, hi, hb, hk⟩; refine ⟨_, rfl, ?_⟩; have n0_ := Aside0.mk (hb); have n1_ := Aside0.mk (hi); clear HB; clear HI107; have HB := n0_; have HI107 := n1_; clear n0_ n1_; (try clear hb); (try clear hb2); (try clear hk); (try clear hi)) | ((with_reducible refine gate_callee (f := 14) rfl ?_); refine goesL_ (some 23) rfl rfl Try.func14 (by kernel_rfl) rfl #[.pointer (some ⟨g107, 0, none⟩)] rfl (by (try simp only [List.map_toArray, List.map_cons, List.map_nil]); first | done | rfl | (simp only [List.length_drop, List.length_take]; rfl)) ?_; (with_reducible refine (neigh_Neigh_Miss.calls g107 t135 t136 t137 t138 t139 t140 t141 t142 w _ ?side1 ?side2 A9.out).mono ?_); (case side1 => repeat (first | (with_reducible first | exact HI107.out | apply IsS40.alloc | apply IsS40.drewN | apply IsS40.drew | apply IsS40.set_0 | apply IsS40.set_1 | apply IsS40.set_2 | apply IsS40.set_3) | exact HI107.out)); (case side2 => repeat (first | (with_reducible first | exact HB.out | apply below_alloc | apply pw_below_drewN | apply below_drew1 | refine below_set ?_ (IsS40.ge HI107.out)) | exact HB.out)); rintro e w35 ⟨rfl, hi, hb, hk⟩; refine ⟨_, rfl, ?_⟩; have n0_ := Aside0.mk (hb); have n1_ := Aside0.mk (hi); clear HB; clear HI107; have HB := n0_; have HI107 := n1_; clear n0_ n1_; (try clear hb); (try clear hb2); (try clear hk); (try clear hi)) | (go_at_call 22; (with_reducible refine (neigh_Neigh_Cost.calls g107 t139 t140 t141 t142 t143 t144 t145 t146 t147 w _ ?side1 ?side2 A13.out).mono ?_); (case side1 => repeat (first | (with_reducible first | exact HI107.out | apply IsS40.alloc | apply IsS40.drewN | apply IsS40.drew | apply IsS40.set_0 | apply IsS40.set_1 | apply IsS40.set_2 | apply IsS40.set_3) | exact HI107.out)); (case side2 => repeat (first | (with_reducible first | exact HB.out | apply below_alloc | apply pw_below_drewN | apply below_drew1 | refine below_set ?_ (IsS40.ge HI107.out)) | exact HB.out)); rintro e w36 ⟨rfl, hi, hb, hk⟩; have n0_ := Aside0.mk (hb); have n1_ := Aside0.mk (hi); clear HB; clear HI107; have HB := n0_; have HI107 := n1_; clear n0_ n1_; (try clear hb); (try clear hb2); (try clear hk); (try clear hi)))
          go_ret
          exact ⟨by first | rfl | (simp [errW_none, errW_some] <;> rfl) | (simp [*, errW_none, errW_some] <;> rfl), by repeat (first | (with_reducible first | exact HB.out | apply below_alloc | apply pw_below_drewN | apply below_drew1 | refine below_set ?_ (IsS40.ge HI107.out)) | exact HB.out)⟩
      · rw [if_neg c12] at H
        have c12b0 : (t130 == 49152) = false := beq_eq_false_iff_ne.mpr c12
        have c12b1 : (t130 != 49152) = true := bne_iff_ne.mpr c12
        obtain rfl := Option.some.inj H
        go_enter Try.func9, Try.ntmps9
        go_wp2_with (first | ((with_reducible refine gate_callee (f := 10) rfl ?_); refine goesL_ (some 5) rfl rfl Try.func10 (by kernel_rfl) rfl #[] rfl (by (try simp only [List.map_toArray, List.map_cons, List.map_nil]); first | done | rfl | (simp only [List.length_drop, List.length_take]; rfl)) ?_; (with_reducible refine (neigh_New.calls  t103 t104 t105 t106 w _ ?side1 A1.out).mono ?_); (case side1 => repeat (first | (with_reducible first | exact HB.out | apply below_alloc | apply pw_below_drewN | apply below_drew1) | exact HB.out)); rintro e w37 ⟨g107, rfl, hi, hb, hb2⟩; refine ⟨_, rfl, ?_⟩; have n0_ := Aside0.mk (hb); have n1_ := Aside0.mk (hi); clear HB; have HB := n0_; have HI107 := n1_; clear n0_ n1_; (try clear hb); (try clear hb2); (try clear hk); (try clear hi)) | ((with_reducible refine gate_callee (f := 22) rfl ?_); refine goesL_ (some 9) rfl rfl Try.func22 (by kernel_rfl) rfl #[.pointer (some ⟨g107, 0, none⟩)] rfl (by (try simp only [List.map_toArray, List.map_cons, List.map_nil]); first | done | rfl | (simp only [List.length_drop, List.length_take]; rfl)) ?_; (with_reducible refine (neigh_Neigh_Cost.calls g107 t103 t104 t105 t106 t108 t109 t110 t111 t112 w _ ?side1 ?side2 A2.out).mono ?_); (case side1 => repeat (first | (with_reducible first | exact HI107.out | apply IsS40.alloc | apply IsS40.drewN | apply IsS40.drew | apply IsS40.set_0 | apply IsS40.set_1 | apply IsS40.set_2 | apply IsS40.set_3) | exact HI107.out)); (case side2 => repeat (first | (with_reducible first | exact HB.out | apply below_alloc | apply pw_below_drewN | apply below_drew1 | refine below_set ?_ (IsS40.ge HI107.out)) | exact HB.out)); rintro e w38 ⟨rfl, hi, hb, hk⟩; refine ⟨_, rfl, ?_⟩; have n0_ := Aside0.mk (hb); have n1_ := Aside0.mk (hi); clear HB; clear HI107; have HB := n0_; have HI107 := n1_; clear n0_ n1_; (try clear hb); (try clear hb2); (try clear hk); (try clear hi)) | ((with_reducible refine gate_callee (f := 12) rfl ?_); refine goesL_ (some 11) rfl rfl Try.func12 (by kernel_rfl) rfl #[.pointer (some ⟨g107, 0, none⟩), .int .u16 5] rfl (by (try simp only [List.map_toArray, List.map_cons, List.map_nil]); first | done | rfl | (simp only [List.length_drop, List.length_take]; rfl)) ?_; (with_reducible refine (neigh_Neigh_Hello.calls k g107 t109 t110 t111 t112 5 t113 t114 t115 t116 w _ ?side1 ?side2 A3.out).mono ?_); (case side1 => repeat (first | (with_reducible first | exact HI107.out | apply IsS40.alloc | apply IsS40.drewN | apply IsS40.drew | apply IsS40.set_0 | apply IsS40.set_1 | apply IsS40.set_2 | apply IsS40.set_3) | exact HI107.out)); (case side2 => repeat (first | (with_reducible first | exact HB.out | apply below_alloc | apply pw_below_drewN | apply below_drew1 | refine below_set ?_ (IsS40.ge HI107.out)) | exact HB.out)); rintro e w39 ⟨rfl, hi, hb, hk⟩; refine ⟨_, rfl, ?_⟩; have n0_ := Aside0.mk (hb); have n1_ := Aside0.mk (hi); clear HB; clear HI107; have HB := n0_; have HI107 := n1_; clear n0_ n1_; (try clear hb); (try clear hb2); (try clear hk); (try clear hi)) | ((with_reducible refine gate_callee (f := 12) rfl ?_); refine goesL_ (some 13) rfl rfl Try.func12 (by kernel_rfl) rfl #[.pointer (some ⟨g107, 0, none⟩), .int .u16 6] rfl (by (try simp only [List.map_toArray, List.map_cons, List.map_nil]); first | done | rfl | (simp only [List.length_drop, List.length_take]; rfl)) ?_; (with_reducible refine (neigh_Neigh_Hello.calls k g107 t113 t114 t115 t116 6 t117 t118 t119 t120 w _ ?side1 ?side2 A4.out).mono ?_); (case side1 => repeat (first | (with_reducible first | exact HI107.out | apply IsS40.alloc | apply IsS40.drewN | apply IsS40.drew | apply IsS40.set_0 | apply IsS40.set_1 | apply IsS40.set_2 | apply IsS40.set_3) | exact HI107.out)); (case side2 => repeat (first | (with_reducible first | exact HB.out | apply below_alloc | apply pw_below_drewN | apply below_drew1 | refine below_set ?_ (IsS40.ge HI107.out)) | exact HB.out)); rintro e w40 ⟨rfl, hi, hb, hk⟩; refine ⟨_, rfl, ?_⟩; have n0_ := Aside0.mk (hb); have n1_ := Aside0.mk (hi); clear HB; clear HI107; have HB := n0_; have HI107 := n1_; clear n0_ n1_; (try clear hb); (try clear hb2); (try clear hk); (try clear hi)) | ((with_reducible refine gate_callee (f := 16) rfl ?_); refine goesL_ (some 15) rfl rfl Try.func16 (by kernel_rfl) rfl #[.pointer (some ⟨g107, 0, none⟩), .int .i64 96] rfl (by (try simp only [List.map_toArray, List.map_cons, List.map_nil]); first | done | rfl | (simp only [List.length_drop, List.length_take]; rfl)) ?_; (with_reducible refine (neigh_Neigh_Ihu.calls g107 t117 t118 t119 t120 96 t121 t122 t123 t124 w _ ?side1 ?side2 A5.out).mono ?_); (case side1 => repeat (first | (with_reducible first | exact HI107.out | apply IsS40.alloc | apply IsS40.drewN | apply IsS40.drew | apply IsS40.set_0 | apply IsS40.set_1 | apply IsS40.set_2 | apply IsS40.set_3) | exact HI107.out)); (case side2 => repeat (first | (with_reducible first | exact HB.out | apply below_alloc | apply pw_below_drewN | apply below_drew1 | refine below_set ?_ (IsS40.ge HI107.out)) | exact HB.out)); rintro e w41 ⟨rfl, hi, hb, hk⟩; refine ⟨_, rfl, ?_⟩; have n0_ := Aside0.mk (hb); have n1_ := Aside0.mk (hi); clear HB; clear HI107; have HB := n0_; have HI107 := n1_; clear n0_ n1_; (try clear hb); (try clear hb2); (try clear hk); (try clear hi)) | ((with_reducible refine gate_callee (f := 22) rfl ?_); refine goesL_ (some 17) rfl rfl Try.func22 (by kernel_rfl) rfl #[.pointer (some ⟨g107, 0, none⟩)] rfl (by (try simp only [List.map_toArray, List.map_cons, List.map_nil]); first | done | rfl | (simp only [List.length_drop, List.length_take]; rfl)) ?_; (with_reducible refine (neigh_Neigh_Cost.calls g107 t121 t122 t123 t124 t125 t126 t127 t128 t129 w _ ?side1 ?side2 A6.out).mono ?_); (case side1 => repeat (first | (with_reducible first | exact HI107.out | apply IsS40.alloc | apply IsS40.drewN | apply IsS40.drew | apply IsS40.set_0 | apply IsS40.set_1 | apply IsS40.set_2 | apply IsS40.set_3) | exact HI107.out)); (case side2 => repeat (first | (with_reducible first | exact HB.out | apply below_alloc | apply pw_below_drewN | apply below_drew1 | refine below_set ?_ (IsS40.ge HI107.out)) | exact HB.out)); rintro e w42 ⟨rfl, hi, hb, hk⟩; refine ⟨_, rfl, ?_⟩; have n0_ := Aside0.mk (hb); have n1_ := Aside0.mk (hi); clear HB; clear HI107; have HB := n0_; have HI107 := n1_; clear n0_ n1_; (try clear hb); (try clear hb2); (try clear hk); (try clear hi)) | ((with_reducible refine gate_callee (f := 18) rfl ?_); refine goesL_ (some 19) rfl rfl Try.func18 (by kernel_rfl) rfl #[.pointer (some ⟨g107, 0, none⟩)] rfl (by (try simp only [List.map_toArray, List.map_cons, List.map_nil]); first | done | rfl | (simp only [List.length_drop, List.length_take]; rfl)) ?_; (with_reducible refine (neigh_Neigh_History.calls g107 t126 t127 t128 t129 t130 t131 t132 t133 t134 w _ ?side1 ?side2 A7.out).mono ?_); (case side1 => repeat (first | (with_reducible first | exact HI107.out | apply IsS40.alloc | apply IsS40.drewN | apply IsS40.drew | apply IsS40.set_0 | apply IsS40.set_1 | apply IsS40.set_2 | apply IsS40.set_3) | exact HI107.out)); (case side2 => repeat (first | (with_reducible first | exact HB.out | apply below_alloc | apply pw_below_drewN | apply below_drew1 | refine below_set ?_ (IsS40.ge HI107.out)) | exact HB.out)); rintro e w43 ⟨rfl, hi, hb, hk⟩; refine ⟨_, rfl, ?_⟩; have n0_ := Aside0.mk (hb); have n1_ := Aside0.mk (hi); clear HB; clear HI107; have HB := n0_; have HI107 := n1_; clear n0_ n1_; (try clear hb); (try clear hb2); (try clear hk); (try clear hi)) | ((with_reducible refine gate_callee (f := 14) rfl ?_); refine goesL_ (some 21) rfl rfl Try.func14 (by kernel_rfl) rfl #[.pointer (some ⟨g107, 0, none⟩)] rfl (by (try simp only [List.map_toArray, List.map_cons, List.map_nil]); first | done | rfl | (simp only [List.length_drop, List.length_take]; rfl)) ?_; (with_reducible refine (neigh_Neigh_Miss.calls g107 t131 t132 t133 t134 t135 t136 t137 t138 w _ ?side1 ?side2 A8.out).mono ?_); (case side1 => repeat (first | (with_reducible first | exact HI107.out | apply IsS40.alloc | apply IsS40.drewN | apply IsS40.drew | apply IsS40.set_0 | apply IsS40.set_1 | apply IsS40.set_2 | apply IsS40.set_3) | exact HI107.out)); (case side2 => repeat (first | (with_reducible first | exact HB.out | apply below_alloc | apply pw_below_drewN | apply below_drew1 | refine below_set ?_ (IsS40.ge HI107.out)) | exact HB.out)); rintro e w44 ⟨rfl, hi, hb, hk⟩; refine ⟨_, rfl, ?_⟩; have n0_ := Aside0.mk (hb); have n1_ := Aside0.mk (hi); clear HB; clear HI107; have HB := n0_; have HI107 := n1_; clear n0_ n1_; (try clear hb); (try clear hb2); (try clear hk); (try clear hi)) | ((with_reducible refine gate_callee (f := 14) rfl ?_); refine goesL_ (some 23) rfl rfl Try.func14 (by kernel_rfl) rfl #[.pointer (some ⟨g107, 0, none⟩)] rfl (by (try simp only [List.map_toArray, List.map_cons, List.map_nil]); first | done | rfl | (simp only [List.length_drop, List.length_take]; rfl)) ?_; (with_reducible refine (neigh_Neigh_Miss.calls g107 t135 t136 t137 t138 t139 t140 t141 t142 w _ ?side1 ?side2 A9.out).mono ?_); (case side1 => repeat (first | (with_reducible first | exact HI107.out | apply IsS40.alloc | apply IsS40.drewN | apply IsS40.drew | apply IsS40.set_0 | apply IsS40.set_1 | apply IsS40.set_2 | apply IsS40.set_3) | exact HI107.out)); (case side2 => repeat (first | (with_reducible first | exact HB.out | apply below_alloc | apply pw_below_drewN | apply below_drew1 | refine below_set ?_ (IsS40.ge HI107.out)) | exact HB.out)); rintro e w45 ⟨rfl, hi, hb, hk⟩; refine ⟨_, rfl, ?_⟩; have n0_ := Aside0.mk (hb); have n1_ := Aside0.mk (hi); clear HB; clear HI107; have HB := n0_; have HI107 := n1_; clear n0_ n1_; (try clear hb); (try clear hb2); (try clear hk); (try clear hi)))
        go_ret
        exact ⟨by first | rfl | (simp [errW_none, errW_some] <;> rfl) | (simp [*, errW_none, errW_some] <;> rfl), by repeat (first | (with_reducible first | exact HB.out | apply below_alloc | apply pw_below_drewN | apply below_drew1 | refine below_set ?_ (IsS40.ge HI107.out)) | exact HB.out)⟩
    · rw [if_neg c11] at H
      have c11b0 : (t125 == 96) = false := beq_eq_false_iff_ne.mpr c11
      have c11b1 : (t125 != 96) = true := bne_iff_ne.mpr c11
      obtain rfl := Option.some.inj H
      go_enter Try.func9, Try.ntmps9
      go_wp2_with (first | ((with_reducible refine gate_callee (f := 10) rfl ?_); refine goesL_ (some 5) rfl rfl Try.func10 (by kernel_rfl) rfl #[] rfl (by (try simp only [List.map_toArray, List.map_cons, List.map_nil]); first | done | rfl | (simp only [List.length_drop, List.length_take]; rfl)) ?_; (with_reducible refine (neigh_New.calls  t103 t104 t105 t106 w _ ?side1 A1.out).mono ?_); (case side1 => repeat (first | (with_reducible first | exact HB.out | apply below_alloc | apply pw_below_drewN | apply below_drew1) | exact HB.out)); rintro e w46 ⟨g107, rfl, hi, hb, hb2⟩; refine ⟨_, rfl, ?_⟩; have n0_ := Aside0.mk (hb); have n1_ := Aside0.mk (hi); clear HB; have HB := n0_; have HI107 := n1_; clear n0_ n1_; (try clear hb); (try clear hb2); (try clear hk); (try clear hi)) | ((with_reducible refine gate_callee (f := 22) rfl ?_); refine goesL_ (some 9) rfl rfl Try.func22 (by kernel_rfl) rfl #[.pointer (some ⟨g107, 0, none⟩)] rfl (by (try simp only [List.map_toArray, List.map_cons, List.map_nil]); first | done | rfl | (simp only [List.length_drop, List.length_take]; rfl)) ?_; (with_reducible refine (neigh_Neigh_Cost.calls g107 t103 t104 t105 t106 t108 t109 t110 t111 t112 w _ ?side1 ?side2 A2.out).mono ?_); (case side1 => repeat (first | (with_reducible first | exact HI107.out | apply IsS40.alloc | apply IsS40.drewN | apply IsS40.drew | apply IsS40.set_0 | apply IsS40.set_1 | apply IsS40.set_2 | apply IsS40.set_3) | exact HI107.out)); (case side2 => repeat (first | (with_reducible first | exact HB.out | apply below_alloc | apply pw_below_drewN | apply below_drew1 | refine below_set ?_ (IsS40.ge HI107.out)) | exact HB.out)); rintro e w47 ⟨rfl, hi, hb, hk⟩; refine ⟨_, rfl, ?_⟩; have n0_ := Aside0.mk (hb); have n1_ := Aside0.mk (hi); clear HB; clear HI107; have HB := n0_; have HI107 := n1_; clear n0_ n1_; (try clear hb); (try clear hb2); (try clear hk); (try clear hi)) | ((with_reducible refine gate_callee (f := 12) rfl ?_); refine goesL_ (some 11) rfl rfl Try.func12 (by kernel_rfl) rfl #[.pointer (some ⟨g107, 0, none⟩), .int .u16 5] rfl (by (try simp only [List.map_toArray, List.map_cons, List.map_nil]); first | done | rfl | (simp only [List.length_drop, List.length_take]; rfl)) ?_; (with_reducible refine (neigh_Neigh_Hello.calls k g107 t109 t110 t111 t112 5 t113 t114 t115 t116 w _ ?side1 ?side2 A3.out).mono ?_); (case side1 => repeat (first | (with_reducible first | exact HI107.out | apply IsS40.alloc | apply IsS40.drewN | apply IsS40.drew | apply IsS40.set_0 | apply IsS40.set_1 | apply IsS40.set_2 | apply IsS40.set_3) | exact HI107.out)); (case side2 => repeat (first | (with_reducible first | exact HB.out | apply below_alloc | apply pw_below_drewN | apply below_drew1 | refine below_set ?_ (IsS40.ge HI107.out)) | exact HB.out)); rintro e w48 ⟨rfl, hi, hb, hk⟩; refine ⟨_, rfl, ?_⟩; have n0_ := Aside0.mk (hb); have n1_ := Aside0.mk (hi); clear HB; clear HI107; have HB := n0_; have HI107 := n1_; clear n0_ n1_; (try clear hb); (try clear hb2); (try clear hk); (try clear hi)) | ((with_reducible refine gate_callee (f := 12) rfl ?_); refine goesL_ (some 13) rfl rfl Try.func12 (by kernel_rfl) rfl #[.pointer (some ⟨g107, 0, none⟩), .int .u16 6] rfl (by (try simp only [List.map_toArray, List.map_cons, List.map_nil]); first | done | rfl | (simp only [List.length_drop, List.length_take]; rfl)) ?_; (with_reducible refine (neigh_Neigh_Hello.calls k g107 t113 t114 t115 t116 6 t117 t118 t119 t120 w _ ?side1 ?side2 A4.out).mono ?_); (case side1 => repeat (first | (with_reducible first | exact HI107.out | apply IsS40.alloc | apply IsS40.drewN | apply IsS40.drew | apply IsS40.set_0 | apply IsS40.set_1 | apply IsS40.set_2 | apply IsS40.set_3) | exact HI107.out)); (case side2 => repeat (first | (with_reducible first | exact HB.out | apply below_alloc | apply pw_below_drewN | apply below_drew1 | refine below_set ?_ (IsS40.ge HI107.out)) | exact HB.out)); rintro e w49 ⟨rfl, hi, hb, hk⟩; refine ⟨_, rfl, ?_⟩; have n0_ := Aside0.mk (hb); have n1_ := Aside0.mk (hi); clear HB; clear HI107; have HB := n0_; have HI107 := n1_; clear n0_ n1_; (try clear hb); (try clear hb2); (try clear hk); (try clear hi)) | ((with_reducible refine gate_callee (f := 16) rfl ?_); refine goesL_ (some 15) rfl rfl Try.func16 (by kernel_rfl) rfl #[.pointer (some ⟨g107, 0, none⟩), .int .i64 96] rfl (by (try simp only [List.map_toArray, List.map_cons, List.map_nil]); first | done | rfl | (simp only [List.length_drop, List.length_take]; rfl)) ?_; (with_reducible refine (neigh_Neigh_Ihu.calls g107 t117 t118 t119 t120 96 t121 t122 t123 t124 w _ ?side1 ?side2 A5.out).mono ?_); (case side1 => repeat (first | (with_reducible first | exact HI107.out | apply IsS40.alloc | apply IsS40.drewN | apply IsS40.drew | apply IsS40.set_0 | apply IsS40.set_1 | apply IsS40.set_2 | apply IsS40.set_3) | exact HI107.out)); (case side2 => repeat (first | (with_reducible first | exact HB.out | apply below_alloc | apply pw_below_drewN | apply below_drew1 | refine below_set ?_ (IsS40.ge HI107.out)) | exact HB.out)); rintro e w50 ⟨rfl, hi, hb, hk⟩; refine ⟨_, rfl, ?_⟩; have n0_ := Aside0.mk (hb); have n1_ := Aside0.mk (hi); clear HB; clear HI107; have HB := n0_; have HI107 := n1_; clear n0_ n1_; (try clear hb); (try clear hb2); (try clear hk); (try clear hi)) | ((with_reducible refine gate_callee (f := 22) rfl ?_); refine goesL_ (some 17) rfl rfl Try.func22 (by kernel_rfl) rfl #[.pointer (some ⟨g107, 0, none⟩)] rfl (by (try simp only [List.map_toArray, List.map_cons, List.map_nil]); first | done | rfl | (simp only [List.length_drop, List.length_take]; rfl)) ?_; (with_reducible refine (neigh_Neigh_Cost.calls g107 t121 t122 t123 t124 t125 t126 t127 t128 t129 w _ ?side1 ?side2 A6.out).mono ?_); (case side1 => repeat (first | (with_reducible first | exact HI107.out | apply IsS40.alloc | apply IsS40.drewN | apply IsS40.drew | apply IsS40.set_0 | apply IsS40.set_1 | apply IsS40.set_2 | apply IsS40.set_3) | exact HI107.out)); (case side2 => repeat (first | (with_reducible first | exact HB.out | apply below_alloc | apply pw_below_drewN | apply below_drew1 | refine below_set ?_ (IsS40.ge HI107.out)) | exact HB.out)); rintro e w51 ⟨rfl, hi, hb, hk⟩; refine ⟨_, rfl, ?_⟩; have n0_ := Aside0.mk (hb); have n1_ := Aside0.mk (hi); clear HB; clear HI107; have HB := n0_; have HI107 := n1_; clear n0_ n1_; (try clear hb); (try clear hb2); (try clear hk); (try clear hi)) | ((with_reducible refine gate_callee (f := 18) rfl ?_); refine goesL_ (some 19) rfl rfl Try.func18 (by kernel_rfl) rfl #[.pointer (some ⟨g107, 0, none⟩)] rfl (by (try simp only [List.map_toArray, List.map_cons, List.map_nil]); first | done | rfl | (simp only [List.length_drop, List.length_take]; rfl)) ?_; (with_reducible refine (neigh_Neigh_History.calls g107 t126 t127 t128 t129 t130 t131 t132 t133 t134 w _ ?side1 ?side2 A7.out).mono ?_); (case side1 => repeat (first | (with_reducible first | exact HI107.out | apply IsS40.alloc | apply IsS40.drewN | apply IsS40.drew | apply IsS40.set_0 | apply IsS40.set_1 | apply IsS40.set_2 | apply IsS40.set_3) | exact HI107.out)); (case side2 => repeat (first | (with_reducible first | exact HB.out | apply below_alloc | apply pw_below_drewN | apply below_drew1 | refine below_set ?_ (IsS40.ge HI107.out)) | exact HB.out)); rintro e w52 ⟨rfl, hi, hb, hk⟩; refine ⟨_, rfl, ?_⟩; have n0_ := Aside0.mk (hb); have n1_ := Aside0.mk (hi); clear HB; clear HI107; have HB := n0_; have HI107 := n1_; clear n0_ n1_; (try clear hb); (try clear hb2); (try clear hk); (try clear hi)) | ((with_reducible refine gate_callee (f := 14) rfl ?_); refine goesL_ (some 21) rfl rfl Try.func14 (by kernel_rfl) rfl #[.pointer (some ⟨g107, 0, none⟩)] rfl (by (try simp only [List.map_toArray, List.map_cons, List.map_nil]); first | done | rfl | (simp only [List.length_drop, List.length_take]; rfl)) ?_; (with_reducible refine (neigh_Neigh_Miss.calls g107 t131 t132 t133 t134 t135 t136 t137 t138 w _ ?side1 ?side2 A8.out).mono ?_); (case side1 => repeat (first | (with_reducible first | exact HI107.out | apply IsS40.alloc | apply IsS40.drewN | apply IsS40.drew | apply IsS40.set_0 | apply IsS40.set_1 | apply IsS40.set_2 | apply IsS40.set_3) | exact HI107.out)); (case side2 => repeat (first | (with_reducible first | exact HB.out | apply below_alloc | apply pw_below_drewN | apply below_drew1 | refine below_set ?_ (IsS40.ge HI107.out)) | exact HB.out)); rintro e w53 ⟨rfl, hi, hb, hk⟩; refine ⟨_, rfl, ?_⟩; have n0_ := Aside0.mk (hb); have n1_ := Aside0.mk (hi); clear HB; clear HI107; have HB := n0_; have HI107 := n1_; clear n0_ n1_; (try clear hb); (try clear hb2); (try clear hk); (try clear hi)) | ((with_reducible refine gate_callee (f := 14) rfl ?_); refine goesL_ (some 23) rfl rfl Try.func14 (by kernel_rfl) rfl #[.pointer (some ⟨g107, 0, none⟩)] rfl (by (try simp only [List.map_toArray, List.map_cons, List.map_nil]); first | done | rfl | (simp only [List.length_drop, List.length_take]; rfl)) ?_; (with_reducible refine (neigh_Neigh_Miss.calls g107 t135 t136 t137 t138 t139 t140 t141 t142 w _ ?side1 ?side2 A9.out).mono ?_); (case side1 => repeat (first | (with_reducible first | exact HI107.out | apply IsS40.alloc | apply IsS40.drewN | apply IsS40.drew | apply IsS40.set_0 | apply IsS40.set_1 | apply IsS40.set_2 | apply IsS40.set_3) | exact HI107.out)); (case side2 => repeat (first | (with_reducible first | exact HB.out | apply below_alloc | apply pw_below_drewN | apply below_drew1 | refine below_set ?_ (IsS40.ge HI107.out)) | exact HB.out)); rintro e w54 ⟨rfl, hi, hb, hk⟩; refine ⟨_, rfl, ?_⟩; have n0_ := Aside0.mk (hb); have n1_ := Aside0.mk (hi); clear HB; clear HI107; have HB := n0_; have HI107 := n1_; clear n0_ n1_; (try clear hb); (try clear hb2); (try clear hk); (try clear hi)))
      go_ret
      exact ⟨by first | rfl | (simp [errW_none, errW_some] <;> rfl) | (simp [*, errW_none, errW_some] <;> rfl), by repeat (first | (with_reducible first | exact HB.out | apply below_alloc | apply pw_below_drewN | apply below_drew1 | refine below_set ?_ (IsS40.ge HI107.out)) | exact HB.out)⟩
  · rw [if_neg c10] at H
    have c10b0 : (t108 == 65535) = false := beq_eq_false_iff_ne.mpr c10
    have c10b1 : (t108 != 65535) = true := bne_iff_ne.mpr c10
    obtain rfl := Option.some.inj H
    go_enter Try.func9, Try.ntmps9
    go_wp2_with (first | ((with_reducible refine gate_callee (f := 10) rfl ?_); refine goesL_ (some 5) rfl rfl Try.func10 (by kernel_rfl) rfl #[] rfl (by (try simp only [List.map_toArray, List.map_cons, List.map_nil]); first | done | rfl | (simp only [List.length_drop, List.length_take]; rfl)) ?_; (with_reducible refine (neigh_New.calls  t103 t104 t105 t106 w _ ?side1 A1.out).mono ?_); (case side1 => repeat (first | (with_reducible first | exact HB.out | apply below_alloc | apply pw_below_drewN | apply below_drew1) | exact HB.out)); rintro e w55 ⟨g107, rfl, hi, hb, hb2⟩; refine ⟨_, rfl, ?_⟩; have n0_ := Aside0.mk (hb); have n1_ := Aside0.mk (hi); clear HB; have HB := n0_; have HI107 := n1_; clear n0_ n1_; (try clear hb); (try clear hb2); (try clear hk); (try clear hi)) | ((with_reducible refine gate_callee (f := 22) rfl ?_); refine goesL_ (some 9) rfl rfl Try.func22 (by kernel_rfl) rfl #[.pointer (some ⟨g107, 0, none⟩)] rfl (by (try simp only [List.map_toArray, List.map_cons, List.map_nil]); first | done | rfl | (simp only [List.length_drop, List.length_take]; rfl)) ?_; (with_reducible refine (neigh_Neigh_Cost.calls g107 t103 t104 t105 t106 t108 t109 t110 t111 t112 w _ ?side1 ?side2 A2.out).mono ?_); (case side1 => repeat (first | (with_reducible first | exact HI107.out | apply IsS40.alloc | apply IsS40.drewN | apply IsS40.drew | apply IsS40.set_0 | apply IsS40.set_1 | apply IsS40.set_2 | apply IsS40.set_3) | exact HI107.out)); (case side2 => repeat (first | (with_reducible first | exact HB.out | apply below_alloc | apply pw_below_drewN | apply below_drew1 | refine below_set ?_ (IsS40.ge HI107.out)) | exact HB.out)); rintro e w56 ⟨rfl, hi, hb, hk⟩; refine ⟨_, rfl, ?_⟩; have n0_ := Aside0.mk (hb); have n1_ := Aside0.mk (hi); clear HB; clear HI107; have HB := n0_; have HI107 := n1_; clear n0_ n1_; (try clear hb); (try clear hb2); (try clear hk); (try clear hi)) | ((with_reducible refine gate_callee (f := 12) rfl ?_); refine goesL_ (some 11) rfl rfl Try.func12 (by kernel_rfl) rfl #[.pointer (some ⟨g107, 0, none⟩), .int .u16 5] rfl (by (try simp only [List.map_toArray, List.map_cons, List.map_nil]); first | done | rfl | (simp only [List.length_drop, List.length_take]; rfl)) ?_; (with_reducible refine (neigh_Neigh_Hello.calls k g107 t109 t110 t111 t112 5 t113 t114 t115 t116 w _ ?side1 ?side2 A3.out).mono ?_); (case side1 => repeat (first | (with_reducible first | exact HI107.out | apply IsS40.alloc | apply IsS40.drewN | apply IsS40.drew | apply IsS40.set_0 | apply IsS40.set_1 | apply IsS40.set_2 | apply IsS40.set_3) | exact HI107.out)); (case side2 => repeat (first | (with_reducible first | exact HB.out | apply below_alloc | apply pw_below_drewN | apply below_drew1 | refine below_set ?_ (IsS40.ge HI107.out)) | exact HB.out)); rintro e w57 ⟨rfl, hi, hb, hk⟩; refine ⟨_, rfl, ?_⟩; have n0_ := Aside0.mk (hb); have n1_ := Aside0.mk (hi); clear HB; clear HI107; have HB := n0_; have HI107 := n1_; clear n0_ n1_; (try clear hb); (try clear hb2); (try clear hk); (try clear hi)) | ((with_reducible refine gate_callee (f := 12) rfl ?_); refine goesL_ (some 13) rfl rfl Try.func12 (by kernel_rfl) rfl #[.pointer (some ⟨g107, 0, none⟩), .int .u16 6] rfl (by (try simp only [List.map_toArray, List.map_cons, List.map_nil]); first | done | rfl | (simp only [List.length_drop, List.length_take]; rfl)) ?_; (with_reducible refine (neigh_Neigh_Hello.calls k g107 t113 t114 t115 t116 6 t117 t118 t119 t120 w _ ?side1 ?side2 A4.out).mono ?_); (case side1 => repeat (first | (with_reducible first | exact HI107.out | apply IsS40.alloc | apply IsS40.drewN | apply IsS40.drew | apply IsS40.set_0 | apply IsS40.set_1 | apply IsS40.set_2 | apply IsS40.set_3) | exact HI107.out)); (case side2 => repeat (first | (with_reducible first | exact HB.out | apply below_alloc | apply pw_below_drewN | apply below_drew1 | refine below_set ?_ (IsS40.ge HI107.out)) | exact HB.out)); rintro e w58 ⟨rfl, hi, hb, hk⟩; refine ⟨_, rfl, ?_⟩; have n0_ := Aside0.mk (hb); have n1_ := Aside0.mk (hi); clear HB; clear HI107; have HB := n0_; have HI107 := n1_; clear n0_ n1_; (try clear hb); (try clear hb2); (try clear hk); (try clear hi)) | ((with_reducible refine gate_callee (f := 16) rfl ?_); refine goesL_ (some 15) rfl rfl Try.func16 (by kernel_rfl) rfl #[.pointer (some ⟨g107, 0, none⟩), .int .i64 96] rfl (by (try simp only [List.map_toArray, List.map_cons, List.map_nil]); first | done | rfl | (simp only [List.length_drop, List.length_take]; rfl)) ?_; (with_reducible refine (neigh_Neigh_Ihu.calls g107 t117 t118 t119 t120 96 t121 t122 t123 t124 w _ ?side1 ?side2 A5.out).mono ?_); (case side1 => repeat (first | (with_reducible first | exact HI107.out | apply IsS40.alloc | apply IsS40.drewN | apply IsS40.drew | apply IsS40.set_0 | apply IsS40.set_1 | apply IsS40.set_2 | apply IsS40.set_3) | exact HI107.out)); (case side2 => repeat (first | (with_reducible first | exact HB.out | apply below_alloc | apply pw_below_drewN | apply below_drew1 | refine below_set ?_ (IsS40.ge HI107.out)) | exact HB.out)); rintro e w59 ⟨rfl, hi, hb, hk⟩; refine ⟨_, rfl, ?_⟩; have n0_ := Aside0.mk (hb); have n1_ := Aside0.mk (hi); clear HB; clear HI107; have HB := n0_; have HI107 := n1_; clear n0_ n1_; (try clear hb); (try clear hb2); (try clear hk); (try clear hi)) | ((with_reducible refine gate_callee (f := 22) rfl ?_); refine goesL_ (some 17) rfl rfl Try.func22 (by kernel_rfl) rfl #[.pointer (some ⟨g107, 0, none⟩)] rfl (by (try simp only [List.map_toArray, List.map_cons, List.map_nil]); first | done | rfl | (simp only [List.length_drop, List.length_take]; rfl)) ?_; (with_reducible refine (neigh_Neigh_Cost.calls g107 t121 t122 t123 t124 t125 t126 t127 t128 t129 w _ ?side1 ?side2 A6.out).mono ?_); (case side1 => repeat (first | (with_reducible first | exact HI107.out | apply IsS40.alloc | apply IsS40.drewN | apply IsS40.drew | apply IsS40.set_0 | apply IsS40.set_1 | apply IsS40.set_2 | apply IsS40.set_3) | exact HI107.out)); (case side2 => repeat (first | (with_reducible first | exact HB.out | apply below_alloc | apply pw_below_drewN | apply below_drew1 | refine below_set ?_ (IsS40.ge HI107.out)) | exact HB.out)); rintro e w60 ⟨rfl, hi, hb, hk⟩; refine ⟨_, rfl, ?_⟩; have n0_ := Aside0.mk (hb); have n1_ := Aside0.mk (hi); clear HB; clear HI107; have HB := n0_; have HI107 := n1_; clear n0_ n1_; (try clear hb); (try clear hb2); (try clear hk); (try clear hi)) | ((with_reducible refine gate_callee (f := 18) rfl ?_); refine goesL_ (some 19) rfl rfl Try.func18 (by kernel_rfl) rfl #[.pointer (some ⟨g107, 0, none⟩)] rfl (by (try simp only [List.map_toArray, List.map_cons, List.map_nil]); first | done | rfl | (simp only [List.length_drop, List.length_take]; rfl)) ?_; (with_reducible refine (neigh_Neigh_History.calls g107 t126 t127 t128 t129 t130 t131 t132 t133 t134 w _ ?side1 ?side2 A7.out).mono ?_); (case side1 => repeat (first | (with_reducible first | exact HI107.out | apply IsS40.alloc | apply IsS40.drewN | apply IsS40.drew | apply IsS40.set_0 | apply IsS40.set_1 | apply IsS40.set_2 | apply IsS40.set_3) | exact HI107.out)); (case side2 => repeat (first | (with_reducible first | exact HB.out | apply below_alloc | apply pw_below_drewN | apply below_drew1 | refine below_set ?_ (IsS40.ge HI107.out)) | exact HB.out)); rintro e w61 ⟨rfl, hi, hb, hk⟩; refine ⟨_, rfl, ?_⟩; have n0_ := Aside0.mk (hb); have n1_ := Aside0.mk (hi); clear HB; clear HI107; have HB := n0_; have HI107 := n1_; clear n0_ n1_; (try clear hb); (try clear hb2); (try clear hk); (try clear hi)) | ((with_reducible refine gate_callee (f := 14) rfl ?_); refine goesL_ (some 21) rfl rfl Try.func14 (by kernel_rfl) rfl #[.pointer (some ⟨g107, 0, none⟩)] rfl (by (try simp only [List.map_toArray, List.map_cons, List.map_nil]); first | done | rfl | (simp only [List.length_drop, List.length_take]; rfl)) ?_; (with_reducible refine (neigh_Neigh_Miss.calls g107 t131 t132 t133 t134 t135 t136 t137 t138 w _ ?side1 ?side2 A8.out).mono ?_); (case side1 => repeat (first | (with_reducible first | exact HI107.out | apply IsS40.alloc | apply IsS40.drewN | apply IsS40.drew | apply IsS40.set_0 | apply IsS40.set_1 | apply IsS40.set_2 | apply IsS40.set_3) | exact HI107.out)); (case side2 => repeat (first | (with_reducible first | exact HB.out | apply below_alloc | apply pw_below_drewN | apply below_drew1 | refine below_set ?_ (IsS40.ge HI107.out)) | exact HB.out)); rintro e w62 ⟨rfl, hi, hb, hk⟩; refine ⟨_, rfl, ?_⟩; have n0_ := Aside0.mk (hb); have n1_ := Aside0.mk (hi); clear HB; clear HI107; have HB := n0_; have HI107 := n1_; clear n0_ n1_; (try clear hb); (try clear hb2); (try clear hk); (try clear hi)) | ((with_reducible refine gate_callee (f := 14) rfl ?_); refine goesL_ (some 23) rfl rfl Try.func14 (by kernel_rfl) rfl #[.pointer (some ⟨g107, 0, none⟩)] rfl (by (try simp only [List.map_toArray, List.map_cons, List.map_nil]); first | done | rfl | (simp only [List.length_drop, List.length_take]; rfl)) ?_; (with_reducible refine (neigh_Neigh_Miss.calls g107 t135 t136 t137 t138 t139 t140 t141 t142 w _ ?side1 ?side2 A9.out).mono ?_); (case side1 => repeat (first | (with_reducible first | exact HI107.out | apply IsS40.alloc | apply IsS40.drewN | apply IsS40.drew | apply IsS40.set_0 | apply IsS40.set_1 | apply IsS40.set_2 | apply IsS40.set_3) | exact HI107.out)); (case side2 => repeat (first | (with_reducible first | exact HB.out | apply below_alloc | apply pw_below_drewN | apply below_drew1 | refine below_set ?_ (IsS40.ge HI107.out)) | exact HB.out)); rintro e w63 ⟨rfl, hi, hb, hk⟩; refine ⟨_, rfl, ?_⟩; have n0_ := Aside0.mk (hb); have n1_ := Aside0.mk (hi); clear HB; clear HI107; have HB := n0_; have HI107 := n1_; clear n0_ n1_; (try clear hb); (try clear hb2); (try clear hk); (try clear hi)))
    go_ret
    exact ⟨by first | rfl | (simp [errW_none, errW_some] <;> rfl) | (simp [*, errW_none, errW_some] <;> rfl), by repeat (first | (with_reducible first | exact HB.out | apply below_alloc | apply pw_below_drewN | apply below_drew1 | refine below_set ?_ (IsS40.ge HI107.out)) | exact HB.out)⟩

-- NOT PRINTED: function 11 (octroiref11_New)

-- NOT PRINTED: function 24 (octroiref11_Neigh_in)

-- NOT PRINTED: function 13 (octroiref11_Neigh_Hello)

-- NOT PRINTED: function 15 (octroiref11_Neigh_Miss)

end Go.Proofs.Ytchmcmioilmnpaa.L
