/- Printed by the session's own program out of the translation: for each Go function a Lean function with the same answers, and the proof that the code comes to them. No conditions. -/
import Derived.Test.YtjgfdhkphmhbcaaLx0
import Derived.Test.YtjgfdhkphmhbcaaLx5
namespace Go.Proofs.Ytjgfdhkphmhbcaa.L
open Go.Proofs.YtjgfdhkphmhbcaaLab
open Go.RowKit Go.Proofs.YtjgfdhkphmhbcaaW.PrintWords Go.Proofs.YtjgfdhkphmhbcaaW.PrintLast Go.Proofs.YtjgfdhkphmhbcaaW.PrintMore
attribute [local go_sem] max2_int min2_int max_two min_two max_three min_three max_four min_four   -- for this text's walks alone
set_option linter.unusedVariables false
set_option linter.unusedSimpArgs false

/-! ### octroilaw13_FilterLens: function 11 -/
mutual
def octroilaw13_FilterLens.j0 : Nat → Bool → Bool → Bool → Int → Int → Int → Int → Int → Int → Int → Int → Option (Bool)
  | 0, _, _, _, _, _, _, _, _, _, _, _ => none
  | k + 1, x5, x31, x242000, x242001, x242002, x242003, x242004, x242005, x242006, x243000, x243001 => if x31 = true then (some x5) else ((filter_Permits.f k (([(⟨x242000, (⟨x242001, x242002⟩ : S35), x242003, x242004, x242005, x242006⟩ : S42)] : List (S42))) x243000 x243001 65535).bind fun bt251 => (if x243001 ≥ x242003 then (octroilaw13_FilterLens.j1 k bt251.2 (decide (x243001 ≤ x242004)) x242000 x242001 x242002 x242003 x242004 x242005 x242006 x243000 x243001) else (octroilaw13_FilterLens.j1 k bt251.2 false x242000 x242001 x242002 x242003 x242004 x242005 x242006 x243000 x243001)))
def octroilaw13_FilterLens.j1 : Nat → Int → Bool → Bool → Int → Int → Int → Int → Int → Int → Int → Int → Option (Bool)
  | 0, _, _, _, _, _, _, _, _, _, _, _ => none
  | k + 1, x7, x8, x242000, x242001, x242002, x242003, x242004, x242005, x242006, x243000, x243001 => octroilaw13_FilterLens.l0 k x7 x8 0 x242000 x242001 x242002 x242003 x242004 x242005 x242006 x243000 x243001
def octroilaw13_FilterLens.l0 : Nat → Int → Bool → Int → Bool → Int → Int → Int → Int → Int → Int → Int → Int → Option (Bool)
  | 0, _, _, _, _, _, _, _, _, _, _, _, _ => none
  | k + 1, x7, x8, x9, x242000, x242001, x242002, x242003, x242004, x242005, x242006, x243000, x243001 => if x9 < 32 then (if 0 ≤ (IntKind.u64.wrap (wrap64 (31 - x9))) then (if x9 < x242002 then (if (Go.bits .and .u32 x243000 (shl .u32 1 (IntKind.u64.wrap (wrap64 (31 - x9))))) = (Go.bits .and .u32 x242001 (shl .u32 1 (IntKind.u64.wrap (wrap64 (31 - x9))))) then (if x9 ≥ x243001 then (if (Go.bits .and .u32 x243000 (shl .u32 1 (IntKind.u64.wrap (wrap64 (31 - x9))))) = 0 then (octroilaw13_FilterLens.l0 k x7 x8 (wrap64 (x9 + 1)) x242000 x242001 x242002 x242003 x242004 x242005 x242006 x243000 x243001) else (octroilaw13_FilterLens.l0 k x7 false (wrap64 (x9 + 1)) x242000 x242001 x242002 x242003 x242004 x242005 x242006 x243000 x243001)) else (octroilaw13_FilterLens.l0 k x7 x8 (wrap64 (x9 + 1)) x242000 x242001 x242002 x242003 x242004 x242005 x242006 x243000 x243001)) else (octroilaw13_FilterLens.l0 k x7 false (wrap64 (x9 + 1)) x242000 x242001 x242002 x242003 x242004 x242005 x242006 x243000 x243001)) else (if x9 ≥ x243001 then (if (Go.bits .and .u32 x243000 (shl .u32 1 (IntKind.u64.wrap (wrap64 (31 - x9))))) = 0 then (octroilaw13_FilterLens.l0 k x7 x8 (wrap64 (x9 + 1)) x242000 x242001 x242002 x242003 x242004 x242005 x242006 x243000 x243001) else (octroilaw13_FilterLens.l0 k x7 false (wrap64 (x9 + 1)) x242000 x242001 x242002 x242003 x242004 x242005 x242006 x243000 x243001)) else (octroilaw13_FilterLens.l0 k x7 x8 (wrap64 (x9 + 1)) x242000 x242001 x242002 x242003 x242004 x242005 x242006 x243000 x243001))) else (none)) else (some ((x7 == 0) == x8))
end
def octroilaw13_FilterLens.f (k : Nat) (a0_0 : Bool) (a0_1 : Int) (a0_2 : Int) (a0_3 : Int) (a0_4 : Int) (a0_5 : Int) (a0_6 : Int) (a1_0 : Int) (a1_1 : Int) : Option (Bool) := (octroilaw13_awake.f k).bind fun t243 => (if t243 = true then ((filter_May.f k (([(⟨a0_0, (⟨a0_1, a0_2⟩ : S35), a0_3, a0_4, 0, 0⟩ : S42)] : List (S42)))).bind fun t247 => (if t247 = true then (if a1_1 < 0 then (octroilaw13_FilterLens.j0 k t243 true a0_0 a0_1 a0_2 a0_3 a0_4 0 0 a1_0 a1_1) else (octroilaw13_FilterLens.j0 k t243 (decide (a1_1 > 32)) a0_0 a0_1 a0_2 a0_3 a0_4 0 0 a1_0 a1_1)) else (octroilaw13_FilterLens.j0 k t243 true a0_0 a0_1 a0_2 a0_3 a0_4 0 0 a1_0 a1_1))) else (octroilaw13_FilterLens.j0 k t243 true a0_0 a0_1 a0_2 a0_3 a0_4 0 0 a1_0 a1_1))
theorem octroilaw13_FilterLens.mono_l : ∀ k, (∀ y0 y1 y2 y3 y4 y5 y6 y7 y8 y9 y10, LeO (octroilaw13_FilterLens.j0 k y0 y1 y2 y3 y4 y5 y6 y7 y8 y9 y10) (octroilaw13_FilterLens.j0 (k + 1) y0 y1 y2 y3 y4 y5 y6 y7 y8 y9 y10)) ∧ (∀ y0 y1 y2 y3 y4 y5 y6 y7 y8 y9 y10, LeO (octroilaw13_FilterLens.j1 k y0 y1 y2 y3 y4 y5 y6 y7 y8 y9 y10) (octroilaw13_FilterLens.j1 (k + 1) y0 y1 y2 y3 y4 y5 y6 y7 y8 y9 y10)) ∧ (∀ y0 y1 y2 y3 y4 y5 y6 y7 y8 y9 y10 y11, LeO (octroilaw13_FilterLens.l0 k y0 y1 y2 y3 y4 y5 y6 y7 y8 y9 y10 y11) (octroilaw13_FilterLens.l0 (k + 1) y0 y1 y2 y3 y4 y5 y6 y7 y8 y9 y10 y11))
  | 0 => ⟨fun _ _ _ _ _ _ _ _ _ _ _ r h => by simp [octroilaw13_FilterLens.j0] at h, fun _ _ _ _ _ _ _ _ _ _ _ r h => by simp [octroilaw13_FilterLens.j1] at h, fun _ _ _ _ _ _ _ _ _ _ _ _ r h => by simp [octroilaw13_FilterLens.l0] at h⟩
  | k + 1 => by
    obtain ⟨ih0, ih1, ih2⟩ := octroilaw13_FilterLens.mono_l k
    refine ⟨?_, ?_, ?_⟩
    · intro y0 y1 y2 y3 y4 y5 y6 y7 y8 y9 y10
      unfold octroilaw13_FilterLens.j0
      repeat' first
      | (with_reducible exact ih0 _ _ _ _ _ _ _ _ _ _ _)
      | (with_reducible exact ih1 _ _ _ _ _ _ _ _ _ _ _)
      | (with_reducible exact ih2 _ _ _ _ _ _ _ _ _ _ _ _)
      | (with_reducible exact filter_May.mono _ _)
      | (with_reducible exact filter_Permits.mono _ _ _ _ _)
      | (with_reducible exact octroilaw13_awake.mono _)
      | (with_reducible exact LeO.refl _)
      | (with_reducible exact LeO.none _)
      | (with_reducible refine LeO.ite ?_ ?_)
      | (with_reducible refine LeO.bind ?_ (fun _ => ?_))
      | exact ih0 _ _ _ _ _ _ _ _ _ _ _
      | exact ih1 _ _ _ _ _ _ _ _ _ _ _
      | exact ih2 _ _ _ _ _ _ _ _ _ _ _ _
      | exact filter_May.mono _ _
      | exact filter_Permits.mono _ _ _ _ _
      | exact octroilaw13_awake.mono _
      | exact LeO.none _
      | refine LeO.ite ?_ ?_
      | refine LeO.bind ?_ (fun _ => ?_)
    · intro y0 y1 y2 y3 y4 y5 y6 y7 y8 y9 y10
      unfold octroilaw13_FilterLens.j1
      repeat' first
      | (with_reducible exact ih0 _ _ _ _ _ _ _ _ _ _ _)
      | (with_reducible exact ih1 _ _ _ _ _ _ _ _ _ _ _)
      | (with_reducible exact ih2 _ _ _ _ _ _ _ _ _ _ _ _)
      | (with_reducible exact filter_May.mono _ _)
      | (with_reducible exact filter_Permits.mono _ _ _ _ _)
      | (with_reducible exact octroilaw13_awake.mono _)
      | (with_reducible exact LeO.refl _)
      | (with_reducible exact LeO.none _)
      | (with_reducible refine LeO.ite ?_ ?_)
      | (with_reducible refine LeO.bind ?_ (fun _ => ?_))
      | exact ih0 _ _ _ _ _ _ _ _ _ _ _
      | exact ih1 _ _ _ _ _ _ _ _ _ _ _
      | exact ih2 _ _ _ _ _ _ _ _ _ _ _ _
      | exact filter_May.mono _ _
      | exact filter_Permits.mono _ _ _ _ _
      | exact octroilaw13_awake.mono _
      | exact LeO.none _
      | refine LeO.ite ?_ ?_
      | refine LeO.bind ?_ (fun _ => ?_)
    · intro y0 y1 y2 y3 y4 y5 y6 y7 y8 y9 y10 y11
      unfold octroilaw13_FilterLens.l0
      repeat' first
      | (with_reducible exact ih0 _ _ _ _ _ _ _ _ _ _ _)
      | (with_reducible exact ih1 _ _ _ _ _ _ _ _ _ _ _)
      | (with_reducible exact ih2 _ _ _ _ _ _ _ _ _ _ _ _)
      | (with_reducible exact filter_May.mono _ _)
      | (with_reducible exact filter_Permits.mono _ _ _ _ _)
      | (with_reducible exact octroilaw13_awake.mono _)
      | (with_reducible exact LeO.refl _)
      | (with_reducible exact LeO.none _)
      | (with_reducible refine LeO.ite ?_ ?_)
      | (with_reducible refine LeO.bind ?_ (fun _ => ?_))
      | exact ih0 _ _ _ _ _ _ _ _ _ _ _
      | exact ih1 _ _ _ _ _ _ _ _ _ _ _
      | exact ih2 _ _ _ _ _ _ _ _ _ _ _ _
      | exact filter_May.mono _ _
      | exact filter_Permits.mono _ _ _ _ _
      | exact octroilaw13_awake.mono _
      | exact LeO.none _
      | refine LeO.ite ?_ ?_
      | refine LeO.bind ?_ (fun _ => ?_)
theorem octroilaw13_FilterLens.mono : ∀ a0 a1 a2 a3 a4 a5 a6 a7 a8 k, LeO (octroilaw13_FilterLens.f k a0 a1 a2 a3 a4 a5 a6 a7 a8) (octroilaw13_FilterLens.f (k + 1) a0 a1 a2 a3 a4 a5 a6 a7 a8) := by
  intro a0 a1 a2 a3 a4 a5 a6 a7 a8 k
  obtain ⟨ih0, ih1, ih2⟩ := octroilaw13_FilterLens.mono_l k
  unfold octroilaw13_FilterLens.f
  repeat' first
      | (with_reducible exact ih0 _ _ _ _ _ _ _ _ _ _ _)
      | (with_reducible exact ih1 _ _ _ _ _ _ _ _ _ _ _)
      | (with_reducible exact ih2 _ _ _ _ _ _ _ _ _ _ _ _)
      | (with_reducible exact filter_May.mono _ _)
      | (with_reducible exact filter_Permits.mono _ _ _ _ _)
      | (with_reducible exact octroilaw13_awake.mono _)
      | (with_reducible exact LeO.refl _)
      | (with_reducible exact LeO.none _)
      | (with_reducible refine LeO.ite ?_ ?_)
      | (with_reducible refine LeO.bind ?_ (fun _ => ?_))
      | exact ih0 _ _ _ _ _ _ _ _ _ _ _
      | exact ih1 _ _ _ _ _ _ _ _ _ _ _
      | exact ih2 _ _ _ _ _ _ _ _ _ _ _ _
      | exact filter_May.mono _ _
      | exact filter_Permits.mono _ _ _ _ _
      | exact octroilaw13_awake.mono _
      | exact LeO.none _
      | refine LeO.ite ?_ ?_
      | refine LeO.bind ?_ (fun _ => ?_)
set_option maxHeartbeats 8000000 in
set_option maxRecDepth 100000 in
theorem octroilaw13_FilterLens.calls (k : Nat) (a0_0 : Bool) (a0_1 : Int) (a0_2 : Int) (a0_3 : Int) (a0_4 : Int) (a0_5 : Int) (a0_6 : Int) (a1_0 : Int) (a1_1 : Int) (r : Bool) (w : World) (h : octroilaw13_FilterLens.f k a0_0 a0_1 a0_2 a0_3 a0_4 a0_5 a0_6 a1_0 a1_1 = some r) :
    Calls Try.prog 11 #[.agg #[.bool a0_0, .int .u32 a0_1, .int .i64 a0_2, .int .i64 a0_3, .int .i64 a0_4, .int .u16 a0_5, .int .u16 a0_6], .agg #[.int .u32 a1_0, .int .i64 a1_1]] w fun e w' => e = .returned (.bool r) ∧ Below w.heap.size w w' := by
  have hu42 := Try.underlying42
  have hu35 := Try.underlying35
  have HB := Aside0.mk (Below.refl w.heap.size w)
  have H : ((octroilaw13_awake.f k).bind fun t243 => (if t243 = true then ((filter_May.f k (([(⟨a0_0, (⟨a0_1, a0_2⟩ : S35), a0_3, a0_4, 0, 0⟩ : S42)] : List (S42)))).bind fun t247 => (if t247 = true then (if a1_1 < 0 then (octroilaw13_FilterLens.j0 k t243 true a0_0 a0_1 a0_2 a0_3 a0_4 0 0 a1_0 a1_1) else (octroilaw13_FilterLens.j0 k t243 (decide (a1_1 > 32)) a0_0 a0_1 a0_2 a0_3 a0_4 0 0 a1_0 a1_1)) else (octroilaw13_FilterLens.j0 k t243 true a0_0 a0_1 a0_2 a0_3 a0_4 0 0 a1_0 a1_1))) else (octroilaw13_FilterLens.j0 k t243 true a0_0 a0_1 a0_2 a0_3 a0_4 0 0 a1_0 a1_1))) = some r := h
  clear h
  replace H := Option.bind_eq_some_iff.mp H
  obtain ⟨t243, A30, H⟩ := H
  replace H : (if t243 = true then ((filter_May.f k (([(⟨a0_0, (⟨a0_1, a0_2⟩ : S35), a0_3, a0_4, 0, 0⟩ : S42)] : List (S42)))).bind fun t247 => (if t247 = true then (if a1_1 < 0 then (octroilaw13_FilterLens.j0 k t243 true a0_0 a0_1 a0_2 a0_3 a0_4 0 0 a1_0 a1_1) else (octroilaw13_FilterLens.j0 k t243 (decide (a1_1 > 32)) a0_0 a0_1 a0_2 a0_3 a0_4 0 0 a1_0 a1_1)) else (octroilaw13_FilterLens.j0 k t243 true a0_0 a0_1 a0_2 a0_3 a0_4 0 0 a1_0 a1_1))) else (octroilaw13_FilterLens.j0 k t243 true a0_0 a0_1 a0_2 a0_3 a0_4 0 0 a1_0 a1_1)) = some r := H
  have A3 := Aside0.mk A30
  clear A30
  have HC4 := Aside0.mk H
  clear H
  go_enter Try.func11, Try.ntmps11
  go_upto_region 4 with (first | ((with_reducible refine gate_dst (N := 2) rfl ?_); (try (refine gate_guard (by rfl) ?_; dsimp only)); refine box_event ?hg (N := 2) ?hd (cs := #[.bool a0_0, .int .u32 a0_1, .int .i64 a0_2, .int .i64 a0_3, .int .i64 a0_4, .int .u16 a0_5, .int .u16 a0_6]) (t := 42) ?hr ?_; (case hd => rfl); (case hg => rfl); (case hr => first | (go_simp; done) | (go_simp; rfl)); intro gb241 hg w5 hbox hb; have n0_ := Aside0.mk (below_step (by repeat (first | (with_reducible first | exact HB.out | apply below_alloc | apply pw_below_drewN | apply below_drew1) | exact HB.out)) hb); have n1_ := Aside0.mk (hbox); have n2_ := Aside0.mk ((by rw [hg]; exact (below_size (by repeat (first | (with_reducible first | exact HB.out | apply below_alloc | apply pw_below_drewN | apply below_drew1) | exact HB.out))) : w.heap.size ≤ gb241)); have n3_ := Aside0.mk ((by rw [hg]; exact (below_size (by repeat (first | (with_reducible first | exact HB.out | apply below_alloc | apply pw_below_drewN | apply below_drew1) | exact HB.out))) : w.heap.size ≤ gb241)); clear HB; have HB := n0_; have BK241 := n1_; have GW241 := n2_; have GE241 := n3_; clear n0_ n1_ n2_ n3_; clear hb hbox hg) | ((with_reducible refine gate_dst (N := 3) rfl ?_); (try (refine gate_guard (by rfl) ?_; dsimp only)); refine box_event ?hg (N := 3) ?hd (cs := #[.int .u32 a1_0, .int .i64 a1_1]) (t := 35) ?hr ?_; (case hd => rfl); (case hg => rfl); (case hr => first | (go_simp; done) | (go_simp; rfl)); intro gb242 hg w6 hbox hb; have n0_ := Aside0.mk (blk_below (g := gb241) (o := .cells #[.bool a0_0, .int .u32 a0_1, .int .i64 a0_2, .int .i64 a0_3, .int .i64 a0_4, .int .u16 a0_5, .int .u16 a0_6] 42 (0, 0)) (by (with_reducible repeat (first | refine blk_drewN ?_ _ | refine blk_drew ?_ | refine blk_alloc ?_ _)); exact BK241.out) hb); have n1_ := Aside0.mk (below_step (by repeat (first | (with_reducible first | exact HB.out | apply below_alloc | apply pw_below_drewN | apply below_drew1 | refine below_set ?_ GE241.out) | exact HB.out)) hb); have n2_ := Aside0.mk (hbox); have n3_ := Aside0.mk ((by rw [hg]; exact (below_size (by repeat (first | (with_reducible first | exact HB.out | apply below_alloc | apply pw_below_drewN | apply below_drew1 | refine below_set ?_ GE241.out) | exact HB.out))) : w.heap.size ≤ gb242)); have n4_ := Aside0.mk ((by rw [hg]; exact (below_size (by repeat (first | (with_reducible first | exact HB.out | apply below_alloc | apply pw_below_drewN | apply below_drew1 | refine below_set ?_ GE241.out) | exact HB.out))) : w.heap.size ≤ gb242)); have n5_ := Aside0.mk ((by rw [hg]; exact Nat.ne_of_lt (blk_lt (g := gb241) (o := .cells #[.bool a0_0, .int .u32 a0_1, .int .i64 a0_2, .int .i64 a0_3, .int .i64 a0_4, .int .u16 a0_5, .int .u16 a0_6] 42 (0, 0)) (by (with_reducible repeat (first | refine blk_drewN ?_ _ | refine blk_drew ?_ | refine blk_alloc ?_ _)); exact BK241.out)) : gb241 ≠ gb242)); have n6_ := Aside0.mk ((by rw [hg]; exact Nat.ne_of_gt (blk_lt (g := gb241) (o := .cells #[.bool a0_0, .int .u32 a0_1, .int .i64 a0_2, .int .i64 a0_3, .int .i64 a0_4, .int .u16 a0_5, .int .u16 a0_6] 42 (0, 0)) (by (with_reducible repeat (first | refine blk_drewN ?_ _ | refine blk_drew ?_ | refine blk_alloc ?_ _)); exact BK241.out)) : gb242 ≠ gb241)); clear BK241; clear HB; have BK241 := n0_; have HB := n1_; have BK242 := n2_; have GW242 := n3_; have GE242 := n4_; have NB241_242 := n5_; have NB242_241 := n6_; clear n0_ n1_ n2_ n3_ n4_ n5_ n6_; clear hb hbox hg) | ((with_reducible refine gate_callee (f := 17) rfl ?_); refine goesL_ (some 11) rfl rfl Try.func17 (by kernel_rfl) rfl #[] rfl (by (try simp only [List.map_toArray, List.map_cons, List.map_nil]); first | done | rfl | (simp only [List.length_drop, List.length_take]; rfl)) ?_; (with_reducible refine (octroilaw13_awake.calls k  t243 _ A3.out).mono ?_); rintro e w7 ⟨rfl, hb⟩; refine ⟨_, rfl, ?_⟩; have n0_ := Aside0.mk (blk_below (g := gb241) (o := .cells #[.bool a0_0, .int .u32 a0_1, .int .i64 a0_2, .int .i64 a0_3, .int .i64 a0_4, .int .u16 a0_5, .int .u16 a0_6] 42 (0, 0)) (by (with_reducible repeat (first | refine blk_drewN ?_ _ | refine blk_drew ?_ | refine blk_alloc ?_ _)); exact BK241.out) hb); have n1_ := Aside0.mk (blk_below (g := gb242) (o := .cells #[.int .u32 a1_0, .int .i64 a1_1] 35 (0, 0)) (by (with_reducible repeat (first | refine blk_drewN ?_ _ | refine blk_drew ?_ | refine blk_alloc ?_ _)); exact BK242.out) hb); have n2_ := Aside0.mk (below_step (by repeat (first | (with_reducible first | exact HB.out | apply below_alloc | apply pw_below_drewN | apply below_drew1 | refine below_set ?_ GE241.out | refine below_set ?_ GE242.out) | exact HB.out)) hb); clear BK241; clear BK242; clear HB; have BK241 := n0_; have BK242 := n1_; have HB := n2_; clear n0_ n1_ n2_; (try clear hb); (try clear hb2); (try clear hk); (try clear hi); have hnb8 := NB241_242.out; have hnc8 := NB242_241.out; have hcz9_0 : w7.cell? ⟨gb241, 0, none⟩ = some (.bool a0_0) := (blk_cell BK241.out 0).trans rfl; have hcz9_1 : w7.cell? ⟨gb241, 1, none⟩ = some (.int .u32 a0_1) := (blk_cell BK241.out 1).trans rfl; have hcz9_2 : w7.cell? ⟨gb241, 2, none⟩ = some (.int .i64 a0_2) := (blk_cell BK241.out 2).trans rfl; have hcz9_3 : w7.cell? ⟨gb241, 3, none⟩ = some (.int .i64 a0_3) := (blk_cell BK241.out 3).trans rfl; have hcz9_4 : w7.cell? ⟨gb241, 4, none⟩ = some (.int .i64 a0_4) := (blk_cell BK241.out 4).trans rfl; have hcz9_5 : w7.cell? ⟨gb241, 5, none⟩ = some (.int .u16 a0_5) := (blk_cell BK241.out 5).trans rfl; have hcz9_6 : w7.cell? ⟨gb241, 6, none⟩ = some (.int .u16 a0_6) := (blk_cell BK241.out 6).trans rfl; have hfz9_0 := blk_frozen BK241.out 0; have hfz9_1 := blk_frozen BK241.out 1; have hfz9_2 := blk_frozen BK241.out 2; have hfz9_3 := blk_frozen BK241.out 3; have hfz9_4 := blk_frozen BK241.out 4; have hfz9_5 := blk_frozen BK241.out 5; have hfz9_6 := blk_frozen BK241.out 6))
  (try simp only [Act.put, List.setIfInBounds_toArray, List.set_cons_zero, List.set_cons_succ])
  go_cut [31] (fun v31 wc => ∃ (kq : Nat) (x31_3 : Bool), v31 = .bool x31_3 ∧ Aside0 (octroilaw13_FilterLens.j0 kq t243 x31_3 a0_0 a0_1 a0_2 a0_3 a0_4 0 0 a1_0 a1_1 = some r) ∧ Aside0 (kq ≤ k) ∧ Aside0 (wc.heap[gb241]? = some (.cells #[.bool a0_0, .int .u32 a0_1, .int .i64 a0_2, .int .i64 a0_3, .int .i64 a0_4, .int .u16 0, .int .u16 0] 42 (0, 0))) ∧ Aside0 (wc.heap[gb242]? = some (.cells #[.int .u32 a1_0, .int .i64 a1_1] 35 (0, 0))) ∧ Aside0 (Below w.heap.size w wc))
  case first =>
    have H := HC4.out
    clear HC4
    by_cases c10 : t243 = true
    · subst c10
      have H1 : ((filter_May.f k (([(⟨a0_0, (⟨a0_1, a0_2⟩ : S35), a0_3, a0_4, 0, 0⟩ : S42)] : List (S42)))).bind fun t247 => (if t247 = true then (if a1_1 < 0 then (octroilaw13_FilterLens.j0 k true true a0_0 a0_1 a0_2 a0_3 a0_4 0 0 a1_0 a1_1) else (octroilaw13_FilterLens.j0 k true (decide (a1_1 > 32)) a0_0 a0_1 a0_2 a0_3 a0_4 0 0 a1_0 a1_1)) else (octroilaw13_FilterLens.j0 k true true a0_0 a0_1 a0_2 a0_3 a0_4 0 0 a1_0 a1_1))) = some r := by rw [if_pos rfl] at H; exact H
      clear H
      have H := H1
      clear H1
      obtain ⟨y244, hy244⟩ : ∃ y_ : List (S42), y_ = (([(⟨a0_0, (⟨a0_1, a0_2⟩ : S35), a0_3, a0_4, 0, 0⟩ : S42)] : List (S42))) := ⟨_, rfl⟩
      replace H : ((filter_May.f k y244).bind fun t247 => (if t247 = true then (if a1_1 < 0 then (octroilaw13_FilterLens.j0 k true true a0_0 a0_1 a0_2 a0_3 a0_4 0 0 a1_0 a1_1) else (octroilaw13_FilterLens.j0 k true (decide (a1_1 > 32)) a0_0 a0_1 a0_2 a0_3 a0_4 0 0 a1_0 a1_1)) else (octroilaw13_FilterLens.j0 k true true a0_0 a0_1 a0_2 a0_3 a0_4 0 0 a1_0 a1_1))) = some r := by first | (rw [hy244]; with_reducible exact H) | (have H2_ := (Option.bind_some _ _).symm.trans H; rw [hy244]; with_reducible exact H2_) | (have H2_ := (Option.bind_some _ _).symm.trans H; with_reducible exact H2_) | with_reducible exact H | (rw [hy244]; exact H) | exact H
      have Ny244 := Aside0.mk hy244
      clear hy244
      replace H := Option.bind_eq_some_iff.mp H
      obtain ⟨t247, A110, H⟩ := H
      replace H : (if t247 = true then (if a1_1 < 0 then (octroilaw13_FilterLens.j0 k true true a0_0 a0_1 a0_2 a0_3 a0_4 0 0 a1_0 a1_1) else (octroilaw13_FilterLens.j0 k true (decide (a1_1 > 32)) a0_0 a0_1 a0_2 a0_3 a0_4 0 0 a1_0 a1_1)) else (octroilaw13_FilterLens.j0 k true true a0_0 a0_1 a0_2 a0_3 a0_4 0 0 a1_0 a1_1)) = some r := H
      have A11 := Aside0.mk A110
      clear A110
      by_cases c12 : t247 = true
      · subst c12
        have H1 : (if a1_1 < 0 then (octroilaw13_FilterLens.j0 k true true a0_0 a0_1 a0_2 a0_3 a0_4 0 0 a1_0 a1_1) else (octroilaw13_FilterLens.j0 k true (decide (a1_1 > 32)) a0_0 a0_1 a0_2 a0_3 a0_4 0 0 a1_0 a1_1)) = some r := by rw [if_pos rfl] at H; exact H
        clear H
        have H := H1
        clear H1
        by_cases c13 : a1_1 < 0
        · rw [if_pos c13] at H
          have c13b0 : decide (a1_1 < 0) = true := decide_eq_true c13
          clear c13
          (first | rw [c13b0] | (simp only [i64_w, i32_w]; rw [c13b0]) | skip)
          have H' := Aside0.mk H
          clear H
          have hnb14 := NB241_242.out
          have hnc14 := NB242_241.out
          have hcz15_0 : w7.cell? ⟨gb241, 0, none⟩ = some (.bool a0_0) := (blk_cell BK241.out 0).trans rfl
          have hcz15_1 : w7.cell? ⟨gb241, 1, none⟩ = some (.int .u32 a0_1) := (blk_cell BK241.out 1).trans rfl
          have hcz15_2 : w7.cell? ⟨gb241, 2, none⟩ = some (.int .i64 a0_2) := (blk_cell BK241.out 2).trans rfl
          have hcz15_3 : w7.cell? ⟨gb241, 3, none⟩ = some (.int .i64 a0_3) := (blk_cell BK241.out 3).trans rfl
          have hcz15_4 : w7.cell? ⟨gb241, 4, none⟩ = some (.int .i64 a0_4) := (blk_cell BK241.out 4).trans rfl
          have hcz15_5 : w7.cell? ⟨gb241, 5, none⟩ = some (.int .u16 a0_5) := (blk_cell BK241.out 5).trans rfl
          have hcz15_6 : w7.cell? ⟨gb241, 6, none⟩ = some (.int .u16 a0_6) := (blk_cell BK241.out 6).trans rfl
          have hfz15_0 := blk_frozen BK241.out 0
          have hfz15_1 := blk_frozen BK241.out 1
          have hfz15_2 := blk_frozen BK241.out 2
          have hfz15_3 := blk_frozen BK241.out 3
          have hfz15_4 := blk_frozen BK241.out 4
          have hfz15_5 := blk_frozen BK241.out 5
          have hfz15_6 := blk_frozen BK241.out 6
          go_wp2_with (first | ((with_reducible refine gate_dst (N := 18) rfl ?_); (try (refine gate_guard (by rfl) ?_; dsimp only)); refine Kd.R_lit k42 _ 42 ?hg (N := 18) ?hd (xs := ([(⟨a0_0, (⟨a0_1, a0_2⟩ : S35), a0_3, a0_4, 0, 0⟩ : S42)] : List (S42))) (inner := [.bool a0_0, .int .u32 a0_1, .int .i64 a0_2, .int .i64 a0_3, .int .i64 a0_4, .int .u16 0, .int .u16 0]) (ok := fun _ => True) (okp := fun _ => True) ?hr ?hp (fun _ hk => hk) trivial (Below.refl _ _) (Nat.le_refl _) (by simp) ?_; (case hd => rfl); (case hg => rfl); (case hr => first | (go_simp; done) | (go_simp; rfl)); (case hp => exact (Reps.c7 (show Kd.M k42 _ _ _ (⟨a0_0, (⟨a0_1, a0_2⟩ : S35), a0_3, a0_4, 0, 0⟩ : S42) [.bool a0_0, .int .u32 a0_1, .int .i64 a0_2, .int .i64 a0_3, .int .i64 a0_4, .int .u16 0, .int .u16 0] from (k42_mkM _ _ _ (⟨a0_0, (⟨a0_1, a0_2⟩ : S35), a0_3, a0_4, 0, 0⟩ : S42) )) (Reps.none _ _))); intro v245 w16 ho17 hb hg_ hnew_; clear hg_ hnew_; (first | rw [← Ny244.out] at ho17 | (simp only [Int.reduceToNat] at ho17; rw [← Ny244.out] at ho17)); have n0_ := Aside0.mk (Kd.R_lower (Kd.R_newB ho17 (g := gb241) (o := .cells #[.bool a0_0, .int .u32 a0_1, .int .i64 a0_2, .int .i64 a0_3, .int .i64 a0_4, .int .u16 0, .int .u16 0] 42 (0, 0)) (by (with_reducible repeat (first | refine blk_drewN ?_ _ | refine blk_drew ?_ | refine blk_alloc ?_ _)); refine blk_put (cs := #[.bool a0_0, .int .u32 a0_1, .int .i64 a0_2, .int .i64 a0_3, .int .i64 a0_4, .int .u16 0, .int .u16 a0_6]) ?_ 6 _ rfl; (with_reducible repeat (first | refine blk_drewN ?_ _ | refine blk_drew ?_ | refine blk_alloc ?_ _)); refine blk_put (cs := #[.bool a0_0, .int .u32 a0_1, .int .i64 a0_2, .int .i64 a0_3, .int .i64 a0_4, .int .u16 a0_5, .int .u16 a0_6]) ?_ 5 _ rfl; (with_reducible repeat (first | refine blk_drewN ?_ _ | refine blk_drew ?_ | refine blk_alloc ?_ _)); exact BK241.out)) (below_size (by repeat (first | (with_reducible first | exact HB.out | apply below_alloc | apply pw_below_drewN | apply below_drew1 | refine below_set ?_ GE241.out | refine below_set ?_ GE242.out) | exact HB.out)))); have n1_ := Aside0.mk (blk_below (g := gb241) (o := .cells #[.bool a0_0, .int .u32 a0_1, .int .i64 a0_2, .int .i64 a0_3, .int .i64 a0_4, .int .u16 0, .int .u16 0] 42 (0, 0)) (by (with_reducible repeat (first | refine blk_drewN ?_ _ | refine blk_drew ?_ | refine blk_alloc ?_ _)); refine blk_put (cs := #[.bool a0_0, .int .u32 a0_1, .int .i64 a0_2, .int .i64 a0_3, .int .i64 a0_4, .int .u16 0, .int .u16 a0_6]) ?_ 6 _ rfl; (with_reducible repeat (first | refine blk_drewN ?_ _ | refine blk_drew ?_ | refine blk_alloc ?_ _)); refine blk_put (cs := #[.bool a0_0, .int .u32 a0_1, .int .i64 a0_2, .int .i64 a0_3, .int .i64 a0_4, .int .u16 a0_5, .int .u16 a0_6]) ?_ 5 _ rfl; (with_reducible repeat (first | refine blk_drewN ?_ _ | refine blk_drew ?_ | refine blk_alloc ?_ _)); exact BK241.out) hb); have n2_ := Aside0.mk (blk_below (g := gb242) (o := .cells #[.int .u32 a1_0, .int .i64 a1_1] 35 (0, 0)) (by (with_reducible repeat (first | refine blk_drewN ?_ _ | refine blk_drew ?_ | refine blk_alloc ?_ _)); refine blk_far ?_ NB242_241.out _; (with_reducible repeat (first | refine blk_drewN ?_ _ | refine blk_drew ?_ | refine blk_alloc ?_ _)); refine blk_far ?_ NB242_241.out _; (with_reducible repeat (first | refine blk_drewN ?_ _ | refine blk_drew ?_ | refine blk_alloc ?_ _)); exact BK242.out) hb); have n3_ := Aside0.mk (below_step (by repeat (first | (with_reducible first | exact HB.out | apply below_alloc | apply pw_below_drewN | apply below_drew1 | refine below_set ?_ GE241.out | refine below_set ?_ GE242.out) | exact HB.out)) hb); clear BK241; clear BK242; clear HB; have HO246 := n0_; have BK241 := n1_; have BK242 := n2_; have HB := n3_; clear n0_ n1_ n2_ n3_; clear hb ho17; obtain ⟨Ao18, co18, eo18⟩ := Kd.R_slice HO246.out; subst eo18) | (go_at_call 20; (with_reducible refine (filter_May.calls k _ _ y244 true _ ?side1 ?side2 A11.out).mono ?_); (case side1 => repeat (first | exact (Kd.R_reads' HO246.out).2.2 | (with_reducible refine Kd.C_alloc ?_ _) | (with_reducible refine Kd.C_drewN ?_ _) | (with_reducible refine Kd.C_drew ?_))); (case side2 => exact (Kd.R_reads' HO246.out).2.1); rintro e w19 ⟨rfl, hb⟩; have n0_ := Aside0.mk (Kd.R_below (by (with_reducible repeat (first | apply Kd.R_alloc | apply Kd.R_drewN | apply Kd.R_drew)); exact HO246.out) hb); have n1_ := Aside0.mk (blk_below (g := gb241) (o := .cells #[.bool a0_0, .int .u32 a0_1, .int .i64 a0_2, .int .i64 a0_3, .int .i64 a0_4, .int .u16 0, .int .u16 0] 42 (0, 0)) (by (with_reducible repeat (first | refine blk_drewN ?_ _ | refine blk_drew ?_ | refine blk_alloc ?_ _)); exact BK241.out) hb); have n2_ := Aside0.mk (blk_below (g := gb242) (o := .cells #[.int .u32 a1_0, .int .i64 a1_1] 35 (0, 0)) (by (with_reducible repeat (first | refine blk_drewN ?_ _ | refine blk_drew ?_ | refine blk_alloc ?_ _)); exact BK242.out) hb); have n3_ := Aside0.mk (below_step (by repeat (first | (with_reducible first | exact HB.out | apply below_alloc | apply pw_below_drewN | apply below_drew1 | refine below_set ?_ GE241.out | refine below_set ?_ GE242.out) | exact HB.out)) hb); clear HO246; clear BK241; clear BK242; clear HB; have HO246 := n0_; have BK241 := n1_; have BK242 := n2_; have HB := n3_; clear n0_ n1_ n2_ n3_; (try clear hb); (try clear hb2); (try clear hk); (try clear hi); have hcz20_0 : w19.cell? ⟨gb242, 0, none⟩ = some (.int .u32 a1_0) := (blk_cell BK242.out 0).trans rfl; have hcz20_1 : w19.cell? ⟨gb242, 1, none⟩ = some (.int .i64 a1_1) := (blk_cell BK242.out 1).trans rfl; have hfz20_0 := blk_frozen BK242.out 0; have hfz20_1 := blk_frozen BK242.out 1))
          go_meet
          case rel => exact ⟨_, (true), (by first | rfl | (simp; done) | (simp [*]; done)), H', ⟨by first | omega | exact Nat.le_refl _⟩, ⟨by (with_reducible repeat (first | refine blk_drewN ?_ _ | refine blk_drew ?_ | refine blk_alloc ?_ _)); exact BK241.out⟩, ⟨by (with_reducible repeat (first | refine blk_drewN ?_ _ | refine blk_drew ?_ | refine blk_alloc ?_ _)); exact BK242.out⟩, ⟨by repeat (first | (with_reducible first | exact HB.out | apply below_alloc | apply pw_below_drewN | apply below_drew1 | refine below_set ?_ GE241.out | refine below_set ?_ GE242.out) | exact HB.out)⟩⟩
        · rw [if_neg c13] at H
          have c13b0 : decide (a1_1 < 0) = false := decide_eq_false c13
          clear c13
          (first | rw [c13b0] | (simp only [i64_w, i32_w]; rw [c13b0]) | skip)
          have H' := Aside0.mk H
          clear H
          have hnb21 := NB241_242.out
          have hnc21 := NB242_241.out
          have hcz22_0 : w7.cell? ⟨gb241, 0, none⟩ = some (.bool a0_0) := (blk_cell BK241.out 0).trans rfl
          have hcz22_1 : w7.cell? ⟨gb241, 1, none⟩ = some (.int .u32 a0_1) := (blk_cell BK241.out 1).trans rfl
          have hcz22_2 : w7.cell? ⟨gb241, 2, none⟩ = some (.int .i64 a0_2) := (blk_cell BK241.out 2).trans rfl
          have hcz22_3 : w7.cell? ⟨gb241, 3, none⟩ = some (.int .i64 a0_3) := (blk_cell BK241.out 3).trans rfl
          have hcz22_4 : w7.cell? ⟨gb241, 4, none⟩ = some (.int .i64 a0_4) := (blk_cell BK241.out 4).trans rfl
          have hcz22_5 : w7.cell? ⟨gb241, 5, none⟩ = some (.int .u16 a0_5) := (blk_cell BK241.out 5).trans rfl
          have hcz22_6 : w7.cell? ⟨gb241, 6, none⟩ = some (.int .u16 a0_6) := (blk_cell BK241.out 6).trans rfl
          have hfz22_0 := blk_frozen BK241.out 0
          have hfz22_1 := blk_frozen BK241.out 1
          have hfz22_2 := blk_frozen BK241.out 2
          have hfz22_3 := blk_frozen BK241.out 3
          have hfz22_4 := blk_frozen BK241.out 4
          have hfz22_5 := blk_frozen BK241.out 5
          have hfz22_6 := blk_frozen BK241.out 6
          go_wp2_with (first | ((with_reducible refine gate_dst (N := 18) rfl ?_); (try (refine gate_guard (by rfl) ?_; dsimp only)); refine Kd.R_lit k42 _ 42 ?hg (N := 18) ?hd (xs := ([(⟨a0_0, (⟨a0_1, a0_2⟩ : S35), a0_3, a0_4, 0, 0⟩ : S42)] : List (S42))) (inner := [.bool a0_0, .int .u32 a0_1, .int .i64 a0_2, .int .i64 a0_3, .int .i64 a0_4, .int .u16 0, .int .u16 0]) (ok := fun _ => True) (okp := fun _ => True) ?hr ?hp (fun _ hk => hk) trivial (Below.refl _ _) (Nat.le_refl _) (by simp) ?_; (case hd => rfl); (case hg => rfl); (case hr => first | (go_simp; done) | (go_simp; rfl)); (case hp => exact (Reps.c7 (show Kd.M k42 _ _ _ (⟨a0_0, (⟨a0_1, a0_2⟩ : S35), a0_3, a0_4, 0, 0⟩ : S42) [.bool a0_0, .int .u32 a0_1, .int .i64 a0_2, .int .i64 a0_3, .int .i64 a0_4, .int .u16 0, .int .u16 0] from (k42_mkM _ _ _ (⟨a0_0, (⟨a0_1, a0_2⟩ : S35), a0_3, a0_4, 0, 0⟩ : S42) )) (Reps.none _ _))); intro v245 w23 ho24 hb hg_ hnew_; clear hg_ hnew_; (first | rw [← Ny244.out] at ho24 | (simp only [Int.reduceToNat] at ho24; rw [← Ny244.out] at ho24)); have n0_ := Aside0.mk (Kd.R_lower (Kd.R_newB ho24 (g := gb241) (o := .cells #[.bool a0_0, .int .u32 a0_1, .int .i64 a0_2, .int .i64 a0_3, .int .i64 a0_4, .int .u16 0, .int .u16 0] 42 (0, 0)) (by (with_reducible repeat (first | refine blk_drewN ?_ _ | refine blk_drew ?_ | refine blk_alloc ?_ _)); refine blk_put (cs := #[.bool a0_0, .int .u32 a0_1, .int .i64 a0_2, .int .i64 a0_3, .int .i64 a0_4, .int .u16 0, .int .u16 a0_6]) ?_ 6 _ rfl; (with_reducible repeat (first | refine blk_drewN ?_ _ | refine blk_drew ?_ | refine blk_alloc ?_ _)); refine blk_put (cs := #[.bool a0_0, .int .u32 a0_1, .int .i64 a0_2, .int .i64 a0_3, .int .i64 a0_4, .int .u16 a0_5, .int .u16 a0_6]) ?_ 5 _ rfl; (with_reducible repeat (first | refine blk_drewN ?_ _ | refine blk_drew ?_ | refine blk_alloc ?_ _)); exact BK241.out)) (below_size (by repeat (first | (with_reducible first | exact HB.out | apply below_alloc | apply pw_below_drewN | apply below_drew1 | refine below_set ?_ GE241.out | refine below_set ?_ GE242.out) | exact HB.out)))); have n1_ := Aside0.mk (blk_below (g := gb241) (o := .cells #[.bool a0_0, .int .u32 a0_1, .int .i64 a0_2, .int .i64 a0_3, .int .i64 a0_4, .int .u16 0, .int .u16 0] 42 (0, 0)) (by (with_reducible repeat (first | refine blk_drewN ?_ _ | refine blk_drew ?_ | refine blk_alloc ?_ _)); refine blk_put (cs := #[.bool a0_0, .int .u32 a0_1, .int .i64 a0_2, .int .i64 a0_3, .int .i64 a0_4, .int .u16 0, .int .u16 a0_6]) ?_ 6 _ rfl; (with_reducible repeat (first | refine blk_drewN ?_ _ | refine blk_drew ?_ | refine blk_alloc ?_ _)); refine blk_put (cs := #[.bool a0_0, .int .u32 a0_1, .int .i64 a0_2, .int .i64 a0_3, .int .i64 a0_4, .int .u16 a0_5, .int .u16 a0_6]) ?_ 5 _ rfl; (with_reducible repeat (first | refine blk_drewN ?_ _ | refine blk_drew ?_ | refine blk_alloc ?_ _)); exact BK241.out) hb); have n2_ := Aside0.mk (blk_below (g := gb242) (o := .cells #[.int .u32 a1_0, .int .i64 a1_1] 35 (0, 0)) (by (with_reducible repeat (first | refine blk_drewN ?_ _ | refine blk_drew ?_ | refine blk_alloc ?_ _)); refine blk_far ?_ NB242_241.out _; (with_reducible repeat (first | refine blk_drewN ?_ _ | refine blk_drew ?_ | refine blk_alloc ?_ _)); refine blk_far ?_ NB242_241.out _; (with_reducible repeat (first | refine blk_drewN ?_ _ | refine blk_drew ?_ | refine blk_alloc ?_ _)); exact BK242.out) hb); have n3_ := Aside0.mk (below_step (by repeat (first | (with_reducible first | exact HB.out | apply below_alloc | apply pw_below_drewN | apply below_drew1 | refine below_set ?_ GE241.out | refine below_set ?_ GE242.out) | exact HB.out)) hb); clear BK241; clear BK242; clear HB; have HO246 := n0_; have BK241 := n1_; have BK242 := n2_; have HB := n3_; clear n0_ n1_ n2_ n3_; clear hb ho24; obtain ⟨Ao25, co25, eo25⟩ := Kd.R_slice HO246.out; subst eo25) | (go_at_call 20; (with_reducible refine (filter_May.calls k _ _ y244 true _ ?side1 ?side2 A11.out).mono ?_); (case side1 => repeat (first | exact (Kd.R_reads' HO246.out).2.2 | (with_reducible refine Kd.C_alloc ?_ _) | (with_reducible refine Kd.C_drewN ?_ _) | (with_reducible refine Kd.C_drew ?_))); (case side2 => exact (Kd.R_reads' HO246.out).2.1); rintro e w26 ⟨rfl, hb⟩; have n0_ := Aside0.mk (Kd.R_below (by (with_reducible repeat (first | apply Kd.R_alloc | apply Kd.R_drewN | apply Kd.R_drew)); exact HO246.out) hb); have n1_ := Aside0.mk (blk_below (g := gb241) (o := .cells #[.bool a0_0, .int .u32 a0_1, .int .i64 a0_2, .int .i64 a0_3, .int .i64 a0_4, .int .u16 0, .int .u16 0] 42 (0, 0)) (by (with_reducible repeat (first | refine blk_drewN ?_ _ | refine blk_drew ?_ | refine blk_alloc ?_ _)); exact BK241.out) hb); have n2_ := Aside0.mk (blk_below (g := gb242) (o := .cells #[.int .u32 a1_0, .int .i64 a1_1] 35 (0, 0)) (by (with_reducible repeat (first | refine blk_drewN ?_ _ | refine blk_drew ?_ | refine blk_alloc ?_ _)); exact BK242.out) hb); have n3_ := Aside0.mk (below_step (by repeat (first | (with_reducible first | exact HB.out | apply below_alloc | apply pw_below_drewN | apply below_drew1 | refine below_set ?_ GE241.out | refine below_set ?_ GE242.out) | exact HB.out)) hb); clear HO246; clear BK241; clear BK242; clear HB; have HO246 := n0_; have BK241 := n1_; have BK242 := n2_; have HB := n3_; clear n0_ n1_ n2_ n3_; (try clear hb); (try clear hb2); (try clear hk); (try clear hi); have hcz27_0 : w26.cell? ⟨gb242, 0, none⟩ = some (.int .u32 a1_0) := (blk_cell BK242.out 0).trans rfl; have hcz27_1 : w26.cell? ⟨gb242, 1, none⟩ = some (.int .i64 a1_1) := (blk_cell BK242.out 1).trans rfl; have hfz27_0 := blk_frozen BK242.out 0; have hfz27_1 := blk_frozen BK242.out 1))
          go_meet
          case rel => exact ⟨_, (decide (a1_1 > 32)), (by first | rfl | (simp; done) | (simp [*]; done)), H', ⟨by first | omega | exact Nat.le_refl _⟩, ⟨by (with_reducible repeat (first | refine blk_drewN ?_ _ | refine blk_drew ?_ | refine blk_alloc ?_ _)); exact BK241.out⟩, ⟨by (with_reducible repeat (first | refine blk_drewN ?_ _ | refine blk_drew ?_ | refine blk_alloc ?_ _)); exact BK242.out⟩, ⟨by repeat (first | (with_reducible first | exact HB.out | apply below_alloc | apply pw_below_drewN | apply below_drew1 | refine below_set ?_ GE241.out | refine below_set ?_ GE242.out) | exact HB.out)⟩⟩
      · replace c12 := Bool.eq_false_iff.mpr c12
        subst c12
        have H1 : (octroilaw13_FilterLens.j0 k true true a0_0 a0_1 a0_2 a0_3 a0_4 0 0 a1_0 a1_1) = some r := by rw [if_neg (show ¬ (false = true) by decide)] at H; exact H
        clear H
        have H := H1
        clear H1
        have H' := Aside0.mk H
        clear H
        have hnb28 := NB241_242.out
        have hnc28 := NB242_241.out
        have hcz29_0 : w7.cell? ⟨gb241, 0, none⟩ = some (.bool a0_0) := (blk_cell BK241.out 0).trans rfl
        have hcz29_1 : w7.cell? ⟨gb241, 1, none⟩ = some (.int .u32 a0_1) := (blk_cell BK241.out 1).trans rfl
        have hcz29_2 : w7.cell? ⟨gb241, 2, none⟩ = some (.int .i64 a0_2) := (blk_cell BK241.out 2).trans rfl
        have hcz29_3 : w7.cell? ⟨gb241, 3, none⟩ = some (.int .i64 a0_3) := (blk_cell BK241.out 3).trans rfl
        have hcz29_4 : w7.cell? ⟨gb241, 4, none⟩ = some (.int .i64 a0_4) := (blk_cell BK241.out 4).trans rfl
        have hcz29_5 : w7.cell? ⟨gb241, 5, none⟩ = some (.int .u16 a0_5) := (blk_cell BK241.out 5).trans rfl
        have hcz29_6 : w7.cell? ⟨gb241, 6, none⟩ = some (.int .u16 a0_6) := (blk_cell BK241.out 6).trans rfl
        have hfz29_0 := blk_frozen BK241.out 0
        have hfz29_1 := blk_frozen BK241.out 1
        have hfz29_2 := blk_frozen BK241.out 2
        have hfz29_3 := blk_frozen BK241.out 3
        have hfz29_4 := blk_frozen BK241.out 4
        have hfz29_5 := blk_frozen BK241.out 5
        have hfz29_6 := blk_frozen BK241.out 6
        go_wp2_with (first | ((with_reducible refine gate_dst (N := 18) rfl ?_); (try (refine gate_guard (by rfl) ?_; dsimp only)); refine Kd.R_lit k42 _ 42 ?hg (N := 18) ?hd (xs := ([(⟨a0_0, (⟨a0_1, a0_2⟩ : S35), a0_3, a0_4, 0, 0⟩ : S42)] : List (S42))) (inner := [.bool a0_0, .int .u32 a0_1, .int .i64 a0_2, .int .i64 a0_3, .int .i64 a0_4, .int .u16 0, .int .u16 0]) (ok := fun _ => True) (okp := fun _ => True) ?hr ?hp (fun _ hk => hk) trivial (Below.refl _ _) (Nat.le_refl _) (by simp) ?_; (case hd => rfl); (case hg => rfl); (case hr => first | (go_simp; done) | (go_simp; rfl)); (case hp => exact (Reps.c7 (show Kd.M k42 _ _ _ (⟨a0_0, (⟨a0_1, a0_2⟩ : S35), a0_3, a0_4, 0, 0⟩ : S42) [.bool a0_0, .int .u32 a0_1, .int .i64 a0_2, .int .i64 a0_3, .int .i64 a0_4, .int .u16 0, .int .u16 0] from (k42_mkM _ _ _ (⟨a0_0, (⟨a0_1, a0_2⟩ : S35), a0_3, a0_4, 0, 0⟩ : S42) )) (Reps.none _ _))); intro v245 w30 ho31 hb hg_ hnew_; clear hg_ hnew_; (first | rw [← Ny244.out] at ho31 | (simp only [Int.reduceToNat] at ho31; rw [← Ny244.out] at ho31)); have n0_ := Aside0.mk (Kd.R_lower (Kd.R_newB ho31 (g := gb241) (o := .cells #[.bool a0_0, .int .u32 a0_1, .int .i64 a0_2, .int .i64 a0_3, .int .i64 a0_4, .int .u16 0, .int .u16 0] 42 (0, 0)) (by (with_reducible repeat (first | refine blk_drewN ?_ _ | refine blk_drew ?_ | refine blk_alloc ?_ _)); refine blk_put (cs := #[.bool a0_0, .int .u32 a0_1, .int .i64 a0_2, .int .i64 a0_3, .int .i64 a0_4, .int .u16 0, .int .u16 a0_6]) ?_ 6 _ rfl; (with_reducible repeat (first | refine blk_drewN ?_ _ | refine blk_drew ?_ | refine blk_alloc ?_ _)); refine blk_put (cs := #[.bool a0_0, .int .u32 a0_1, .int .i64 a0_2, .int .i64 a0_3, .int .i64 a0_4, .int .u16 a0_5, .int .u16 a0_6]) ?_ 5 _ rfl; (with_reducible repeat (first | refine blk_drewN ?_ _ | refine blk_drew ?_ | refine blk_alloc ?_ _)); exact BK241.out)) (below_size (by repeat (first | (with_reducible first | exact HB.out | apply below_alloc | apply pw_below_drewN | apply below_drew1 | refine below_set ?_ GE241.out | refine below_set ?_ GE242.out) | exact HB.out)))); have n1_ := Aside0.mk (blk_below (g := gb241) (o := .cells #[.bool a0_0, .int .u32 a0_1, .int .i64 a0_2, .int .i64 a0_3, .int .i64 a0_4, .int .u16 0, .int .u16 0] 42 (0, 0)) (by (with_reducible repeat (first | refine blk_drewN ?_ _ | refine blk_drew ?_ | refine blk_alloc ?_ _)); refine blk_put (cs := #[.bool a0_0, .int .u32 a0_1, .int .i64 a0_2, .int .i64 a0_3, .int .i64 a0_4, .int .u16 0, .int .u16 a0_6]) ?_ 6 _ rfl; (with_reducible repeat (first | refine blk_drewN ?_ _ | refine blk_drew ?_ | refine blk_alloc ?_ _)); refine blk_put (cs := #[.bool a0_0, .int .u32 a0_1, .int .i64 a0_2, .int .i64 a0_3, .int .i64 a0_4, .int .u16 a0_5, .int .u16 a0_6]) ?_ 5 _ rfl; (with_reducible repeat (first | refine blk_drewN ?_ _ | refine blk_drew ?_ | refine blk_alloc ?_ _)); exact BK241.out) hb); have n2_ := Aside0.mk (blk_below (g := gb242) (o := .cells #[.int .u32 a1_0, .int .i64 a1_1] 35 (0, 0)) (by (with_reducible repeat (first | refine blk_drewN ?_ _ | refine blk_drew ?_ | refine blk_alloc ?_ _)); refine blk_far ?_ NB242_241.out _; (with_reducible repeat (first | refine blk_drewN ?_ _ | refine blk_drew ?_ | refine blk_alloc ?_ _)); refine blk_far ?_ NB242_241.out _; (with_reducible repeat (first | refine blk_drewN ?_ _ | refine blk_drew ?_ | refine blk_alloc ?_ _)); exact BK242.out) hb); have n3_ := Aside0.mk (below_step (by repeat (first | (with_reducible first | exact HB.out | apply below_alloc | apply pw_below_drewN | apply below_drew1 | refine below_set ?_ GE241.out | refine below_set ?_ GE242.out) | exact HB.out)) hb); clear BK241; clear BK242; clear HB; have HO246 := n0_; have BK241 := n1_; have BK242 := n2_; have HB := n3_; clear n0_ n1_ n2_ n3_; clear hb ho31; obtain ⟨Ao32, co32, eo32⟩ := Kd.R_slice HO246.out; subst eo32) | (go_at_call 20; (with_reducible refine (filter_May.calls k _ _ y244 false _ ?side1 ?side2 A11.out).mono ?_); (case side1 => repeat (first | exact (Kd.R_reads' HO246.out).2.2 | (with_reducible refine Kd.C_alloc ?_ _) | (with_reducible refine Kd.C_drewN ?_ _) | (with_reducible refine Kd.C_drew ?_))); (case side2 => exact (Kd.R_reads' HO246.out).2.1); rintro e w33 ⟨rfl, hb⟩; have n0_ := Aside0.mk (Kd.R_below (by (with_reducible repeat (first | apply Kd.R_alloc | apply Kd.R_drewN | apply Kd.R_drew)); exact HO246.out) hb); have n1_ := Aside0.mk (blk_below (g := gb241) (o := .cells #[.bool a0_0, .int .u32 a0_1, .int .i64 a0_2, .int .i64 a0_3, .int .i64 a0_4, .int .u16 0, .int .u16 0] 42 (0, 0)) (by (with_reducible repeat (first | refine blk_drewN ?_ _ | refine blk_drew ?_ | refine blk_alloc ?_ _)); exact BK241.out) hb); have n2_ := Aside0.mk (blk_below (g := gb242) (o := .cells #[.int .u32 a1_0, .int .i64 a1_1] 35 (0, 0)) (by (with_reducible repeat (first | refine blk_drewN ?_ _ | refine blk_drew ?_ | refine blk_alloc ?_ _)); exact BK242.out) hb); have n3_ := Aside0.mk (below_step (by repeat (first | (with_reducible first | exact HB.out | apply below_alloc | apply pw_below_drewN | apply below_drew1 | refine below_set ?_ GE241.out | refine below_set ?_ GE242.out) | exact HB.out)) hb); clear HO246; clear BK241; clear BK242; clear HB; have HO246 := n0_; have BK241 := n1_; have BK242 := n2_; have HB := n3_; clear n0_ n1_ n2_ n3_; (try clear hb); (try clear hb2); (try clear hk); (try clear hi)))
        go_meet
        case rel => exact ⟨_, (true), (by first | rfl | (simp; done) | (simp [*]; done)), H', ⟨by first | omega | exact Nat.le_refl _⟩, ⟨by (with_reducible repeat (first | refine blk_drewN ?_ _ | refine blk_drew ?_ | refine blk_alloc ?_ _)); exact BK241.out⟩, ⟨by (with_reducible repeat (first | refine blk_drewN ?_ _ | refine blk_drew ?_ | refine blk_alloc ?_ _)); exact BK242.out⟩, ⟨by repeat (first | (with_reducible first | exact HB.out | apply below_alloc | apply pw_below_drewN | apply below_drew1 | refine below_set ?_ GE241.out | refine below_set ?_ GE242.out) | exact HB.out)⟩⟩
    · replace c10 := Bool.eq_false_iff.mpr c10
      subst c10
      have H1 : (octroilaw13_FilterLens.j0 k false true a0_0 a0_1 a0_2 a0_3 a0_4 0 0 a1_0 a1_1) = some r := by rw [if_neg (show ¬ (false = true) by decide)] at H; exact H
      clear H
      have H := H1
      clear H1
      have H' := Aside0.mk H
      clear H
      go_wp2
      go_meet
      case rel => exact ⟨_, (true), (by first | rfl | (simp; done) | (simp [*]; done)), H', ⟨by first | omega | exact Nat.le_refl _⟩, ⟨by (with_reducible repeat (first | refine blk_drewN ?_ _ | refine blk_drew ?_ | refine blk_alloc ?_ _)); refine blk_put (cs := #[.bool a0_0, .int .u32 a0_1, .int .i64 a0_2, .int .i64 a0_3, .int .i64 a0_4, .int .u16 0, .int .u16 a0_6]) ?_ 6 _ rfl; (with_reducible repeat (first | refine blk_drewN ?_ _ | refine blk_drew ?_ | refine blk_alloc ?_ _)); refine blk_put (cs := #[.bool a0_0, .int .u32 a0_1, .int .i64 a0_2, .int .i64 a0_3, .int .i64 a0_4, .int .u16 a0_5, .int .u16 a0_6]) ?_ 5 _ rfl; (with_reducible repeat (first | refine blk_drewN ?_ _ | refine blk_drew ?_ | refine blk_alloc ?_ _)); exact BK241.out⟩, ⟨by (with_reducible repeat (first | refine blk_drewN ?_ _ | refine blk_drew ?_ | refine blk_alloc ?_ _)); refine blk_far ?_ NB242_241.out _; (with_reducible repeat (first | refine blk_drewN ?_ _ | refine blk_drew ?_ | refine blk_alloc ?_ _)); refine blk_far ?_ NB242_241.out _; (with_reducible repeat (first | refine blk_drewN ?_ _ | refine blk_drew ?_ | refine blk_alloc ?_ _)); exact BK242.out⟩, ⟨by repeat (first | (with_reducible first | exact HB.out | apply below_alloc | apply pw_below_drewN | apply below_drew1 | refine below_set ?_ GE241.out | refine below_set ?_ GE242.out) | exact HB.out)⟩⟩
  case rest =>
    clear HC4
    try clear c1
    try clear c2
    try clear p2
    try clear c7
    try clear c8
    try clear c10
    try clear c11
    try clear c12
    try clear c13
    try clear c13b0
    try clear c14
    try clear c17
    try clear c21
    try clear c28
    try clear hcz15_0
    try clear hcz15_1
    try clear hcz15_2
    try clear hcz15_3
    try clear hcz15_4
    try clear hcz15_5
    try clear hcz15_6
    try clear hcz20_0
    try clear hcz20_1
    try clear hcz22_0
    try clear hcz22_1
    try clear hcz22_2
    try clear hcz22_3
    try clear hcz22_4
    try clear hcz22_5
    try clear hcz22_6
    try clear hcz27_0
    try clear hcz27_1
    try clear hcz29_0
    try clear hcz29_1
    try clear hcz29_2
    try clear hcz29_3
    try clear hcz29_4
    try clear hcz29_5
    try clear hcz29_6
    try clear hcz9_0
    try clear hcz9_1
    try clear hcz9_2
    try clear hcz9_3
    try clear hcz9_4
    try clear hcz9_5
    try clear hcz9_6
    try clear hfz15_0
    try clear hfz15_1
    try clear hfz15_2
    try clear hfz15_3
    try clear hfz15_4
    try clear hfz15_5
    try clear hfz15_6
    try clear hfz20_0
    try clear hfz20_1
    try clear hfz22_0
    try clear hfz22_1
    try clear hfz22_2
    try clear hfz22_3
    try clear hfz22_4
    try clear hfz22_5
    try clear hfz22_6
    try clear hfz27_0
    try clear hfz27_1
    try clear hfz29_0
    try clear hfz29_1
    try clear hfz29_2
    try clear hfz29_3
    try clear hfz29_4
    try clear hfz29_5
    try clear hfz29_6
    try clear hfz9_0
    try clear hfz9_1
    try clear hfz9_2
    try clear hfz9_3
    try clear hfz9_4
    try clear hfz9_5
    try clear hfz9_6
    obtain ⟨kq, x31_3, rfl, HA, HJ3, BK241, BK242, HB⟩ := hcut
    cases kq with
    | zero => exact absurd HA.out (by simp [octroilaw13_FilterLens.j0])
    | succ kj3 =>
      have H := HA.out
      clear HA
      simp only [octroilaw13_FilterLens.j0] at H
      by_cases c34 : x31_3 = true
      · subst c34
        have H1 : (some t243) = some r := by rw [if_pos rfl] at H; exact H
        clear H
        have H := H1
        clear H1
        obtain rfl := Option.some.inj H
        go_wp2
        go_ret
        exact ⟨by first | rfl | (simp [errW_none, errW_some] <;> rfl) | (simp [*, errW_none, errW_some] <;> rfl), by repeat (first | (with_reducible first | exact HB.out | apply below_alloc | apply pw_below_drewN | apply below_drew1 | refine below_set ?_ GE241.out | refine below_set ?_ GE242.out) | exact HB.out)⟩
      · replace c34 := Bool.eq_false_iff.mpr c34
        subst c34
        have H1 : ((filter_Permits.f kj3 (([(⟨a0_0, (⟨a0_1, a0_2⟩ : S35), a0_3, a0_4, 0, 0⟩ : S42)] : List (S42))) a1_0 a1_1 65535).bind fun bt251 => (if a1_1 ≥ a0_3 then (octroilaw13_FilterLens.j1 kj3 bt251.2 (decide (a1_1 ≤ a0_4)) a0_0 a0_1 a0_2 a0_3 a0_4 0 0 a1_0 a1_1) else (octroilaw13_FilterLens.j1 kj3 bt251.2 false a0_0 a0_1 a0_2 a0_3 a0_4 0 0 a1_0 a1_1))) = some r := by rw [if_neg (show ¬ (false = true) by decide)] at H; exact H
        clear H
        have H := H1
        clear H1
        obtain ⟨y248, hy248⟩ : ∃ y_ : List (S42), y_ = (([(⟨a0_0, (⟨a0_1, a0_2⟩ : S35), a0_3, a0_4, 0, 0⟩ : S42)] : List (S42))) := ⟨_, rfl⟩
        replace H : ((filter_Permits.f kj3 y248 a1_0 a1_1 65535).bind fun bt251 => (if a1_1 ≥ a0_3 then (octroilaw13_FilterLens.j1 kj3 bt251.2 (decide (a1_1 ≤ a0_4)) a0_0 a0_1 a0_2 a0_3 a0_4 0 0 a1_0 a1_1) else (octroilaw13_FilterLens.j1 kj3 bt251.2 false a0_0 a0_1 a0_2 a0_3 a0_4 0 0 a1_0 a1_1))) = some r := by first | (rw [hy248]; with_reducible exact H) | (have H2_ := (Option.bind_some _ _).symm.trans H; rw [hy248]; with_reducible exact H2_) | (have H2_ := (Option.bind_some _ _).symm.trans H; with_reducible exact H2_) | with_reducible exact H | (rw [hy248]; exact H) | exact H
        have Ny248 := Aside0.mk hy248
        clear hy248
        replace H := Option.bind_eq_some_iff.mp H
        obtain ⟨⟨t251, t252⟩, A350, H⟩ := H
        replace H : (if a1_1 ≥ a0_3 then (octroilaw13_FilterLens.j1 kj3 t252 (decide (a1_1 ≤ a0_4)) a0_0 a0_1 a0_2 a0_3 a0_4 0 0 a1_0 a1_1) else (octroilaw13_FilterLens.j1 kj3 t252 false a0_0 a0_1 a0_2 a0_3 a0_4 0 0 a1_0 a1_1)) = some r := H
        have A35 := Aside0.mk A350
        clear A350
        have HC36 := Aside0.mk H
        clear H
        have hnb37 := NB241_242.out
        have hnc37 := NB242_241.out
        have hcz38_0 : wc.cell? ⟨gb241, 0, none⟩ = some (.bool a0_0) := (blk_cell BK241.out 0).trans rfl
        have hcz38_1 : wc.cell? ⟨gb241, 1, none⟩ = some (.int .u32 a0_1) := (blk_cell BK241.out 1).trans rfl
        have hcz38_2 : wc.cell? ⟨gb241, 2, none⟩ = some (.int .i64 a0_2) := (blk_cell BK241.out 2).trans rfl
        have hcz38_3 : wc.cell? ⟨gb241, 3, none⟩ = some (.int .i64 a0_3) := (blk_cell BK241.out 3).trans rfl
        have hcz38_4 : wc.cell? ⟨gb241, 4, none⟩ = some (.int .i64 a0_4) := (blk_cell BK241.out 4).trans rfl
        have hcz38_5 : wc.cell? ⟨gb241, 5, none⟩ = some (.int .u16 0) := (blk_cell BK241.out 5).trans rfl
        have hcz38_6 : wc.cell? ⟨gb241, 6, none⟩ = some (.int .u16 0) := (blk_cell BK241.out 6).trans rfl
        have hfz38_0 := blk_frozen BK241.out 0
        have hfz38_1 := blk_frozen BK241.out 1
        have hfz38_2 := blk_frozen BK241.out 2
        have hfz38_3 := blk_frozen BK241.out 3
        have hfz38_4 := blk_frozen BK241.out 4
        have hfz38_5 := blk_frozen BK241.out 5
        have hfz38_6 := blk_frozen BK241.out 6
        go_upto_region 7 with (first | ((with_reducible refine gate_dst (N := 35) rfl ?_); (try (refine gate_guard (by rfl) ?_; dsimp only)); refine Kd.R_lit k42 _ 42 ?hg (N := 35) ?hd (xs := ([(⟨a0_0, (⟨a0_1, a0_2⟩ : S35), a0_3, a0_4, 0, 0⟩ : S42)] : List (S42))) (inner := [.bool a0_0, .int .u32 a0_1, .int .i64 a0_2, .int .i64 a0_3, .int .i64 a0_4, .int .u16 0, .int .u16 0]) (ok := fun _ => True) (okp := fun _ => True) ?hr ?hp (fun _ hk => hk) trivial (Below.refl _ _) (Nat.le_refl _) (by simp) ?_; (case hd => rfl); (case hg => rfl); (case hr => first | (go_simp; done) | (go_simp; rfl)); (case hp => exact (Reps.c7 (show Kd.M k42 _ _ _ (⟨a0_0, (⟨a0_1, a0_2⟩ : S35), a0_3, a0_4, 0, 0⟩ : S42) [.bool a0_0, .int .u32 a0_1, .int .i64 a0_2, .int .i64 a0_3, .int .i64 a0_4, .int .u16 0, .int .u16 0] from (k42_mkM _ _ _ (⟨a0_0, (⟨a0_1, a0_2⟩ : S35), a0_3, a0_4, 0, 0⟩ : S42) )) (Reps.none _ _))); intro v249 w39 ho40 hb hg_ hnew_; clear hg_ hnew_; (first | rw [← Ny248.out] at ho40 | (simp only [Int.reduceToNat] at ho40; rw [← Ny248.out] at ho40)); have n0_ := Aside0.mk (Kd.R_lower (Kd.R_newB ho40 (g := gb241) (o := .cells #[.bool a0_0, .int .u32 a0_1, .int .i64 a0_2, .int .i64 a0_3, .int .i64 a0_4, .int .u16 0, .int .u16 0] 42 (0, 0)) (by (with_reducible repeat (first | refine blk_drewN ?_ _ | refine blk_drew ?_ | refine blk_alloc ?_ _)); exact BK241.out)) (below_size (by repeat (first | (with_reducible first | exact HB.out | apply below_alloc | apply pw_below_drewN | apply below_drew1 | refine below_set ?_ GE241.out | refine below_set ?_ GE242.out) | exact HB.out)))); have n1_ := Aside0.mk (blk_below (g := gb241) (o := .cells #[.bool a0_0, .int .u32 a0_1, .int .i64 a0_2, .int .i64 a0_3, .int .i64 a0_4, .int .u16 0, .int .u16 0] 42 (0, 0)) (by (with_reducible repeat (first | refine blk_drewN ?_ _ | refine blk_drew ?_ | refine blk_alloc ?_ _)); exact BK241.out) hb); have n2_ := Aside0.mk (blk_below (g := gb242) (o := .cells #[.int .u32 a1_0, .int .i64 a1_1] 35 (0, 0)) (by (with_reducible repeat (first | refine blk_drewN ?_ _ | refine blk_drew ?_ | refine blk_alloc ?_ _)); exact BK242.out) hb); have n3_ := Aside0.mk (below_step (by repeat (first | (with_reducible first | exact HB.out | apply below_alloc | apply pw_below_drewN | apply below_drew1 | refine below_set ?_ GE241.out | refine below_set ?_ GE242.out) | exact HB.out)) hb); clear BK241; clear BK242; clear HB; have HO250 := n0_; have BK241 := n1_; have BK242 := n2_; have HB := n3_; clear n0_ n1_ n2_ n3_; clear hb ho40; have hcz41_0 : w39.cell? ⟨gb242, 0, none⟩ = some (.int .u32 a1_0) := (blk_cell BK242.out 0).trans rfl; have hcz41_1 : w39.cell? ⟨gb242, 1, none⟩ = some (.int .i64 a1_1) := (blk_cell BK242.out 1).trans rfl; have hfz41_0 := blk_frozen BK242.out 0; have hfz41_1 := blk_frozen BK242.out 1; obtain ⟨Ao42, co42, eo42⟩ := Kd.R_slice HO250.out; subst eo42) | ((with_reducible refine gate_callee (f := 18) rfl ?_); refine goesL_ (some 37) rfl rfl Try.func18 (by kernel_rfl) rfl #[.slice Ao42 y248.length co42, .agg #[.int .u32 a1_0, .int .i64 a1_1], .int .u16 65535] rfl (by (try simp only [List.map_toArray, List.map_cons, List.map_nil]); first | done | rfl | (simp only [List.length_drop, List.length_take]; rfl)) ?_; (with_reducible refine (filter_Permits.calls kj3 _ _ y248 a1_0 a1_1 65535 t251 t252 _ ?side1 ?side2 A35.out).mono ?_); (case side1 => repeat (first | exact (Kd.R_reads' HO250.out).2.2 | (with_reducible refine Kd.C_alloc ?_ _) | (with_reducible refine Kd.C_drewN ?_ _) | (with_reducible refine Kd.C_drew ?_))); (case side2 => exact (Kd.R_reads' HO250.out).2.1); rintro e w43 ⟨rfl, hb⟩; refine ⟨_, rfl, ?_⟩; have n0_ := Aside0.mk (Kd.R_below (by (with_reducible repeat (first | apply Kd.R_alloc | apply Kd.R_drewN | apply Kd.R_drew)); exact HO250.out) hb); have n1_ := Aside0.mk (blk_below (g := gb241) (o := .cells #[.bool a0_0, .int .u32 a0_1, .int .i64 a0_2, .int .i64 a0_3, .int .i64 a0_4, .int .u16 0, .int .u16 0] 42 (0, 0)) (by (with_reducible repeat (first | refine blk_drewN ?_ _ | refine blk_drew ?_ | refine blk_alloc ?_ _)); exact BK241.out) hb); have n2_ := Aside0.mk (blk_below (g := gb242) (o := .cells #[.int .u32 a1_0, .int .i64 a1_1] 35 (0, 0)) (by (with_reducible repeat (first | refine blk_drewN ?_ _ | refine blk_drew ?_ | refine blk_alloc ?_ _)); exact BK242.out) hb); have n3_ := Aside0.mk (below_step (by repeat (first | (with_reducible first | exact HB.out | apply below_alloc | apply pw_below_drewN | apply below_drew1 | refine below_set ?_ GE241.out | refine below_set ?_ GE242.out) | exact HB.out)) hb); clear HO250; clear BK241; clear BK242; clear HB; have HO250 := n0_; have BK241 := n1_; have BK242 := n2_; have HB := n3_; clear n0_ n1_ n2_ n3_; (try clear hb); (try clear hb2); (try clear hk); (try clear hi)))
        (try simp only [Act.put, List.setIfInBounds_toArray, List.set_cons_zero, List.set_cons_succ])
        go_cut [8] (fun v8 wc => ∃ (kq : Nat) (x8_35 : Bool), v8 = .bool x8_35 ∧ Aside0 (octroilaw13_FilterLens.j1 kq t252 x8_35 a0_0 a0_1 a0_2 a0_3 a0_4 0 0 a1_0 a1_1 = some r) ∧ Aside0 (kq ≤ kj3) ∧ Aside0 (wc.heap[gb241]? = some (.cells #[.bool a0_0, .int .u32 a0_1, .int .i64 a0_2, .int .i64 a0_3, .int .i64 a0_4, .int .u16 0, .int .u16 0] 42 (0, 0))) ∧ Aside0 (wc.heap[gb242]? = some (.cells #[.int .u32 a1_0, .int .i64 a1_1] 35 (0, 0))) ∧ Aside0 (Below w.heap.size w wc))
        case first =>
          have H := HC36.out
          clear HC36
          by_cases c44 : a1_1 ≥ a0_3
          · rw [if_pos c44] at H
            have c44b0 : decide (a0_3 ≤ a1_1) = true := decide_eq_true c44
            clear c44
            (first | rw [c44b0] | (simp only [i64_w, i32_w]; rw [c44b0]) | skip)
            have H' := Aside0.mk H
            clear H
            have hnb45 := NB242_241.out
            have hnc45 := NB241_242.out
            have hcz46_0 : w43.cell? ⟨gb242, 0, none⟩ = some (.int .u32 a1_0) := (blk_cell BK242.out 0).trans rfl
            have hcz46_1 : w43.cell? ⟨gb242, 1, none⟩ = some (.int .i64 a1_1) := (blk_cell BK242.out 1).trans rfl
            have hfz46_0 := blk_frozen BK242.out 0
            have hfz46_1 := blk_frozen BK242.out 1
            have hcz47_0 : w43.cell? ⟨gb241, 0, none⟩ = some (.bool a0_0) := (blk_cell BK241.out 0).trans rfl
            have hcz47_1 : w43.cell? ⟨gb241, 1, none⟩ = some (.int .u32 a0_1) := (blk_cell BK241.out 1).trans rfl
            have hcz47_2 : w43.cell? ⟨gb241, 2, none⟩ = some (.int .i64 a0_2) := (blk_cell BK241.out 2).trans rfl
            have hcz47_3 : w43.cell? ⟨gb241, 3, none⟩ = some (.int .i64 a0_3) := (blk_cell BK241.out 3).trans rfl
            have hcz47_4 : w43.cell? ⟨gb241, 4, none⟩ = some (.int .i64 a0_4) := (blk_cell BK241.out 4).trans rfl
            have hcz47_5 : w43.cell? ⟨gb241, 5, none⟩ = some (.int .u16 0) := (blk_cell BK241.out 5).trans rfl
            have hcz47_6 : w43.cell? ⟨gb241, 6, none⟩ = some (.int .u16 0) := (blk_cell BK241.out 6).trans rfl
            have hfz47_0 := blk_frozen BK241.out 0
            have hfz47_1 := blk_frozen BK241.out 1
            have hfz47_2 := blk_frozen BK241.out 2
            have hfz47_3 := blk_frozen BK241.out 3
            have hfz47_4 := blk_frozen BK241.out 4
            have hfz47_5 := blk_frozen BK241.out 5
            have hfz47_6 := blk_frozen BK241.out 6
            go_wp2
            go_meet
            case rel => exact ⟨_, (decide (a1_1 ≤ a0_4)), (by first | rfl | (simp; done) | (simp [*]; done)), H', ⟨by have := HJ3.out; first | omega | exact Nat.le_refl _⟩, ⟨by (with_reducible repeat (first | refine blk_drewN ?_ _ | refine blk_drew ?_ | refine blk_alloc ?_ _)); exact BK241.out⟩, ⟨by (with_reducible repeat (first | refine blk_drewN ?_ _ | refine blk_drew ?_ | refine blk_alloc ?_ _)); exact BK242.out⟩, ⟨by repeat (first | (with_reducible first | exact HB.out | apply below_alloc | apply pw_below_drewN | apply below_drew1 | refine below_set ?_ GE241.out | refine below_set ?_ GE242.out) | exact HB.out)⟩⟩
          · rw [if_neg c44] at H
            have c44b0 : decide (a0_3 ≤ a1_1) = false := decide_eq_false c44
            clear c44
            (first | rw [c44b0] | (simp only [i64_w, i32_w]; rw [c44b0]) | skip)
            have H' := Aside0.mk H
            clear H
            have hnb48 := NB242_241.out
            have hnc48 := NB241_242.out
            have hcz49_0 : w43.cell? ⟨gb242, 0, none⟩ = some (.int .u32 a1_0) := (blk_cell BK242.out 0).trans rfl
            have hcz49_1 : w43.cell? ⟨gb242, 1, none⟩ = some (.int .i64 a1_1) := (blk_cell BK242.out 1).trans rfl
            have hfz49_0 := blk_frozen BK242.out 0
            have hfz49_1 := blk_frozen BK242.out 1
            have hcz50_0 : w43.cell? ⟨gb241, 0, none⟩ = some (.bool a0_0) := (blk_cell BK241.out 0).trans rfl
            have hcz50_1 : w43.cell? ⟨gb241, 1, none⟩ = some (.int .u32 a0_1) := (blk_cell BK241.out 1).trans rfl
            have hcz50_2 : w43.cell? ⟨gb241, 2, none⟩ = some (.int .i64 a0_2) := (blk_cell BK241.out 2).trans rfl
            have hcz50_3 : w43.cell? ⟨gb241, 3, none⟩ = some (.int .i64 a0_3) := (blk_cell BK241.out 3).trans rfl
            have hcz50_4 : w43.cell? ⟨gb241, 4, none⟩ = some (.int .i64 a0_4) := (blk_cell BK241.out 4).trans rfl
            have hcz50_5 : w43.cell? ⟨gb241, 5, none⟩ = some (.int .u16 0) := (blk_cell BK241.out 5).trans rfl
            have hcz50_6 : w43.cell? ⟨gb241, 6, none⟩ = some (.int .u16 0) := (blk_cell BK241.out 6).trans rfl
            have hfz50_0 := blk_frozen BK241.out 0
            have hfz50_1 := blk_frozen BK241.out 1
            have hfz50_2 := blk_frozen BK241.out 2
            have hfz50_3 := blk_frozen BK241.out 3
            have hfz50_4 := blk_frozen BK241.out 4
            have hfz50_5 := blk_frozen BK241.out 5
            have hfz50_6 := blk_frozen BK241.out 6
            go_wp2
            go_meet
            case rel => exact ⟨_, (false), (by first | rfl | (simp; done) | (simp [*]; done)), H', ⟨by have := HJ3.out; first | omega | exact Nat.le_refl _⟩, ⟨by (with_reducible repeat (first | refine blk_drewN ?_ _ | refine blk_drew ?_ | refine blk_alloc ?_ _)); exact BK241.out⟩, ⟨by (with_reducible repeat (first | refine blk_drewN ?_ _ | refine blk_drew ?_ | refine blk_alloc ?_ _)); exact BK242.out⟩, ⟨by repeat (first | (with_reducible first | exact HB.out | apply below_alloc | apply pw_below_drewN | apply below_drew1 | refine below_set ?_ GE241.out | refine below_set ?_ GE242.out) | exact HB.out)⟩⟩
        case rest =>
          clear HC36
          try clear c1
          try clear c2
          try clear p2
          try clear c3
          try clear c4
          try clear c7
          try clear c8
          try clear c10
          try clear c11
          try clear c12
          try clear c13
          try clear c13b0
          try clear c14
          try clear c17
          try clear c18
          try clear c21
          try clear c28
          try clear c34
          try clear c37
          try clear c44
          try clear c44b0
          try clear c45
          try clear c48
          try clear hcz15_0
          try clear hcz15_1
          try clear hcz15_2
          try clear hcz15_3
          try clear hcz15_4
          try clear hcz15_5
          try clear hcz15_6
          try clear hcz20_0
          try clear hcz20_1
          try clear hcz22_0
          try clear hcz22_1
          try clear hcz22_2
          try clear hcz22_3
          try clear hcz22_4
          try clear hcz22_5
          try clear hcz22_6
          try clear hcz27_0
          try clear hcz27_1
          try clear hcz29_0
          try clear hcz29_1
          try clear hcz29_2
          try clear hcz29_3
          try clear hcz29_4
          try clear hcz29_5
          try clear hcz29_6
          try clear hcz38_0
          try clear hcz38_1
          try clear hcz38_2
          try clear hcz38_3
          try clear hcz38_4
          try clear hcz38_5
          try clear hcz38_6
          try clear hcz41_0
          try clear hcz41_1
          try clear hcz46_0
          try clear hcz46_1
          try clear hcz47_0
          try clear hcz47_1
          try clear hcz47_2
          try clear hcz47_3
          try clear hcz47_4
          try clear hcz47_5
          try clear hcz47_6
          try clear hcz49_0
          try clear hcz49_1
          try clear hcz50_0
          try clear hcz50_1
          try clear hcz50_2
          try clear hcz50_3
          try clear hcz50_4
          try clear hcz50_5
          try clear hcz50_6
          try clear hcz9_0
          try clear hcz9_1
          try clear hcz9_2
          try clear hcz9_3
          try clear hcz9_4
          try clear hcz9_5
          try clear hcz9_6
          try clear hfz15_0
          try clear hfz15_1
          try clear hfz15_2
          try clear hfz15_3
          try clear hfz15_4
          try clear hfz15_5
          try clear hfz15_6
          try clear hfz20_0
          try clear hfz20_1
          try clear hfz22_0
          try clear hfz22_1
          try clear hfz22_2
          try clear hfz22_3
          try clear hfz22_4
          try clear hfz22_5
          try clear hfz22_6
          try clear hfz27_0
          try clear hfz27_1
          try clear hfz29_0
          try clear hfz29_1
          try clear hfz29_2
          try clear hfz29_3
          try clear hfz29_4
          try clear hfz29_5
          try clear hfz29_6
          try clear hfz38_0
          try clear hfz38_1
          try clear hfz38_2
          try clear hfz38_3
          try clear hfz38_4
          try clear hfz38_5
          try clear hfz38_6
          try clear hfz41_0
          try clear hfz41_1
          try clear hfz46_0
          try clear hfz46_1
          try clear hfz47_0
          try clear hfz47_1
          try clear hfz47_2
          try clear hfz47_3
          try clear hfz47_4
          try clear hfz47_5
          try clear hfz47_6
          try clear hfz49_0
          try clear hfz49_1
          try clear hfz50_0
          try clear hfz50_1
          try clear hfz50_2
          try clear hfz50_3
          try clear hfz50_4
          try clear hfz50_5
          try clear hfz50_6
          try clear hfz9_0
          try clear hfz9_1
          try clear hfz9_2
          try clear hfz9_3
          try clear hfz9_4
          try clear hfz9_5
          try clear hfz9_6
          try clear p2
          obtain ⟨kq, x8_35, rfl, HA, HJ35, BK241, BK242, HB⟩ := hcut
          cases kq with
          | zero => exact absurd HA.out (by simp [octroilaw13_FilterLens.j1])
          | succ kj35 =>
            have H := HA.out
            clear HA
            simp only [octroilaw13_FilterLens.j1] at H
            have H' := Aside0.mk H
            clear H
            go_wp2
            go_loopg [8, 9] kj35 (fun kq v8 v9 w' => ∃ (x8_3 : Bool) (x9_3 : Int), v8 = .bool x8_3 ∧ v9 = .int .i64 x9_3 ∧ Aside0 (octroilaw13_FilterLens.l0 kq t252 x8_3 x9_3 a0_0 a0_1 a0_2 a0_3 a0_4 0 0 a1_0 a1_1 = some r) ∧ Aside0 (kq ≤ kj35) ∧ Aside0 (w'.heap[gb241]? = some (.cells #[.bool a0_0, .int .u32 a0_1, .int .i64 a0_2, .int .i64 a0_3, .int .i64 a0_4, .int .u16 0, .int .u16 0] 42 (0, 0))) ∧ Aside0 (w'.heap[gb242]? = some (.cells #[.int .u32 a1_0, .int .i64 a1_1] 35 (0, 0))) ∧ Aside0 (Below w.heap.size w w'))
            case atStart => exact ⟨(x8_35), (0), (by first | rfl | (simp; done) | (simp [*]; done)), (by first | rfl | (simp; done) | (simp [*]; done)), H', ⟨Nat.le_refl _⟩, ⟨by (with_reducible repeat (first | refine blk_drewN ?_ _ | refine blk_drew ?_ | refine blk_alloc ?_ _)); exact BK241.out⟩, ⟨by (with_reducible repeat (first | refine blk_drewN ?_ _ | refine blk_drew ?_ | refine blk_alloc ?_ _)); exact BK242.out⟩, ⟨by repeat (first | (with_reducible first | exact HB.out | apply below_alloc | apply pw_below_drewN | apply below_drew1 | refine below_set ?_ GE241.out | refine below_set ?_ GE242.out) | exact HB.out)⟩⟩
            case round =>
              clear H'
              try clear c1
              try clear c2
              try clear p2
              try clear c3
              try clear c4
              try clear c7
              try clear c8
              try clear c10
              try clear c11
              try clear c12
              try clear c13
              try clear c13b0
              try clear c14
              try clear c17
              try clear c18
              try clear c21
              try clear c28
              try clear c34
              try clear c37
              try clear c44
              try clear c44b0
              try clear c45
              try clear c48
              try clear hcz15_0
              try clear hcz15_1
              try clear hcz15_2
              try clear hcz15_3
              try clear hcz15_4
              try clear hcz15_5
              try clear hcz15_6
              try clear hcz20_0
              try clear hcz20_1
              try clear hcz22_0
              try clear hcz22_1
              try clear hcz22_2
              try clear hcz22_3
              try clear hcz22_4
              try clear hcz22_5
              try clear hcz22_6
              try clear hcz27_0
              try clear hcz27_1
              try clear hcz29_0
              try clear hcz29_1
              try clear hcz29_2
              try clear hcz29_3
              try clear hcz29_4
              try clear hcz29_5
              try clear hcz29_6
              try clear hcz38_0
              try clear hcz38_1
              try clear hcz38_2
              try clear hcz38_3
              try clear hcz38_4
              try clear hcz38_5
              try clear hcz38_6
              try clear hcz41_0
              try clear hcz41_1
              try clear hcz46_0
              try clear hcz46_1
              try clear hcz47_0
              try clear hcz47_1
              try clear hcz47_2
              try clear hcz47_3
              try clear hcz47_4
              try clear hcz47_5
              try clear hcz47_6
              try clear hcz49_0
              try clear hcz49_1
              try clear hcz50_0
              try clear hcz50_1
              try clear hcz50_2
              try clear hcz50_3
              try clear hcz50_4
              try clear hcz50_5
              try clear hcz50_6
              try clear hcz9_0
              try clear hcz9_1
              try clear hcz9_2
              try clear hcz9_3
              try clear hcz9_4
              try clear hcz9_5
              try clear hcz9_6
              try clear hfz15_0
              try clear hfz15_1
              try clear hfz15_2
              try clear hfz15_3
              try clear hfz15_4
              try clear hfz15_5
              try clear hfz15_6
              try clear hfz20_0
              try clear hfz20_1
              try clear hfz22_0
              try clear hfz22_1
              try clear hfz22_2
              try clear hfz22_3
              try clear hfz22_4
              try clear hfz22_5
              try clear hfz22_6
              try clear hfz27_0
              try clear hfz27_1
              try clear hfz29_0
              try clear hfz29_1
              try clear hfz29_2
              try clear hfz29_3
              try clear hfz29_4
              try clear hfz29_5
              try clear hfz29_6
              try clear hfz38_0
              try clear hfz38_1
              try clear hfz38_2
              try clear hfz38_3
              try clear hfz38_4
              try clear hfz38_5
              try clear hfz38_6
              try clear hfz41_0
              try clear hfz41_1
              try clear hfz46_0
              try clear hfz46_1
              try clear hfz47_0
              try clear hfz47_1
              try clear hfz47_2
              try clear hfz47_3
              try clear hfz47_4
              try clear hfz47_5
              try clear hfz47_6
              try clear hfz49_0
              try clear hfz49_1
              try clear hfz50_0
              try clear hfz50_1
              try clear hfz50_2
              try clear hfz50_3
              try clear hfz50_4
              try clear hfz50_5
              try clear hfz50_6
              try clear hfz9_0
              try clear hfz9_1
              try clear hfz9_2
              try clear hfz9_3
              try clear hfz9_4
              try clear hfz9_5
              try clear hfz9_6
              try clear p2
              obtain ⟨x8_3, x9_3, rfl, rfl, HA, HK3, BK241, BK242, HB⟩ := hrel
              cases gk with
              | zero => exact absurd HA.out (by simp [octroilaw13_FilterLens.l0])
              | succ k3 =>
                have H := HA.out
                clear HA
                simp only [octroilaw13_FilterLens.l0] at H
                by_cases c51 : x9_3 < 32
                · rw [if_pos c51] at H
                  have c51b0 : decide (x9_3 < 32) = true := decide_eq_true c51
                  clear c51
                  obtain ⟨ji52, hji52⟩ : ∃ j_ : Int, (IntKind.u64.wrap (wrap64 (31 - x9_3))) = j_ := ⟨_, rfl⟩
                  replace H : (if 0 ≤ (ji52) then (if x9_3 < a0_2 then (if (Go.bits .and .u32 a1_0 (shl .u32 1 (ji52))) = (Go.bits .and .u32 a0_1 (shl .u32 1 (ji52))) then (if x9_3 ≥ a1_1 then (if (Go.bits .and .u32 a1_0 (shl .u32 1 (ji52))) = 0 then (octroilaw13_FilterLens.l0 k3 t252 x8_3 (wrap64 (x9_3 + 1)) a0_0 a0_1 a0_2 a0_3 a0_4 0 0 a1_0 a1_1) else (octroilaw13_FilterLens.l0 k3 t252 false (wrap64 (x9_3 + 1)) a0_0 a0_1 a0_2 a0_3 a0_4 0 0 a1_0 a1_1)) else (octroilaw13_FilterLens.l0 k3 t252 x8_3 (wrap64 (x9_3 + 1)) a0_0 a0_1 a0_2 a0_3 a0_4 0 0 a1_0 a1_1)) else (octroilaw13_FilterLens.l0 k3 t252 false (wrap64 (x9_3 + 1)) a0_0 a0_1 a0_2 a0_3 a0_4 0 0 a1_0 a1_1)) else (if x9_3 ≥ a1_1 then (if (Go.bits .and .u32 a1_0 (shl .u32 1 (ji52))) = 0 then (octroilaw13_FilterLens.l0 k3 t252 x8_3 (wrap64 (x9_3 + 1)) a0_0 a0_1 a0_2 a0_3 a0_4 0 0 a1_0 a1_1) else (octroilaw13_FilterLens.l0 k3 t252 false (wrap64 (x9_3 + 1)) a0_0 a0_1 a0_2 a0_3 a0_4 0 0 a1_0 a1_1)) else (octroilaw13_FilterLens.l0 k3 t252 x8_3 (wrap64 (x9_3 + 1)) a0_0 a0_1 a0_2 a0_3 a0_4 0 0 a1_0 a1_1))) else (none)) = some r := by first | (rw [hji52] at H; exact H) | (simp only [hji52] at H ⊢; exact H)
                  by_cases c53 : 0 ≤ (ji52)
                  · rw [if_pos c53] at H
                    have c53b0 := eq_true c53
                    have c53b1 : decide (0 ≤ (ji52)) = true := decide_eq_true c53
                    clear c53
                    obtain ⟨ji54, hji54⟩ : ∃ j_ : Int, (shl .u32 1 (ji52)) = j_ := ⟨_, rfl⟩
                    replace H : (if x9_3 < a0_2 then (if (Go.bits .and .u32 a1_0 (ji54)) = (Go.bits .and .u32 a0_1 (ji54)) then (if x9_3 ≥ a1_1 then (if (Go.bits .and .u32 a1_0 (ji54)) = 0 then (octroilaw13_FilterLens.l0 k3 t252 x8_3 (wrap64 (x9_3 + 1)) a0_0 a0_1 a0_2 a0_3 a0_4 0 0 a1_0 a1_1) else (octroilaw13_FilterLens.l0 k3 t252 false (wrap64 (x9_3 + 1)) a0_0 a0_1 a0_2 a0_3 a0_4 0 0 a1_0 a1_1)) else (octroilaw13_FilterLens.l0 k3 t252 x8_3 (wrap64 (x9_3 + 1)) a0_0 a0_1 a0_2 a0_3 a0_4 0 0 a1_0 a1_1)) else (octroilaw13_FilterLens.l0 k3 t252 false (wrap64 (x9_3 + 1)) a0_0 a0_1 a0_2 a0_3 a0_4 0 0 a1_0 a1_1)) else (if x9_3 ≥ a1_1 then (if (Go.bits .and .u32 a1_0 (ji54)) = 0 then (octroilaw13_FilterLens.l0 k3 t252 x8_3 (wrap64 (x9_3 + 1)) a0_0 a0_1 a0_2 a0_3 a0_4 0 0 a1_0 a1_1) else (octroilaw13_FilterLens.l0 k3 t252 false (wrap64 (x9_3 + 1)) a0_0 a0_1 a0_2 a0_3 a0_4 0 0 a1_0 a1_1)) else (octroilaw13_FilterLens.l0 k3 t252 x8_3 (wrap64 (x9_3 + 1)) a0_0 a0_1 a0_2 a0_3 a0_4 0 0 a1_0 a1_1))) = some r := by first | (rw [hji54] at H; exact H) | (simp only [hji54] at H ⊢; exact H)
                    have hji54_ : (IntKind.u32.wrap (1 * 2 ^ min (ji52).toNat 32)) = ji54 := hji54
                    have hji54z : (ji52) ≤ 32 → (IntKind.u32.wrap (1 * 2 ^ (ji52).toNat)) = ji54 := shl_small hji54
                    have hji54u : (IntKind.u32.wrap (2 ^ min (ji52).toNat 32)) = ji54 := by have h_ := hji54_; rw [Int.one_mul] at h_; exact h_
                    have hji54v : (ji52) ≤ 32 → (IntKind.u32.wrap (2 ^ (ji52).toNat)) = ji54 := fun hle_ => by have h_ := hji54z hle_; rw [Int.one_mul] at h_; exact h_
                    by_cases c55 : x9_3 < a0_2
                    · rw [if_pos c55] at H
                      have c55b0 : decide (x9_3 < a0_2) = true := decide_eq_true c55
                      clear c55
                      by_cases c56 : (Go.bits .and .u32 a1_0 (ji54)) = (Go.bits .and .u32 a0_1 (ji54))
                      · rw [if_pos c56] at H
                        have c56b0 : ((Go.bits .and .u32 a1_0 (ji54)) == (Go.bits .and .u32 a0_1 (ji54))) = true := beq_iff_eq.mpr c56
                        have c56b1 : ((Go.bits .and .u32 a1_0 (ji54)) != (Go.bits .and .u32 a0_1 (ji54))) = false := bne_eq_false_iff_eq.mpr c56
                        clear c56
                        by_cases c57 : x9_3 ≥ a1_1
                        · rw [if_pos c57] at H
                          have c57b0 : decide (a1_1 ≤ x9_3) = true := decide_eq_true c57
                          clear c57
                          by_cases c58 : (Go.bits .and .u32 a1_0 (ji54)) = 0
                          · rw [if_pos c58] at H
                            have c58b0 : ((Go.bits .and .u32 a1_0 (ji54)) == 0) = true := beq_iff_eq.mpr c58
                            have c58b1 : ((Go.bits .and .u32 a1_0 (ji54)) != 0) = false := bne_eq_false_iff_eq.mpr c58
                            clear c58
                            have H' := Aside0.mk H
                            clear H
                            have hnb59 := NB241_242.out
                            have hnc59 := NB242_241.out
                            have hcz60_0 : wr.cell? ⟨gb241, 0, none⟩ = some (.bool a0_0) := (blk_cell BK241.out 0).trans rfl
                            have hcz60_1 : wr.cell? ⟨gb241, 1, none⟩ = some (.int .u32 a0_1) := (blk_cell BK241.out 1).trans rfl
                            have hcz60_2 : wr.cell? ⟨gb241, 2, none⟩ = some (.int .i64 a0_2) := (blk_cell BK241.out 2).trans rfl
                            have hcz60_3 : wr.cell? ⟨gb241, 3, none⟩ = some (.int .i64 a0_3) := (blk_cell BK241.out 3).trans rfl
                            have hcz60_4 : wr.cell? ⟨gb241, 4, none⟩ = some (.int .i64 a0_4) := (blk_cell BK241.out 4).trans rfl
                            have hcz60_5 : wr.cell? ⟨gb241, 5, none⟩ = some (.int .u16 0) := (blk_cell BK241.out 5).trans rfl
                            have hcz60_6 : wr.cell? ⟨gb241, 6, none⟩ = some (.int .u16 0) := (blk_cell BK241.out 6).trans rfl
                            have hfz60_0 := blk_frozen BK241.out 0
                            have hfz60_1 := blk_frozen BK241.out 1
                            have hfz60_2 := blk_frozen BK241.out 2
                            have hfz60_3 := blk_frozen BK241.out 3
                            have hfz60_4 := blk_frozen BK241.out 4
                            have hfz60_5 := blk_frozen BK241.out 5
                            have hfz60_6 := blk_frozen BK241.out 6
                            have hcz61_0 : wr.cell? ⟨gb242, 0, none⟩ = some (.int .u32 a1_0) := (blk_cell BK242.out 0).trans rfl
                            have hcz61_1 : wr.cell? ⟨gb242, 1, none⟩ = some (.int .i64 a1_1) := (blk_cell BK242.out 1).trans rfl
                            have hfz61_0 := blk_frozen BK242.out 0
                            have hfz61_1 := blk_frozen BK242.out 1
                            go_wp2
                            go_roundg k3
                            case measure => have := HJ3.out; have := HJ35.out; have := HK3.out; omega
                            case rel => exact ⟨(x8_3), (wrap64 (x9_3 + 1)), (by first | rfl | (simp; done) | (simp [*]; done)), (by first | rfl | (simp; done) | (simp [*]; done)), H', ⟨by have := HJ3.out; have := HJ35.out; have := HK3.out; omega⟩, ⟨by (with_reducible repeat (first | refine blk_drewN ?_ _ | refine blk_drew ?_ | refine blk_alloc ?_ _)); exact BK241.out⟩, ⟨by (with_reducible repeat (first | refine blk_drewN ?_ _ | refine blk_drew ?_ | refine blk_alloc ?_ _)); exact BK242.out⟩, ⟨by repeat (first | (with_reducible first | exact HB.out | apply below_alloc | apply pw_below_drewN | apply below_drew1 | refine below_set ?_ GE241.out | refine below_set ?_ GE242.out) | exact HB.out)⟩⟩
                          · rw [if_neg c58] at H
                            have c58b0 : ((Go.bits .and .u32 a1_0 (ji54)) == 0) = false := beq_eq_false_iff_ne.mpr c58
                            have c58b1 : ((Go.bits .and .u32 a1_0 (ji54)) != 0) = true := bne_iff_ne.mpr c58
                            have H' := Aside0.mk H
                            clear H
                            have hnb62 := NB241_242.out
                            have hnc62 := NB242_241.out
                            have hcz63_0 : wr.cell? ⟨gb241, 0, none⟩ = some (.bool a0_0) := (blk_cell BK241.out 0).trans rfl
                            have hcz63_1 : wr.cell? ⟨gb241, 1, none⟩ = some (.int .u32 a0_1) := (blk_cell BK241.out 1).trans rfl
                            have hcz63_2 : wr.cell? ⟨gb241, 2, none⟩ = some (.int .i64 a0_2) := (blk_cell BK241.out 2).trans rfl
                            have hcz63_3 : wr.cell? ⟨gb241, 3, none⟩ = some (.int .i64 a0_3) := (blk_cell BK241.out 3).trans rfl
                            have hcz63_4 : wr.cell? ⟨gb241, 4, none⟩ = some (.int .i64 a0_4) := (blk_cell BK241.out 4).trans rfl
                            have hcz63_5 : wr.cell? ⟨gb241, 5, none⟩ = some (.int .u16 0) := (blk_cell BK241.out 5).trans rfl
                            have hcz63_6 : wr.cell? ⟨gb241, 6, none⟩ = some (.int .u16 0) := (blk_cell BK241.out 6).trans rfl
                            have hfz63_0 := blk_frozen BK241.out 0
                            have hfz63_1 := blk_frozen BK241.out 1
                            have hfz63_2 := blk_frozen BK241.out 2
                            have hfz63_3 := blk_frozen BK241.out 3
                            have hfz63_4 := blk_frozen BK241.out 4
                            have hfz63_5 := blk_frozen BK241.out 5
                            have hfz63_6 := blk_frozen BK241.out 6
                            have hcz64_0 : wr.cell? ⟨gb242, 0, none⟩ = some (.int .u32 a1_0) := (blk_cell BK242.out 0).trans rfl
                            have hcz64_1 : wr.cell? ⟨gb242, 1, none⟩ = some (.int .i64 a1_1) := (blk_cell BK242.out 1).trans rfl
                            have hfz64_0 := blk_frozen BK242.out 0
                            have hfz64_1 := blk_frozen BK242.out 1
                            go_wp2
                            go_roundg k3
                            case measure => have := HJ3.out; have := HJ35.out; have := HK3.out; omega
                            case rel => exact ⟨(false), (wrap64 (x9_3 + 1)), (by first | rfl | (simp; done) | (simp [*]; done)), (by first | rfl | (simp; done) | (simp [*]; done)), H', ⟨by have := HJ3.out; have := HJ35.out; have := HK3.out; omega⟩, ⟨by (with_reducible repeat (first | refine blk_drewN ?_ _ | refine blk_drew ?_ | refine blk_alloc ?_ _)); exact BK241.out⟩, ⟨by (with_reducible repeat (first | refine blk_drewN ?_ _ | refine blk_drew ?_ | refine blk_alloc ?_ _)); exact BK242.out⟩, ⟨by repeat (first | (with_reducible first | exact HB.out | apply below_alloc | apply pw_below_drewN | apply below_drew1 | refine below_set ?_ GE241.out | refine below_set ?_ GE242.out) | exact HB.out)⟩⟩
                        · rw [if_neg c57] at H
                          have c57b0 : decide (a1_1 ≤ x9_3) = false := decide_eq_false c57
                          clear c57
                          have H' := Aside0.mk H
                          clear H
                          have hnb65 := NB241_242.out
                          have hnc65 := NB242_241.out
                          have hcz66_0 : wr.cell? ⟨gb241, 0, none⟩ = some (.bool a0_0) := (blk_cell BK241.out 0).trans rfl
                          have hcz66_1 : wr.cell? ⟨gb241, 1, none⟩ = some (.int .u32 a0_1) := (blk_cell BK241.out 1).trans rfl
                          have hcz66_2 : wr.cell? ⟨gb241, 2, none⟩ = some (.int .i64 a0_2) := (blk_cell BK241.out 2).trans rfl
                          have hcz66_3 : wr.cell? ⟨gb241, 3, none⟩ = some (.int .i64 a0_3) := (blk_cell BK241.out 3).trans rfl
                          have hcz66_4 : wr.cell? ⟨gb241, 4, none⟩ = some (.int .i64 a0_4) := (blk_cell BK241.out 4).trans rfl
                          have hcz66_5 : wr.cell? ⟨gb241, 5, none⟩ = some (.int .u16 0) := (blk_cell BK241.out 5).trans rfl
                          have hcz66_6 : wr.cell? ⟨gb241, 6, none⟩ = some (.int .u16 0) := (blk_cell BK241.out 6).trans rfl
                          have hfz66_0 := blk_frozen BK241.out 0
                          have hfz66_1 := blk_frozen BK241.out 1
                          have hfz66_2 := blk_frozen BK241.out 2
                          have hfz66_3 := blk_frozen BK241.out 3
                          have hfz66_4 := blk_frozen BK241.out 4
                          have hfz66_5 := blk_frozen BK241.out 5
                          have hfz66_6 := blk_frozen BK241.out 6
                          have hcz67_0 : wr.cell? ⟨gb242, 0, none⟩ = some (.int .u32 a1_0) := (blk_cell BK242.out 0).trans rfl
                          have hcz67_1 : wr.cell? ⟨gb242, 1, none⟩ = some (.int .i64 a1_1) := (blk_cell BK242.out 1).trans rfl
                          have hfz67_0 := blk_frozen BK242.out 0
                          have hfz67_1 := blk_frozen BK242.out 1
                          go_wp2
                          go_roundg k3
                          case measure => have := HJ3.out; have := HJ35.out; have := HK3.out; omega
                          case rel => exact ⟨(x8_3), (wrap64 (x9_3 + 1)), (by first | rfl | (simp; done) | (simp [*]; done)), (by first | rfl | (simp; done) | (simp [*]; done)), H', ⟨by have := HJ3.out; have := HJ35.out; have := HK3.out; omega⟩, ⟨by (with_reducible repeat (first | refine blk_drewN ?_ _ | refine blk_drew ?_ | refine blk_alloc ?_ _)); exact BK241.out⟩, ⟨by (with_reducible repeat (first | refine blk_drewN ?_ _ | refine blk_drew ?_ | refine blk_alloc ?_ _)); exact BK242.out⟩, ⟨by repeat (first | (with_reducible first | exact HB.out | apply below_alloc | apply pw_below_drewN | apply below_drew1 | refine below_set ?_ GE241.out | refine below_set ?_ GE242.out) | exact HB.out)⟩⟩
                      · rw [if_neg c56] at H
                        have c56b0 : ((Go.bits .and .u32 a1_0 (ji54)) == (Go.bits .and .u32 a0_1 (ji54))) = false := beq_eq_false_iff_ne.mpr c56
                        have c56b1 : ((Go.bits .and .u32 a1_0 (ji54)) != (Go.bits .and .u32 a0_1 (ji54))) = true := bne_iff_ne.mpr c56
                        have H' := Aside0.mk H
                        clear H
                        have hnb68 := NB241_242.out
                        have hnc68 := NB242_241.out
                        have hcz69_0 : wr.cell? ⟨gb241, 0, none⟩ = some (.bool a0_0) := (blk_cell BK241.out 0).trans rfl
                        have hcz69_1 : wr.cell? ⟨gb241, 1, none⟩ = some (.int .u32 a0_1) := (blk_cell BK241.out 1).trans rfl
                        have hcz69_2 : wr.cell? ⟨gb241, 2, none⟩ = some (.int .i64 a0_2) := (blk_cell BK241.out 2).trans rfl
                        have hcz69_3 : wr.cell? ⟨gb241, 3, none⟩ = some (.int .i64 a0_3) := (blk_cell BK241.out 3).trans rfl
                        have hcz69_4 : wr.cell? ⟨gb241, 4, none⟩ = some (.int .i64 a0_4) := (blk_cell BK241.out 4).trans rfl
                        have hcz69_5 : wr.cell? ⟨gb241, 5, none⟩ = some (.int .u16 0) := (blk_cell BK241.out 5).trans rfl
                        have hcz69_6 : wr.cell? ⟨gb241, 6, none⟩ = some (.int .u16 0) := (blk_cell BK241.out 6).trans rfl
                        have hfz69_0 := blk_frozen BK241.out 0
                        have hfz69_1 := blk_frozen BK241.out 1
                        have hfz69_2 := blk_frozen BK241.out 2
                        have hfz69_3 := blk_frozen BK241.out 3
                        have hfz69_4 := blk_frozen BK241.out 4
                        have hfz69_5 := blk_frozen BK241.out 5
                        have hfz69_6 := blk_frozen BK241.out 6
                        have hcz70_0 : wr.cell? ⟨gb242, 0, none⟩ = some (.int .u32 a1_0) := (blk_cell BK242.out 0).trans rfl
                        have hcz70_1 : wr.cell? ⟨gb242, 1, none⟩ = some (.int .i64 a1_1) := (blk_cell BK242.out 1).trans rfl
                        have hfz70_0 := blk_frozen BK242.out 0
                        have hfz70_1 := blk_frozen BK242.out 1
                        go_wp2
                        go_roundg k3
                        case measure => have := HJ3.out; have := HJ35.out; have := HK3.out; omega
                        case rel => exact ⟨(false), (wrap64 (x9_3 + 1)), (by first | rfl | (simp; done) | (simp [*]; done)), (by first | rfl | (simp; done) | (simp [*]; done)), H', ⟨by have := HJ3.out; have := HJ35.out; have := HK3.out; omega⟩, ⟨by (with_reducible repeat (first | refine blk_drewN ?_ _ | refine blk_drew ?_ | refine blk_alloc ?_ _)); exact BK241.out⟩, ⟨by (with_reducible repeat (first | refine blk_drewN ?_ _ | refine blk_drew ?_ | refine blk_alloc ?_ _)); exact BK242.out⟩, ⟨by repeat (first | (with_reducible first | exact HB.out | apply below_alloc | apply pw_below_drewN | apply below_drew1 | refine below_set ?_ GE241.out | refine below_set ?_ GE242.out) | exact HB.out)⟩⟩
                    · rw [if_neg c55] at H
                      have c55b0 : decide (x9_3 < a0_2) = false := decide_eq_false c55
                      clear c55
                      by_cases c71 : x9_3 ≥ a1_1
                      · rw [if_pos c71] at H
                        have c71b0 : decide (a1_1 ≤ x9_3) = true := decide_eq_true c71
                        clear c71
                        by_cases c72 : (Go.bits .and .u32 a1_0 (ji54)) = 0
                        · rw [if_pos c72] at H
                          have c72b0 : ((Go.bits .and .u32 a1_0 (ji54)) == 0) = true := beq_iff_eq.mpr c72
                          have c72b1 : ((Go.bits .and .u32 a1_0 (ji54)) != 0) = false := bne_eq_false_iff_eq.mpr c72
                          clear c72
                          have H' := Aside0.mk H
                          clear H
                          have hnb73 := NB241_242.out
                          have hnc73 := NB242_241.out
                          have hcz74_0 : wr.cell? ⟨gb241, 0, none⟩ = some (.bool a0_0) := (blk_cell BK241.out 0).trans rfl
                          have hcz74_1 : wr.cell? ⟨gb241, 1, none⟩ = some (.int .u32 a0_1) := (blk_cell BK241.out 1).trans rfl
                          have hcz74_2 : wr.cell? ⟨gb241, 2, none⟩ = some (.int .i64 a0_2) := (blk_cell BK241.out 2).trans rfl
                          have hcz74_3 : wr.cell? ⟨gb241, 3, none⟩ = some (.int .i64 a0_3) := (blk_cell BK241.out 3).trans rfl
                          have hcz74_4 : wr.cell? ⟨gb241, 4, none⟩ = some (.int .i64 a0_4) := (blk_cell BK241.out 4).trans rfl
                          have hcz74_5 : wr.cell? ⟨gb241, 5, none⟩ = some (.int .u16 0) := (blk_cell BK241.out 5).trans rfl
                          have hcz74_6 : wr.cell? ⟨gb241, 6, none⟩ = some (.int .u16 0) := (blk_cell BK241.out 6).trans rfl
                          have hfz74_0 := blk_frozen BK241.out 0
                          have hfz74_1 := blk_frozen BK241.out 1
                          have hfz74_2 := blk_frozen BK241.out 2
                          have hfz74_3 := blk_frozen BK241.out 3
                          have hfz74_4 := blk_frozen BK241.out 4
                          have hfz74_5 := blk_frozen BK241.out 5
                          have hfz74_6 := blk_frozen BK241.out 6
                          have hcz75_0 : wr.cell? ⟨gb242, 0, none⟩ = some (.int .u32 a1_0) := (blk_cell BK242.out 0).trans rfl
                          have hcz75_1 : wr.cell? ⟨gb242, 1, none⟩ = some (.int .i64 a1_1) := (blk_cell BK242.out 1).trans rfl
                          have hfz75_0 := blk_frozen BK242.out 0
                          have hfz75_1 := blk_frozen BK242.out 1
                          go_wp2
                          go_roundg k3
                          case measure => have := HJ3.out; have := HJ35.out; have := HK3.out; omega
                          case rel => exact ⟨(x8_3), (wrap64 (x9_3 + 1)), (by first | rfl | (simp; done) | (simp [*]; done)), (by first | rfl | (simp; done) | (simp [*]; done)), H', ⟨by have := HJ3.out; have := HJ35.out; have := HK3.out; omega⟩, ⟨by (with_reducible repeat (first | refine blk_drewN ?_ _ | refine blk_drew ?_ | refine blk_alloc ?_ _)); exact BK241.out⟩, ⟨by (with_reducible repeat (first | refine blk_drewN ?_ _ | refine blk_drew ?_ | refine blk_alloc ?_ _)); exact BK242.out⟩, ⟨by repeat (first | (with_reducible first | exact HB.out | apply below_alloc | apply pw_below_drewN | apply below_drew1 | refine below_set ?_ GE241.out | refine below_set ?_ GE242.out) | exact HB.out)⟩⟩
                        · rw [if_neg c72] at H
                          have c72b0 : ((Go.bits .and .u32 a1_0 (ji54)) == 0) = false := beq_eq_false_iff_ne.mpr c72
                          have c72b1 : ((Go.bits .and .u32 a1_0 (ji54)) != 0) = true := bne_iff_ne.mpr c72
                          have H' := Aside0.mk H
                          clear H
                          have hnb76 := NB241_242.out
                          have hnc76 := NB242_241.out
                          have hcz77_0 : wr.cell? ⟨gb241, 0, none⟩ = some (.bool a0_0) := (blk_cell BK241.out 0).trans rfl
                          have hcz77_1 : wr.cell? ⟨gb241, 1, none⟩ = some (.int .u32 a0_1) := (blk_cell BK241.out 1).trans rfl
                          have hcz77_2 : wr.cell? ⟨gb241, 2, none⟩ = some (.int .i64 a0_2) := (blk_cell BK241.out 2).trans rfl
                          have hcz77_3 : wr.cell? ⟨gb241, 3, none⟩ = some (.int .i64 a0_3) := (blk_cell BK241.out 3).trans rfl
                          have hcz77_4 : wr.cell? ⟨gb241, 4, none⟩ = some (.int .i64 a0_4) := (blk_cell BK241.out 4).trans rfl
                          have hcz77_5 : wr.cell? ⟨gb241, 5, none⟩ = some (.int .u16 0) := (blk_cell BK241.out 5).trans rfl
                          have hcz77_6 : wr.cell? ⟨gb241, 6, none⟩ = some (.int .u16 0) := (blk_cell BK241.out 6).trans rfl
                          have hfz77_0 := blk_frozen BK241.out 0
                          have hfz77_1 := blk_frozen BK241.out 1
                          have hfz77_2 := blk_frozen BK241.out 2
                          have hfz77_3 := blk_frozen BK241.out 3
                          have hfz77_4 := blk_frozen BK241.out 4
                          have hfz77_5 := blk_frozen BK241.out 5
                          have hfz77_6 := blk_frozen BK241.out 6
                          have hcz78_0 : wr.cell? ⟨gb242, 0, none⟩ = some (.int .u32 a1_0) := (blk_cell BK242.out 0).trans rfl
                          have hcz78_1 : wr.cell? ⟨gb242, 1, none⟩ = some (.int .i64 a1_1) := (blk_cell BK242.out 1).trans rfl
                          have hfz78_0 := blk_frozen BK242.out 0
                          have hfz78_1 := blk_frozen BK242.out 1
                          go_wp2
                          go_roundg k3
                          case measure => have := HJ3.out; have := HJ35.out; have := HK3.out; omega
                          case rel => exact ⟨(false), (wrap64 (x9_3 + 1)), (by first | rfl | (simp; done) | (simp [*]; done)), (by first | rfl | (simp; done) | (simp [*]; done)), H', ⟨by have := HJ3.out; have := HJ35.out; have := HK3.out; omega⟩, ⟨by (with_reducible repeat (first | refine blk_drewN ?_ _ | refine blk_drew ?_ | refine blk_alloc ?_ _)); exact BK241.out⟩, ⟨by (with_reducible repeat (first | refine blk_drewN ?_ _ | refine blk_drew ?_ | refine blk_alloc ?_ _)); exact BK242.out⟩, ⟨by repeat (first | (with_reducible first | exact HB.out | apply below_alloc | apply pw_below_drewN | apply below_drew1 | refine below_set ?_ GE241.out | refine below_set ?_ GE242.out) | exact HB.out)⟩⟩
                      · rw [if_neg c71] at H
                        have c71b0 : decide (a1_1 ≤ x9_3) = false := decide_eq_false c71
                        clear c71
                        have H' := Aside0.mk H
                        clear H
                        have hnb79 := NB241_242.out
                        have hnc79 := NB242_241.out
                        have hcz80_0 : wr.cell? ⟨gb241, 0, none⟩ = some (.bool a0_0) := (blk_cell BK241.out 0).trans rfl
                        have hcz80_1 : wr.cell? ⟨gb241, 1, none⟩ = some (.int .u32 a0_1) := (blk_cell BK241.out 1).trans rfl
                        have hcz80_2 : wr.cell? ⟨gb241, 2, none⟩ = some (.int .i64 a0_2) := (blk_cell BK241.out 2).trans rfl
                        have hcz80_3 : wr.cell? ⟨gb241, 3, none⟩ = some (.int .i64 a0_3) := (blk_cell BK241.out 3).trans rfl
                        have hcz80_4 : wr.cell? ⟨gb241, 4, none⟩ = some (.int .i64 a0_4) := (blk_cell BK241.out 4).trans rfl
                        have hcz80_5 : wr.cell? ⟨gb241, 5, none⟩ = some (.int .u16 0) := (blk_cell BK241.out 5).trans rfl
                        have hcz80_6 : wr.cell? ⟨gb241, 6, none⟩ = some (.int .u16 0) := (blk_cell BK241.out 6).trans rfl
                        have hfz80_0 := blk_frozen BK241.out 0
                        have hfz80_1 := blk_frozen BK241.out 1
                        have hfz80_2 := blk_frozen BK241.out 2
                        have hfz80_3 := blk_frozen BK241.out 3
                        have hfz80_4 := blk_frozen BK241.out 4
                        have hfz80_5 := blk_frozen BK241.out 5
                        have hfz80_6 := blk_frozen BK241.out 6
                        have hcz81_0 : wr.cell? ⟨gb242, 0, none⟩ = some (.int .u32 a1_0) := (blk_cell BK242.out 0).trans rfl
                        have hcz81_1 : wr.cell? ⟨gb242, 1, none⟩ = some (.int .i64 a1_1) := (blk_cell BK242.out 1).trans rfl
                        have hfz81_0 := blk_frozen BK242.out 0
                        have hfz81_1 := blk_frozen BK242.out 1
                        go_wp2
                        go_roundg k3
                        case measure => have := HJ3.out; have := HJ35.out; have := HK3.out; omega
                        case rel => exact ⟨(x8_3), (wrap64 (x9_3 + 1)), (by first | rfl | (simp; done) | (simp [*]; done)), (by first | rfl | (simp; done) | (simp [*]; done)), H', ⟨by have := HJ3.out; have := HJ35.out; have := HK3.out; omega⟩, ⟨by (with_reducible repeat (first | refine blk_drewN ?_ _ | refine blk_drew ?_ | refine blk_alloc ?_ _)); exact BK241.out⟩, ⟨by (with_reducible repeat (first | refine blk_drewN ?_ _ | refine blk_drew ?_ | refine blk_alloc ?_ _)); exact BK242.out⟩, ⟨by repeat (first | (with_reducible first | exact HB.out | apply below_alloc | apply pw_below_drewN | apply below_drew1 | refine below_set ?_ GE241.out | refine below_set ?_ GE242.out) | exact HB.out)⟩⟩
                  · rw [if_neg c53] at H
                    exact absurd H (by simp)
                · rw [if_neg c51] at H
                  have c51b0 : decide (x9_3 < 32) = false := decide_eq_false c51
                  clear c51
                  obtain rfl := Option.some.inj H
                  go_wp2
                  go_ret
                  exact ⟨by first | rfl | (simp [errW_none, errW_some] <;> rfl) | (simp [*, errW_none, errW_some] <;> rfl), by repeat (first | (with_reducible first | exact HB.out | apply below_alloc | apply pw_below_drewN | apply below_drew1 | refine below_set ?_ GE241.out | refine below_set ?_ GE242.out) | exact HB.out)⟩

end Go.Proofs.Ytjgfdhkphmhbcaa.L
