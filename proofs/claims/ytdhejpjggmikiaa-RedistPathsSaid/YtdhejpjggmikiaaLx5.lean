/- Printed by the session's own program out of the translation: for each Go function a Lean function with the same answers, and the proof that the code comes to them. No conditions. -/
import Derived.Test.YtdhejpjggmikiaaLx0
import Derived.Test.YtdhejpjggmikiaaLx3
import Derived.Test.YtdhejpjggmikiaaLx4
namespace Go.Proofs.Ytdhejpjggmikiaa.L
open Go.Proofs.YtdhejpjggmikiaaLab
open Go.RowKit Go.Proofs.YtdhejpjggmikiaaW.PrintWords Go.Proofs.YtdhejpjggmikiaaW.PrintLast Go.Proofs.YtdhejpjggmikiaaW.PrintMore
attribute [local go_sem] max2_int min2_int max_two min_two max_three min_three max_four min_four   -- for this text's walks alone
set_option linter.unusedVariables false
set_option linter.unusedSimpArgs false

/-! ### filter_Permits: function 23 -/
mutual
def filter_Permits.l0 : Nat → Int → Bool → Int → List (S61) → Int → Int → Int → Int → Option (Bool × Int)
 | 0, _, _, _, _, _, _, _, _ => none
 | k + 1, x2, x6, x7, x10, x11, x12, x124000, x124001 => if x12 < x11 then (if 0 ≤ x12 then (if x12 < (x10.length : Int) then ((prefix_Covers.f ((rd_T61 x10 x12).f1.f0) ((rd_T61 x10 x12).f1.f1) x124000 x124001).bind fun t126 => (if t126 = true then (if x124001 < ((rd_T61 x10 x12).f2) then (filter_Permits.j1 k x2 x6 x7 x12 x10 x11 x12 (decide (x124001 < ((rd_T61 x10 x12).f2))) x124000 x124001 ((rd_T61 x10 x12).f0) ((rd_T61 x10 x12).f1.f0) ((rd_T61 x10 x12).f1.f1) ((rd_T61 x10 x12).f2) ((rd_T61 x10 x12).f3) ((rd_T61 x10 x12).f4) ((rd_T61 x10 x12).f5)) else (filter_Permits.j1 k x2 x6 x7 x12 x10 x11 x12 (decide (x124001 > ((rd_T61 x10 x12).f3))) x124000 x124001 ((rd_T61 x10 x12).f0) ((rd_T61 x10 x12).f1.f0) ((rd_T61 x10 x12).f1.f1) ((rd_T61 x10 x12).f2) ((rd_T61 x10 x12).f3) ((rd_T61 x10 x12).f4) ((rd_T61 x10 x12).f5))) else (filter_Permits.j1 k x2 x6 x7 x12 x10 x11 x12 (!t126) x124000 x124001 ((rd_T61 x10 x12).f0) ((rd_T61 x10 x12).f1.f0) ((rd_T61 x10 x12).f1.f1) ((rd_T61 x10 x12).f2) ((rd_T61 x10 x12).f3) ((rd_T61 x10 x12).f4) ((rd_T61 x10 x12).f5)))) else (none)) else (none)) else (some (x6, x7))
def filter_Permits.j1 : Nat → Int → Bool → Int → Int → List (S61) → Int → Int → Bool → Int → Int → Bool → Int → Int → Int → Int → Int → Int → Option (Bool × Int)
 | 0, _, _, _, _, _, _, _, _, _, _, _, _, _, _, _, _, _ => none
 | k + 1, x2, x6, x7, x8, x10, x11, x12, x17, x124000, x124001, x126000, x126001, x126002, x126003, x126004, x126005, x126006 => if x17 = true then (filter_Permits.l0 k x2 x6 x7 x10 x11 (wrap64 (x12 + 1)) x124000 x124001) else ((tags_Within.f x126005 x2).bind fun t127 => (if t127 = true then (if (Go.bits .and .u16 x126006 x2) = 0 then (some (x126000, x8)) else (filter_Permits.l0 k x2 x6 x7 x10 x11 (wrap64 (x12 + 1)) x124000 x124001)) else (filter_Permits.l0 k x2 x6 x7 x10 x11 (wrap64 (x12 + 1)) x124000 x124001)))
end
def filter_Permits.f (k : Nat) (l0 : List (S61)) (a1_0 : Int) (a1_1 : Int) (a2 : Int) : Option (Bool × Int) := filter_Permits.l0 k a2 false (-1) l0 (l0.length : Int) 0 a1_0 a1_1
theorem filter_Permits.mono_l : ∀ k, (∀ y0 y1 y2 y3 y4 y5 y6 y7, LeO (filter_Permits.l0 k y0 y1 y2 y3 y4 y5 y6 y7) (filter_Permits.l0 (k + 1) y0 y1 y2 y3 y4 y5 y6 y7)) ∧ (∀ y0 y1 y2 y3 y4 y5 y6 y7 y8 y9 y10 y11 y12 y13 y14 y15 y16, LeO (filter_Permits.j1 k y0 y1 y2 y3 y4 y5 y6 y7 y8 y9 y10 y11 y12 y13 y14 y15 y16) (filter_Permits.j1 (k + 1) y0 y1 y2 y3 y4 y5 y6 y7 y8 y9 y10 y11 y12 y13 y14 y15 y16))
 | 0 => ⟨fun _ _ _ _ _ _ _ _ r h => by simp [filter_Permits.l0] at h, fun _ _ _ _ _ _ _ _ _ _ _ _ _ _ _ _ _ r h => by simp [filter_Permits.j1] at h⟩
 | k + 1 => by
  obtain ⟨ih0, ih1⟩ := filter_Permits.mono_l k
  refine ⟨?_, ?_⟩
  ·
   intro y0 y1 y2 y3 y4 y5 y6 y7
   unfold filter_Permits.l0
   repeat' first
   | (with_reducible exact ih0 _ _ _ _ _ _ _ _)
   | (with_reducible exact ih1 _ _ _ _ _ _ _ _ _ _ _ _ _ _ _ _ _)
   | (with_reducible exact LeO.refl _)
   | (with_reducible exact LeO.none _)
   | (with_reducible refine LeO.ite ?_ ?_)
   | (with_reducible refine LeO.bind ?_ (fun _ => ?_))
   | exact ih0 _ _ _ _ _ _ _ _
   | exact ih1 _ _ _ _ _ _ _ _ _ _ _ _ _ _ _ _ _
   | exact LeO.none _
   | refine LeO.ite ?_ ?_
   | refine LeO.bind ?_ (fun _ => ?_)
  ·
   intro y0 y1 y2 y3 y4 y5 y6 y7 y8 y9 y10 y11 y12 y13 y14 y15 y16
   unfold filter_Permits.j1
   repeat' first
   | (with_reducible exact ih0 _ _ _ _ _ _ _ _)
   | (with_reducible exact ih1 _ _ _ _ _ _ _ _ _ _ _ _ _ _ _ _ _)
   | (with_reducible exact LeO.refl _)
   | (with_reducible exact LeO.none _)
   | (with_reducible refine LeO.ite ?_ ?_)
   | (with_reducible refine LeO.bind ?_ (fun _ => ?_))
   | exact ih0 _ _ _ _ _ _ _ _
   | exact ih1 _ _ _ _ _ _ _ _ _ _ _ _ _ _ _ _ _
   | exact LeO.none _
   | refine LeO.ite ?_ ?_
   | refine LeO.bind ?_ (fun _ => ?_)
theorem filter_Permits.mono : ∀ a0 a1 a2 a3 k, LeO (filter_Permits.f k a0 a1 a2 a3) (filter_Permits.f (k + 1) a0 a1 a2 a3) := by
 intro a0 a1 a2 a3 k
 obtain ⟨ih0, ih1⟩ := filter_Permits.mono_l k
 unfold filter_Permits.f
 repeat' first
   | (with_reducible exact ih0 _ _ _ _ _ _ _ _)
   | (with_reducible exact ih1 _ _ _ _ _ _ _ _ _ _ _ _ _ _ _ _ _)
   | (with_reducible exact LeO.refl _)
   | (with_reducible exact LeO.none _)
   | (with_reducible refine LeO.ite ?_ ?_)
   | (with_reducible refine LeO.bind ?_ (fun _ => ?_))
   | exact ih0 _ _ _ _ _ _ _ _
   | exact ih1 _ _ _ _ _ _ _ _ _ _ _ _ _ _ _ _ _
   | exact LeO.none _
   | refine LeO.ite ?_ ?_
   | refine LeO.bind ?_ (fun _ => ?_)
set_option maxHeartbeats 8000000 in
set_option maxRecDepth 100000 in
theorem filter_Permits.calls (k : Nat) (A0 : Option Addr) (c0 : Nat) (l0 : List (S61)) (a1_0 : Int) (a1_1 : Int) (a2 : Int) (r1 : Bool) (r2 : Int) (w : World) (hr0 : Kd.C k61 w A0 l0.length l0) (hc0 : l0.length ≤ c0) (h : filter_Permits.f k l0 a1_0 a1_1 a2 = some (r1, r2)) :
  Calls Try.prog 23 #[.slice A0 l0.length c0, .agg #[.int .u32 a1_0, .int .i64 a1_1], .int .u16 a2] w fun e w' => e = .returned (.tuple #[.bool r1, .int .i64 r2]) ∧ Below w.heap.size w w' := by
 have hu28 := Try.underlying28
 have hu61 := Try.underlying61
 have HR0 := Aside0.mk hr0
 have HC0 := Aside0.mk hc0
 clear hr0 hc0
 have HB := Aside0.mk (Below.refl w.heap.size w)
 have H : (filter_Permits.l0 k a2 false (-1) l0 (l0.length : Int) 0 a1_0 a1_1) = some (r1, r2) := h
 clear h
 have H' := Aside0.mk H
 clear H
 go_enter Try.func23, Try.ntmps23
 (go_wp2_with (first | ((with_reducible refine gate_dst (N := 4) rfl ?_); refine box_event ?hg (N := 4) ?hd (cs := #[.int .u32 a1_0, .int .i64 a1_1]) (t := 28) ?hr ?_; (case hd => rfl); (case hg => rfl); (case hr => first | (go_simp; done) | (go_simp; rfl)); intro gb123 hg w4 hbox hb; have n0_ := Aside0.mk (below_step (by repeat (first | (with_reducible first | exact HB.out | apply below_alloc | apply pw_below_drewN | apply below_drew1) | exact HB.out)) hb); have n1_ := Aside0.mk (hbox); have n2_ := Aside0.mk ((by rw [hg]; exact (below_size (by repeat (first | (with_reducible first | exact HB.out | apply below_alloc | apply pw_below_drewN | apply below_drew1) | exact HB.out))) : w.heap.size ≤ gb123)); have n3_ := Aside0.mk ((by rw [hg]; exact (below_size (by repeat (first | (with_reducible first | exact HB.out | apply below_alloc | apply pw_below_drewN | apply below_drew1) | exact HB.out))) : w.heap.size ≤ gb123)); clear HB; have HB := n0_; have BK123 := n1_; have GW123 := n2_; have GE123 := n3_; clear n0_ n1_ n2_ n3_; clear hb hbox hg))); repeat ((go_step3); (go_wp2_with (first | ((with_reducible refine gate_dst (N := 4) rfl ?_); refine box_event ?hg (N := 4) ?hd (cs := #[.int .u32 a1_0, .int .i64 a1_1]) (t := 28) ?hr ?_; (case hd => rfl); (case hg => rfl); (case hr => first | (go_simp; done) | (go_simp; rfl)); intro gb123 hg w4 hbox hb; have n0_ := Aside0.mk (below_step (by repeat (first | (with_reducible first | exact HB.out | apply below_alloc | apply pw_below_drewN | apply below_drew1) | exact HB.out)) hb); have n1_ := Aside0.mk (hbox); have n2_ := Aside0.mk ((by rw [hg]; exact (below_size (by repeat (first | (with_reducible first | exact HB.out | apply below_alloc | apply pw_below_drewN | apply below_drew1) | exact HB.out))) : w.heap.size ≤ gb123)); have n3_ := Aside0.mk ((by rw [hg]; exact (below_size (by repeat (first | (with_reducible first | exact HB.out | apply below_alloc | apply pw_below_drewN | apply below_drew1) | exact HB.out))) : w.heap.size ≤ gb123)); clear HB; have HB := n0_; have BK123 := n1_; have GW123 := n2_; have GE123 := n3_; clear n0_ n1_ n2_ n3_; clear hb hbox hg))))
 go_loopg [6, 7, 12] k (fun kq v6 v7 v12 w' => ∃ (x6_1 : Bool) (x7_1 : Int) (x12_1 : Int), v6 = .bool x6_1 ∧ v7 = .int .i64 x7_1 ∧ v12 = .int .i64 x12_1 ∧ Aside0 (filter_Permits.l0 kq a2 x6_1 x7_1 l0 (l0.length : Int) x12_1 a1_0 a1_1 = some (r1, r2)) ∧ Aside0 (kq ≤ k) ∧ Aside0 (w'.heap[gb123]? = some (.cells #[.int .u32 a1_0, .int .i64 a1_1] 28 (0, 0))) ∧ Aside0 (Below w.heap.size w w'))
 case atStart => exact ⟨(false), ((-1)), (0), (by first | rfl | (simp; done) | (simp [*]; done)), (by first | rfl | (simp; done) | (simp [*]; done)), (by first | rfl | (simp; done) | (simp [*]; done)), H', ⟨Nat.le_refl _⟩, ⟨by (with_reducible repeat (first | refine blk_drewN ?_ _ | refine blk_drew ?_ | refine blk_alloc ?_ _)); exact BK123.out⟩, ⟨by repeat (first | (with_reducible first | exact HB.out | apply below_alloc | apply pw_below_drewN | apply below_drew1 | refine below_set ?_ GE123.out) | exact HB.out)⟩⟩
 case round =>
  clear H'
  try clear c2
  try clear p2
  try clear p3
  obtain ⟨x6_1, x7_1, x12_1, rfl, rfl, rfl, HA, HK1, BK123, HB⟩ := hrel
  cases gk with
  | zero => exact absurd HA.out (by simp [filter_Permits.l0])
  | succ k1 =>
   have H := HA.out
   clear HA
   simp only [filter_Permits.l0] at H
   by_cases c5 : x12_1 < (l0.length : Int)
   ·
    rw [if_pos c5] at H
    have c5b0 : decide (x12_1 < (l0.length : Int)) = true := decide_eq_true c5
    clear c5
    by_cases c6 : 0 ≤ x12_1
    ·
     rw [if_pos c6] at H
     have c6b0 : decide (0 ≤ x12_1) = true := decide_eq_true c6
     clear c6
     by_cases c7 : x12_1 < (l0.length : Int)
     ·
      rw [if_pos c7] at H
      have c7b0 : decide (x12_1 < (l0.length : Int)) = true := decide_eq_true c7
      clear c7
      replace H := Option.bind_eq_some_iff.mp H
      obtain ⟨t126, A80, H⟩ := H
      replace H : (if t126 = true then (if a1_1 < ((rd_T61 l0 x12_1).f2) then (filter_Permits.j1 k1 a2 x6_1 x7_1 x12_1 l0 (l0.length : Int) x12_1 (decide (a1_1 < ((rd_T61 l0 x12_1).f2))) a1_0 a1_1 ((rd_T61 l0 x12_1).f0) ((rd_T61 l0 x12_1).f1.f0) ((rd_T61 l0 x12_1).f1.f1) ((rd_T61 l0 x12_1).f2) ((rd_T61 l0 x12_1).f3) ((rd_T61 l0 x12_1).f4) ((rd_T61 l0 x12_1).f5)) else (filter_Permits.j1 k1 a2 x6_1 x7_1 x12_1 l0 (l0.length : Int) x12_1 (decide (a1_1 > ((rd_T61 l0 x12_1).f3))) a1_0 a1_1 ((rd_T61 l0 x12_1).f0) ((rd_T61 l0 x12_1).f1.f0) ((rd_T61 l0 x12_1).f1.f1) ((rd_T61 l0 x12_1).f2) ((rd_T61 l0 x12_1).f3) ((rd_T61 l0 x12_1).f4) ((rd_T61 l0 x12_1).f5))) else (filter_Permits.j1 k1 a2 x6_1 x7_1 x12_1 l0 (l0.length : Int) x12_1 (!t126) a1_0 a1_1 ((rd_T61 l0 x12_1).f0) ((rd_T61 l0 x12_1).f1.f0) ((rd_T61 l0 x12_1).f1.f1) ((rd_T61 l0 x12_1).f2) ((rd_T61 l0 x12_1).f3) ((rd_T61 l0 x12_1).f4) ((rd_T61 l0 x12_1).f5))) = some (r1, r2) := H
      have A8 := Aside0.mk A80
      clear A80
      have HC9 := Aside0.mk H
      clear H
      have p124 : 0 ≤ (x12_1 : Int) := of_decide_eq_true (by first | (with_reducible assumption) | assumption)
      have q124 : x12_1 < (l0.length : Int) := of_decide_eq_true (by first | (with_reducible assumption) | assumption)
      obtain ⟨ad124, e124, hx124_0, hx124_1, hx124_2, hx124_3, hx124_4, hx124_5, hx124_6⟩ := at_T61 HR0.out x12_1 p124 q124
      cases e124
      replace hx124_0 := (HB.out.cell (World.block_lt_of_cell? w _ hx124_0)).trans hx124_0
      replace hx124_1 := (HB.out.cell (World.block_lt_of_cell? w _ hx124_1)).trans hx124_1
      replace hx124_2 := (HB.out.cell (World.block_lt_of_cell? w _ hx124_2)).trans hx124_2
      replace hx124_3 := (HB.out.cell (World.block_lt_of_cell? w _ hx124_3)).trans hx124_3
      replace hx124_4 := (HB.out.cell (World.block_lt_of_cell? w _ hx124_4)).trans hx124_4
      replace hx124_5 := (HB.out.cell (World.block_lt_of_cell? w _ hx124_5)).trans hx124_5
      replace hx124_6 := (HB.out.cell (World.block_lt_of_cell? w _ hx124_6)).trans hx124_6
      replace p124 := eq_true p124
      replace q124 := eq_true q124
      (go_upto_if 17 with (first | ((with_reducible refine gate_dst (N := 9) rfl ?_); refine box_event ?hg (N := 9) ?hd (cs := #[.bool false, .int .u32 0, .int .i64 0, .int .i64 0, .int .i64 0, .int .u16 0, .int .u16 0]) (t := 61) ?hr ?_; (case hd => rfl); (case hg => rfl); (case hr => first | (go_simp; done) | (go_simp; rfl)); intro gb125 hg w10 hbox hb; have n0_ := Aside0.mk (blk_below (g := gb123) (o := .cells #[.int .u32 a1_0, .int .i64 a1_1] 28 (0, 0)) (by (with_reducible repeat (first | refine blk_drewN ?_ _ | refine blk_drew ?_ | refine blk_alloc ?_ _)); exact BK123.out) hb); have n1_ := Aside0.mk (below_step (by repeat (first | (with_reducible first | exact HB.out | apply below_alloc | apply pw_below_drewN | apply below_drew1 | refine below_set ?_ GE123.out) | exact HB.out)) hb); have n2_ := Aside0.mk (hbox); have n3_ := Aside0.mk ((by rw [hg]; exact (below_size (by repeat (first | (with_reducible first | exact HB.out | apply below_alloc | apply pw_below_drewN | apply below_drew1 | refine below_set ?_ GE123.out) | exact HB.out))) : w.heap.size ≤ gb125)); have n4_ := Aside0.mk ((by rw [hg]; exact (below_size (by repeat (first | (with_reducible first | exact HB.out | apply below_alloc | apply pw_below_drewN | apply below_drew1 | refine below_set ?_ GE123.out) | exact HB.out))) : w.heap.size ≤ gb125)); have n5_ := Aside0.mk ((by rw [hg]; exact Nat.ne_of_lt (blk_lt (g := gb123) (o := .cells #[.int .u32 a1_0, .int .i64 a1_1] 28 (0, 0)) (by (with_reducible repeat (first | refine blk_drewN ?_ _ | refine blk_drew ?_ | refine blk_alloc ?_ _)); exact BK123.out)) : gb123 ≠ gb125)); have n6_ := Aside0.mk ((by rw [hg]; exact Nat.ne_of_gt (blk_lt (g := gb123) (o := .cells #[.int .u32 a1_0, .int .i64 a1_1] 28 (0, 0)) (by (with_reducible repeat (first | refine blk_drewN ?_ _ | refine blk_drew ?_ | refine blk_alloc ?_ _)); exact BK123.out)) : gb125 ≠ gb123)); clear BK123; clear HB; have BK123 := n0_; have HB := n1_; have BK125 := n2_; have GW125 := n3_; have GE125 := n4_; have NB123_125 := n5_; have NB125_123 := n6_; clear n0_ n1_ n2_ n3_ n4_ n5_ n6_; clear hb hbox hg; have hnb11 := NB125_123.out; have hnc11 := NB123_125.out; have hcz12_0 : w10.cell? ⟨gb125, 0, none⟩ = some (.bool false) := (blk_cell BK125.out 0).trans rfl; have hcz12_1 : w10.cell? ⟨gb125, 1, none⟩ = some (.int .u32 0) := (blk_cell BK125.out 1).trans rfl; have hcz12_2 : w10.cell? ⟨gb125, 2, none⟩ = some (.int .i64 0) := (blk_cell BK125.out 2).trans rfl; have hcz12_3 : w10.cell? ⟨gb125, 3, none⟩ = some (.int .i64 0) := (blk_cell BK125.out 3).trans rfl; have hcz12_4 : w10.cell? ⟨gb125, 4, none⟩ = some (.int .i64 0) := (blk_cell BK125.out 4).trans rfl; have hcz12_5 : w10.cell? ⟨gb125, 5, none⟩ = some (.int .u16 0) := (blk_cell BK125.out 5).trans rfl; have hcz12_6 : w10.cell? ⟨gb125, 6, none⟩ = some (.int .u16 0) := (blk_cell BK125.out 6).trans rfl; have hfz12_0 := blk_frozen BK125.out 0; have hfz12_1 := blk_frozen BK125.out 1; have hfz12_2 := blk_frozen BK125.out 2; have hfz12_3 := blk_frozen BK125.out 3; have hfz12_4 := blk_frozen BK125.out 4; have hfz12_5 := blk_frozen BK125.out 5; have hfz12_6 := blk_frozen BK125.out 6; have hcz13_0 : w10.cell? ⟨gb123, 0, none⟩ = some (.int .u32 a1_0) := (blk_cell BK123.out 0).trans rfl; have hcz13_1 : w10.cell? ⟨gb123, 1, none⟩ = some (.int .i64 a1_1) := (blk_cell BK123.out 1).trans rfl; have hfz13_0 := blk_frozen BK123.out 0; have hfz13_1 := blk_frozen BK123.out 1) | ((with_reducible refine gate_callee (f := 37) rfl ?_); refine goesL_ (some 21) rfl rfl Try.func37 (by kernel_rfl) rfl #[.agg #[.int .u32 ((rd_T61 l0 x12_1).f1.f0), .int .i64 ((rd_T61 l0 x12_1).f1.f1)], .agg #[.int .u32 a1_0, .int .i64 a1_1]] rfl (by (try simp only [List.map_toArray, List.map_cons, List.map_nil]); first | done | rfl | (simp only [List.length_drop, List.length_take]; rfl)) ?_; (with_reducible refine (prefix_Covers.calls ((rd_T61 l0 x12_1).f1.f0) ((rd_T61 l0 x12_1).f1.f1) a1_0 a1_1 t126 _ A8.out).mono ?_); rintro e w14 ⟨rfl, hb⟩; refine ⟨_, rfl, ?_⟩; have n0_ := Aside0.mk (blk_below (g := gb123) (o := .cells #[.int .u32 a1_0, .int .i64 a1_1] 28 (0, 0)) (by (with_reducible repeat (first | refine blk_drewN ?_ _ | refine blk_drew ?_ | refine blk_alloc ?_ _)); refine blk_far ?_ NB123_125.out _; (with_reducible repeat (first | refine blk_drewN ?_ _ | refine blk_drew ?_ | refine blk_alloc ?_ _)); refine blk_far ?_ NB123_125.out _; (with_reducible repeat (first | refine blk_drewN ?_ _ | refine blk_drew ?_ | refine blk_alloc ?_ _)); refine blk_far ?_ NB123_125.out _; (with_reducible repeat (first | refine blk_drewN ?_ _ | refine blk_drew ?_ | refine blk_alloc ?_ _)); refine blk_far ?_ NB123_125.out _; (with_reducible repeat (first | refine blk_drewN ?_ _ | refine blk_drew ?_ | refine blk_alloc ?_ _)); refine blk_far ?_ NB123_125.out _; (with_reducible repeat (first | refine blk_drewN ?_ _ | refine blk_drew ?_ | refine blk_alloc ?_ _)); refine blk_far ?_ NB123_125.out _; (with_reducible repeat (first | refine blk_drewN ?_ _ | refine blk_drew ?_ | refine blk_alloc ?_ _)); refine blk_far ?_ NB123_125.out _; (with_reducible repeat (first | refine blk_drewN ?_ _ | refine blk_drew ?_ | refine blk_alloc ?_ _)); exact BK123.out) hb); have n1_ := Aside0.mk (blk_below (g := gb125) (o := .cells #[.bool ((rd_T61 l0 x12_1).f0), .int .u32 ((rd_T61 l0 x12_1).f1.f0), .int .i64 ((rd_T61 l0 x12_1).f1.f1), .int .i64 ((rd_T61 l0 x12_1).f2), .int .i64 ((rd_T61 l0 x12_1).f3), .int .u16 ((rd_T61 l0 x12_1).f4), .int .u16 ((rd_T61 l0 x12_1).f5)] 61 (0, 0)) (by (with_reducible repeat (first | refine blk_drewN ?_ _ | refine blk_drew ?_ | refine blk_alloc ?_ _)); refine blk_put (cs := #[.bool ((rd_T61 l0 x12_1).f0), .int .u32 ((rd_T61 l0 x12_1).f1.f0), .int .i64 ((rd_T61 l0 x12_1).f1.f1), .int .i64 ((rd_T61 l0 x12_1).f2), .int .i64 ((rd_T61 l0 x12_1).f3), .int .u16 ((rd_T61 l0 x12_1).f4), .int .u16 0]) ?_ 6 _ rfl; (with_reducible repeat (first | refine blk_drewN ?_ _ | refine blk_drew ?_ | refine blk_alloc ?_ _)); refine blk_put (cs := #[.bool ((rd_T61 l0 x12_1).f0), .int .u32 ((rd_T61 l0 x12_1).f1.f0), .int .i64 ((rd_T61 l0 x12_1).f1.f1), .int .i64 ((rd_T61 l0 x12_1).f2), .int .i64 ((rd_T61 l0 x12_1).f3), .int .u16 0, .int .u16 0]) ?_ 5 _ rfl; (with_reducible repeat (first | refine blk_drewN ?_ _ | refine blk_drew ?_ | refine blk_alloc ?_ _)); refine blk_put (cs := #[.bool ((rd_T61 l0 x12_1).f0), .int .u32 ((rd_T61 l0 x12_1).f1.f0), .int .i64 ((rd_T61 l0 x12_1).f1.f1), .int .i64 ((rd_T61 l0 x12_1).f2), .int .i64 0, .int .u16 0, .int .u16 0]) ?_ 4 _ rfl; (with_reducible repeat (first | refine blk_drewN ?_ _ | refine blk_drew ?_ | refine blk_alloc ?_ _)); refine blk_put (cs := #[.bool ((rd_T61 l0 x12_1).f0), .int .u32 ((rd_T61 l0 x12_1).f1.f0), .int .i64 ((rd_T61 l0 x12_1).f1.f1), .int .i64 0, .int .i64 0, .int .u16 0, .int .u16 0]) ?_ 3 _ rfl; (with_reducible repeat (first | refine blk_drewN ?_ _ | refine blk_drew ?_ | refine blk_alloc ?_ _)); refine blk_put (cs := #[.bool ((rd_T61 l0 x12_1).f0), .int .u32 ((rd_T61 l0 x12_1).f1.f0), .int .i64 0, .int .i64 0, .int .i64 0, .int .u16 0, .int .u16 0]) ?_ 2 _ rfl; (with_reducible repeat (first | refine blk_drewN ?_ _ | refine blk_drew ?_ | refine blk_alloc ?_ _)); refine blk_put (cs := #[.bool ((rd_T61 l0 x12_1).f0), .int .u32 0, .int .i64 0, .int .i64 0, .int .i64 0, .int .u16 0, .int .u16 0]) ?_ 1 _ rfl; (with_reducible repeat (first | refine blk_drewN ?_ _ | refine blk_drew ?_ | refine blk_alloc ?_ _)); refine blk_put (cs := #[.bool false, .int .u32 0, .int .i64 0, .int .i64 0, .int .i64 0, .int .u16 0, .int .u16 0]) ?_ 0 _ rfl; (with_reducible repeat (first | refine blk_drewN ?_ _ | refine blk_drew ?_ | refine blk_alloc ?_ _)); exact BK125.out) hb); have n2_ := Aside0.mk (below_step (by repeat (first | (with_reducible first | exact HB.out | apply below_alloc | apply pw_below_drewN | apply below_drew1 | refine below_set ?_ GE123.out | refine below_set ?_ GE125.out) | exact HB.out)) hb); clear BK123; clear BK125; clear HB; have BK123 := n0_; have BK125 := n1_; have HB := n2_; clear n0_ n1_ n2_; (try clear hb); (try clear hb2); (try clear hk); (try clear hi)))); repeat ((go_step3); (go_upto_if 17 with (first | ((with_reducible refine gate_dst (N := 9) rfl ?_); refine box_event ?hg (N := 9) ?hd (cs := #[.bool false, .int .u32 0, .int .i64 0, .int .i64 0, .int .i64 0, .int .u16 0, .int .u16 0]) (t := 61) ?hr ?_; (case hd => rfl); (case hg => rfl); (case hr => first | (go_simp; done) | (go_simp; rfl)); intro gb125 hg w10 hbox hb; have n0_ := Aside0.mk (blk_below (g := gb123) (o := .cells #[.int .u32 a1_0, .int .i64 a1_1] 28 (0, 0)) (by (with_reducible repeat (first | refine blk_drewN ?_ _ | refine blk_drew ?_ | refine blk_alloc ?_ _)); exact BK123.out) hb); have n1_ := Aside0.mk (below_step (by repeat (first | (with_reducible first | exact HB.out | apply below_alloc | apply pw_below_drewN | apply below_drew1 | refine below_set ?_ GE123.out) | exact HB.out)) hb); have n2_ := Aside0.mk (hbox); have n3_ := Aside0.mk ((by rw [hg]; exact (below_size (by repeat (first | (with_reducible first | exact HB.out | apply below_alloc | apply pw_below_drewN | apply below_drew1 | refine below_set ?_ GE123.out) | exact HB.out))) : w.heap.size ≤ gb125)); have n4_ := Aside0.mk ((by rw [hg]; exact (below_size (by repeat (first | (with_reducible first | exact HB.out | apply below_alloc | apply pw_below_drewN | apply below_drew1 | refine below_set ?_ GE123.out) | exact HB.out))) : w.heap.size ≤ gb125)); have n5_ := Aside0.mk ((by rw [hg]; exact Nat.ne_of_lt (blk_lt (g := gb123) (o := .cells #[.int .u32 a1_0, .int .i64 a1_1] 28 (0, 0)) (by (with_reducible repeat (first | refine blk_drewN ?_ _ | refine blk_drew ?_ | refine blk_alloc ?_ _)); exact BK123.out)) : gb123 ≠ gb125)); have n6_ := Aside0.mk ((by rw [hg]; exact Nat.ne_of_gt (blk_lt (g := gb123) (o := .cells #[.int .u32 a1_0, .int .i64 a1_1] 28 (0, 0)) (by (with_reducible repeat (first | refine blk_drewN ?_ _ | refine blk_drew ?_ | refine blk_alloc ?_ _)); exact BK123.out)) : gb125 ≠ gb123)); clear BK123; clear HB; have BK123 := n0_; have HB := n1_; have BK125 := n2_; have GW125 := n3_; have GE125 := n4_; have NB123_125 := n5_; have NB125_123 := n6_; clear n0_ n1_ n2_ n3_ n4_ n5_ n6_; clear hb hbox hg; have hnb11 := NB125_123.out; have hnc11 := NB123_125.out; have hcz12_0 : w10.cell? ⟨gb125, 0, none⟩ = some (.bool false) := (blk_cell BK125.out 0).trans rfl; have hcz12_1 : w10.cell? ⟨gb125, 1, none⟩ = some (.int .u32 0) := (blk_cell BK125.out 1).trans rfl; have hcz12_2 : w10.cell? ⟨gb125, 2, none⟩ = some (.int .i64 0) := (blk_cell BK125.out 2).trans rfl; have hcz12_3 : w10.cell? ⟨gb125, 3, none⟩ = some (.int .i64 0) := (blk_cell BK125.out 3).trans rfl; have hcz12_4 : w10.cell? ⟨gb125, 4, none⟩ = some (.int .i64 0) := (blk_cell BK125.out 4).trans rfl; have hcz12_5 : w10.cell? ⟨gb125, 5, none⟩ = some (.int .u16 0) := (blk_cell BK125.out 5).trans rfl; have hcz12_6 : w10.cell? ⟨gb125, 6, none⟩ = some (.int .u16 0) := (blk_cell BK125.out 6).trans rfl; have hfz12_0 := blk_frozen BK125.out 0; have hfz12_1 := blk_frozen BK125.out 1; have hfz12_2 := blk_frozen BK125.out 2; have hfz12_3 := blk_frozen BK125.out 3; have hfz12_4 := blk_frozen BK125.out 4; have hfz12_5 := blk_frozen BK125.out 5; have hfz12_6 := blk_frozen BK125.out 6; have hcz13_0 : w10.cell? ⟨gb123, 0, none⟩ = some (.int .u32 a1_0) := (blk_cell BK123.out 0).trans rfl; have hcz13_1 : w10.cell? ⟨gb123, 1, none⟩ = some (.int .i64 a1_1) := (blk_cell BK123.out 1).trans rfl; have hfz13_0 := blk_frozen BK123.out 0; have hfz13_1 := blk_frozen BK123.out 1) | ((with_reducible refine gate_callee (f := 37) rfl ?_); refine goesL_ (some 21) rfl rfl Try.func37 (by kernel_rfl) rfl #[.agg #[.int .u32 ((rd_T61 l0 x12_1).f1.f0), .int .i64 ((rd_T61 l0 x12_1).f1.f1)], .agg #[.int .u32 a1_0, .int .i64 a1_1]] rfl (by (try simp only [List.map_toArray, List.map_cons, List.map_nil]); first | done | rfl | (simp only [List.length_drop, List.length_take]; rfl)) ?_; (with_reducible refine (prefix_Covers.calls ((rd_T61 l0 x12_1).f1.f0) ((rd_T61 l0 x12_1).f1.f1) a1_0 a1_1 t126 _ A8.out).mono ?_); rintro e w14 ⟨rfl, hb⟩; refine ⟨_, rfl, ?_⟩; have n0_ := Aside0.mk (blk_below (g := gb123) (o := .cells #[.int .u32 a1_0, .int .i64 a1_1] 28 (0, 0)) (by (with_reducible repeat (first | refine blk_drewN ?_ _ | refine blk_drew ?_ | refine blk_alloc ?_ _)); refine blk_far ?_ NB123_125.out _; (with_reducible repeat (first | refine blk_drewN ?_ _ | refine blk_drew ?_ | refine blk_alloc ?_ _)); refine blk_far ?_ NB123_125.out _; (with_reducible repeat (first | refine blk_drewN ?_ _ | refine blk_drew ?_ | refine blk_alloc ?_ _)); refine blk_far ?_ NB123_125.out _; (with_reducible repeat (first | refine blk_drewN ?_ _ | refine blk_drew ?_ | refine blk_alloc ?_ _)); refine blk_far ?_ NB123_125.out _; (with_reducible repeat (first | refine blk_drewN ?_ _ | refine blk_drew ?_ | refine blk_alloc ?_ _)); refine blk_far ?_ NB123_125.out _; (with_reducible repeat (first | refine blk_drewN ?_ _ | refine blk_drew ?_ | refine blk_alloc ?_ _)); refine blk_far ?_ NB123_125.out _; (with_reducible repeat (first | refine blk_drewN ?_ _ | refine blk_drew ?_ | refine blk_alloc ?_ _)); refine blk_far ?_ NB123_125.out _; (with_reducible repeat (first | refine blk_drewN ?_ _ | refine blk_drew ?_ | refine blk_alloc ?_ _)); exact BK123.out) hb); have n1_ := Aside0.mk (blk_below (g := gb125) (o := .cells #[.bool ((rd_T61 l0 x12_1).f0), .int .u32 ((rd_T61 l0 x12_1).f1.f0), .int .i64 ((rd_T61 l0 x12_1).f1.f1), .int .i64 ((rd_T61 l0 x12_1).f2), .int .i64 ((rd_T61 l0 x12_1).f3), .int .u16 ((rd_T61 l0 x12_1).f4), .int .u16 ((rd_T61 l0 x12_1).f5)] 61 (0, 0)) (by (with_reducible repeat (first | refine blk_drewN ?_ _ | refine blk_drew ?_ | refine blk_alloc ?_ _)); refine blk_put (cs := #[.bool ((rd_T61 l0 x12_1).f0), .int .u32 ((rd_T61 l0 x12_1).f1.f0), .int .i64 ((rd_T61 l0 x12_1).f1.f1), .int .i64 ((rd_T61 l0 x12_1).f2), .int .i64 ((rd_T61 l0 x12_1).f3), .int .u16 ((rd_T61 l0 x12_1).f4), .int .u16 0]) ?_ 6 _ rfl; (with_reducible repeat (first | refine blk_drewN ?_ _ | refine blk_drew ?_ | refine blk_alloc ?_ _)); refine blk_put (cs := #[.bool ((rd_T61 l0 x12_1).f0), .int .u32 ((rd_T61 l0 x12_1).f1.f0), .int .i64 ((rd_T61 l0 x12_1).f1.f1), .int .i64 ((rd_T61 l0 x12_1).f2), .int .i64 ((rd_T61 l0 x12_1).f3), .int .u16 0, .int .u16 0]) ?_ 5 _ rfl; (with_reducible repeat (first | refine blk_drewN ?_ _ | refine blk_drew ?_ | refine blk_alloc ?_ _)); refine blk_put (cs := #[.bool ((rd_T61 l0 x12_1).f0), .int .u32 ((rd_T61 l0 x12_1).f1.f0), .int .i64 ((rd_T61 l0 x12_1).f1.f1), .int .i64 ((rd_T61 l0 x12_1).f2), .int .i64 0, .int .u16 0, .int .u16 0]) ?_ 4 _ rfl; (with_reducible repeat (first | refine blk_drewN ?_ _ | refine blk_drew ?_ | refine blk_alloc ?_ _)); refine blk_put (cs := #[.bool ((rd_T61 l0 x12_1).f0), .int .u32 ((rd_T61 l0 x12_1).f1.f0), .int .i64 ((rd_T61 l0 x12_1).f1.f1), .int .i64 0, .int .i64 0, .int .u16 0, .int .u16 0]) ?_ 3 _ rfl; (with_reducible repeat (first | refine blk_drewN ?_ _ | refine blk_drew ?_ | refine blk_alloc ?_ _)); refine blk_put (cs := #[.bool ((rd_T61 l0 x12_1).f0), .int .u32 ((rd_T61 l0 x12_1).f1.f0), .int .i64 0, .int .i64 0, .int .i64 0, .int .u16 0, .int .u16 0]) ?_ 2 _ rfl; (with_reducible repeat (first | refine blk_drewN ?_ _ | refine blk_drew ?_ | refine blk_alloc ?_ _)); refine blk_put (cs := #[.bool ((rd_T61 l0 x12_1).f0), .int .u32 0, .int .i64 0, .int .i64 0, .int .i64 0, .int .u16 0, .int .u16 0]) ?_ 1 _ rfl; (with_reducible repeat (first | refine blk_drewN ?_ _ | refine blk_drew ?_ | refine blk_alloc ?_ _)); refine blk_put (cs := #[.bool false, .int .u32 0, .int .i64 0, .int .i64 0, .int .i64 0, .int .u16 0, .int .u16 0]) ?_ 0 _ rfl; (with_reducible repeat (first | refine blk_drewN ?_ _ | refine blk_drew ?_ | refine blk_alloc ?_ _)); exact BK125.out) hb); have n2_ := Aside0.mk (below_step (by repeat (first | (with_reducible first | exact HB.out | apply below_alloc | apply pw_below_drewN | apply below_drew1 | refine below_set ?_ GE123.out | refine below_set ?_ GE125.out) | exact HB.out)) hb); clear BK123; clear BK125; clear HB; have BK123 := n0_; have BK125 := n1_; have HB := n2_; clear n0_ n1_ n2_; (try clear hb); (try clear hb2); (try clear hk); (try clear hi)))))
      (try simp only [Act.put, List.setIfInBounds_toArray, List.set_cons_zero, List.set_cons_succ])
      go_cut [17] (fun v17 wc => ∃ (kq : Nat) (x17_8 : Bool), v17 = .bool x17_8 ∧ Aside0 (filter_Permits.j1 kq a2 x6_1 x7_1 x12_1 l0 (l0.length : Int) x12_1 x17_8 a1_0 a1_1 ((rd_T61 l0 x12_1).f0) ((rd_T61 l0 x12_1).f1.f0) ((rd_T61 l0 x12_1).f1.f1) ((rd_T61 l0 x12_1).f2) ((rd_T61 l0 x12_1).f3) ((rd_T61 l0 x12_1).f4) ((rd_T61 l0 x12_1).f5) = some (r1, r2)) ∧ Aside0 (kq ≤ k1) ∧ Aside0 (wc.heap[gb123]? = some (.cells #[.int .u32 a1_0, .int .i64 a1_1] 28 (0, 0))) ∧ Aside0 (wc.heap[gb125]? = some (.cells #[.bool ((rd_T61 l0 x12_1).f0), .int .u32 ((rd_T61 l0 x12_1).f1.f0), .int .i64 ((rd_T61 l0 x12_1).f1.f1), .int .i64 ((rd_T61 l0 x12_1).f2), .int .i64 ((rd_T61 l0 x12_1).f3), .int .u16 ((rd_T61 l0 x12_1).f4), .int .u16 ((rd_T61 l0 x12_1).f5)] 61 (0, 0))) ∧ Aside0 (Below w.heap.size w wc))
      case first =>
       have H := HC9.out
       clear HC9
       by_cases c15 : t126 = true
       ·
        subst c15
        have H1 : (if a1_1 < ((rd_T61 l0 x12_1).f2) then (filter_Permits.j1 k1 a2 x6_1 x7_1 x12_1 l0 (l0.length : Int) x12_1 (decide (a1_1 < ((rd_T61 l0 x12_1).f2))) a1_0 a1_1 ((rd_T61 l0 x12_1).f0) ((rd_T61 l0 x12_1).f1.f0) ((rd_T61 l0 x12_1).f1.f1) ((rd_T61 l0 x12_1).f2) ((rd_T61 l0 x12_1).f3) ((rd_T61 l0 x12_1).f4) ((rd_T61 l0 x12_1).f5)) else (filter_Permits.j1 k1 a2 x6_1 x7_1 x12_1 l0 (l0.length : Int) x12_1 (decide (a1_1 > ((rd_T61 l0 x12_1).f3))) a1_0 a1_1 ((rd_T61 l0 x12_1).f0) ((rd_T61 l0 x12_1).f1.f0) ((rd_T61 l0 x12_1).f1.f1) ((rd_T61 l0 x12_1).f2) ((rd_T61 l0 x12_1).f3) ((rd_T61 l0 x12_1).f4) ((rd_T61 l0 x12_1).f5))) = some (r1, r2) := by rw [if_pos rfl] at H; exact H
        clear H
        have H := H1
        clear H1
        by_cases c16 : a1_1 < ((rd_T61 l0 x12_1).f2)
        ·
         rw [if_pos c16] at H
         have c16b0 : decide (a1_1 < ((rd_T61 l0 x12_1).f2)) = true := decide_eq_true c16
         clear c16
         (first | rw [c16b0] | (simp only [i64_w, i32_w]; rw [c16b0]) | skip)
         have H' := Aside0.mk H
         clear H
         have hnb17 := NB123_125.out
         have hnc17 := NB125_123.out
         have hcz18_0 : w14.cell? ⟨gb123, 0, none⟩ = some (.int .u32 a1_0) := (blk_cell BK123.out 0).trans rfl
         have hcz18_1 : w14.cell? ⟨gb123, 1, none⟩ = some (.int .i64 a1_1) := (blk_cell BK123.out 1).trans rfl
         have hfz18_0 := blk_frozen BK123.out 0
         have hfz18_1 := blk_frozen BK123.out 1
         have hcz19_0 : w14.cell? ⟨gb125, 0, none⟩ = some (.bool ((rd_T61 l0 x12_1).f0)) := (blk_cell BK125.out 0).trans rfl
         have hcz19_1 : w14.cell? ⟨gb125, 1, none⟩ = some (.int .u32 ((rd_T61 l0 x12_1).f1.f0)) := (blk_cell BK125.out 1).trans rfl
         have hcz19_2 : w14.cell? ⟨gb125, 2, none⟩ = some (.int .i64 ((rd_T61 l0 x12_1).f1.f1)) := (blk_cell BK125.out 2).trans rfl
         have hcz19_3 : w14.cell? ⟨gb125, 3, none⟩ = some (.int .i64 ((rd_T61 l0 x12_1).f2)) := (blk_cell BK125.out 3).trans rfl
         have hcz19_4 : w14.cell? ⟨gb125, 4, none⟩ = some (.int .i64 ((rd_T61 l0 x12_1).f3)) := (blk_cell BK125.out 4).trans rfl
         have hcz19_5 : w14.cell? ⟨gb125, 5, none⟩ = some (.int .u16 ((rd_T61 l0 x12_1).f4)) := (blk_cell BK125.out 5).trans rfl
         have hcz19_6 : w14.cell? ⟨gb125, 6, none⟩ = some (.int .u16 ((rd_T61 l0 x12_1).f5)) := (blk_cell BK125.out 6).trans rfl
         have hfz19_0 := blk_frozen BK125.out 0
         have hfz19_1 := blk_frozen BK125.out 1
         have hfz19_2 := blk_frozen BK125.out 2
         have hfz19_3 := blk_frozen BK125.out 3
         have hfz19_4 := blk_frozen BK125.out 4
         have hfz19_5 := blk_frozen BK125.out 5
         have hfz19_6 := blk_frozen BK125.out 6
         (go_wp2); repeat ((go_step3); (go_wp2))
         go_meet
         case rel => exact ⟨_, (decide (a1_1 < ((rd_T61 l0 x12_1).f2))), (by first | rfl | (simp; done) | (simp [*]; done)), H', ⟨by have := HK1.out; first | omega | exact Nat.le_refl _⟩, ⟨by (with_reducible repeat (first | refine blk_drewN ?_ _ | refine blk_drew ?_ | refine blk_alloc ?_ _)); exact BK123.out⟩, ⟨by (with_reducible repeat (first | refine blk_drewN ?_ _ | refine blk_drew ?_ | refine blk_alloc ?_ _)); exact BK125.out⟩, ⟨by repeat (first | (with_reducible first | exact HB.out | apply below_alloc | apply pw_below_drewN | apply below_drew1 | refine below_set ?_ GE123.out | refine below_set ?_ GE125.out) | exact HB.out)⟩⟩
        ·
         rw [if_neg c16] at H
         have c16b0 : decide (a1_1 < ((rd_T61 l0 x12_1).f2)) = false := decide_eq_false c16
         clear c16
         (first | rw [c16b0] | (simp only [i64_w, i32_w]; rw [c16b0]) | skip)
         have H' := Aside0.mk H
         clear H
         have hnb20 := NB123_125.out
         have hnc20 := NB125_123.out
         have hcz21_0 : w14.cell? ⟨gb123, 0, none⟩ = some (.int .u32 a1_0) := (blk_cell BK123.out 0).trans rfl
         have hcz21_1 : w14.cell? ⟨gb123, 1, none⟩ = some (.int .i64 a1_1) := (blk_cell BK123.out 1).trans rfl
         have hfz21_0 := blk_frozen BK123.out 0
         have hfz21_1 := blk_frozen BK123.out 1
         have hcz22_0 : w14.cell? ⟨gb125, 0, none⟩ = some (.bool ((rd_T61 l0 x12_1).f0)) := (blk_cell BK125.out 0).trans rfl
         have hcz22_1 : w14.cell? ⟨gb125, 1, none⟩ = some (.int .u32 ((rd_T61 l0 x12_1).f1.f0)) := (blk_cell BK125.out 1).trans rfl
         have hcz22_2 : w14.cell? ⟨gb125, 2, none⟩ = some (.int .i64 ((rd_T61 l0 x12_1).f1.f1)) := (blk_cell BK125.out 2).trans rfl
         have hcz22_3 : w14.cell? ⟨gb125, 3, none⟩ = some (.int .i64 ((rd_T61 l0 x12_1).f2)) := (blk_cell BK125.out 3).trans rfl
         have hcz22_4 : w14.cell? ⟨gb125, 4, none⟩ = some (.int .i64 ((rd_T61 l0 x12_1).f3)) := (blk_cell BK125.out 4).trans rfl
         have hcz22_5 : w14.cell? ⟨gb125, 5, none⟩ = some (.int .u16 ((rd_T61 l0 x12_1).f4)) := (blk_cell BK125.out 5).trans rfl
         have hcz22_6 : w14.cell? ⟨gb125, 6, none⟩ = some (.int .u16 ((rd_T61 l0 x12_1).f5)) := (blk_cell BK125.out 6).trans rfl
         have hfz22_0 := blk_frozen BK125.out 0
         have hfz22_1 := blk_frozen BK125.out 1
         have hfz22_2 := blk_frozen BK125.out 2
         have hfz22_3 := blk_frozen BK125.out 3
         have hfz22_4 := blk_frozen BK125.out 4
         have hfz22_5 := blk_frozen BK125.out 5
         have hfz22_6 := blk_frozen BK125.out 6
         (go_wp2); repeat ((go_step3); (go_wp2))
         go_meet
         case rel => exact ⟨_, (decide (a1_1 > ((rd_T61 l0 x12_1).f3))), (by first | rfl | (simp; done) | (simp [*]; done)), H', ⟨by have := HK1.out; first | omega | exact Nat.le_refl _⟩, ⟨by (with_reducible repeat (first | refine blk_drewN ?_ _ | refine blk_drew ?_ | refine blk_alloc ?_ _)); exact BK123.out⟩, ⟨by (with_reducible repeat (first | refine blk_drewN ?_ _ | refine blk_drew ?_ | refine blk_alloc ?_ _)); exact BK125.out⟩, ⟨by repeat (first | (with_reducible first | exact HB.out | apply below_alloc | apply pw_below_drewN | apply below_drew1 | refine below_set ?_ GE123.out | refine below_set ?_ GE125.out) | exact HB.out)⟩⟩
       ·
        replace c15 := Bool.eq_false_iff.mpr c15
        subst c15
        have H1 : (filter_Permits.j1 k1 a2 x6_1 x7_1 x12_1 l0 (l0.length : Int) x12_1 (!false) a1_0 a1_1 ((rd_T61 l0 x12_1).f0) ((rd_T61 l0 x12_1).f1.f0) ((rd_T61 l0 x12_1).f1.f1) ((rd_T61 l0 x12_1).f2) ((rd_T61 l0 x12_1).f3) ((rd_T61 l0 x12_1).f4) ((rd_T61 l0 x12_1).f5)) = some (r1, r2) := by rw [if_neg (show ¬ (false = true) by decide)] at H; exact H
        clear H
        have H := H1
        clear H1
        have H' := Aside0.mk H
        clear H
        (go_wp2); repeat ((go_step3); (go_wp2))
        go_meet
        case rel => exact ⟨_, (!false), (by first | rfl | (simp; done) | (simp [*]; done)), H', ⟨by have := HK1.out; first | omega | exact Nat.le_refl _⟩, ⟨by (with_reducible repeat (first | refine blk_drewN ?_ _ | refine blk_drew ?_ | refine blk_alloc ?_ _)); exact BK123.out⟩, ⟨by (with_reducible repeat (first | refine blk_drewN ?_ _ | refine blk_drew ?_ | refine blk_alloc ?_ _)); exact BK125.out⟩, ⟨by repeat (first | (with_reducible first | exact HB.out | apply below_alloc | apply pw_below_drewN | apply below_drew1 | refine below_set ?_ GE123.out | refine below_set ?_ GE125.out) | exact HB.out)⟩⟩
      case rest =>
       clear HC9
       try clear c1
       try clear p1
       try clear q1
       try clear hx1
       try clear c2
       try clear p2
       try clear c3
       try clear p3
       try clear c5
       try clear c5b0
       try clear c6
       try clear c6b0
       try clear c7
       try clear c7b0
       try clear c11
       try clear p12
       try clear q12
       try clear hx12
       try clear c15
       try clear c16
       try clear c16b0
       try clear c17
       try clear c20
       try clear hcz12_0
       try clear hcz12_1
       try clear hcz12_2
       try clear hcz12_3
       try clear hcz12_4
       try clear hcz12_5
       try clear hcz12_6
       try clear hcz13_0
       try clear hcz13_1
       try clear hcz18_0
       try clear hcz18_1
       try clear hcz19_0
       try clear hcz19_1
       try clear hcz19_2
       try clear hcz19_3
       try clear hcz19_4
       try clear hcz19_5
       try clear hcz19_6
       try clear hcz21_0
       try clear hcz21_1
       try clear hcz22_0
       try clear hcz22_1
       try clear hcz22_2
       try clear hcz22_3
       try clear hcz22_4
       try clear hcz22_5
       try clear hcz22_6
       try clear hfz12_0
       try clear hfz12_1
       try clear hfz12_2
       try clear hfz12_3
       try clear hfz12_4
       try clear hfz12_5
       try clear hfz12_6
       try clear hfz13_0
       try clear hfz13_1
       try clear hfz18_0
       try clear hfz18_1
       try clear hfz19_0
       try clear hfz19_1
       try clear hfz19_2
       try clear hfz19_3
       try clear hfz19_4
       try clear hfz19_5
       try clear hfz19_6
       try clear hfz21_0
       try clear hfz21_1
       try clear hfz22_0
       try clear hfz22_1
       try clear hfz22_2
       try clear hfz22_3
       try clear hfz22_4
       try clear hfz22_5
       try clear hfz22_6
       try clear hx124_0
       try clear hx124_1
       try clear hx124_2
       try clear hx124_3
       try clear hx124_4
       try clear hx124_5
       try clear hx124_6
       try clear p124
       try clear p2
       try clear p3
       try clear q124
       obtain ⟨kq, x17_8, rfl, HA, HJ8, BK123, BK125, HB⟩ := hcut
       cases kq with
       | zero => exact absurd HA.out (by simp [filter_Permits.j1])
       | succ kj8 =>
        have H := HA.out
        clear HA
        simp only [filter_Permits.j1] at H
        by_cases c23 : x17_8 = true
        ·
         subst c23
         have H1 : (filter_Permits.l0 kj8 a2 x6_1 x7_1 l0 (l0.length : Int) (wrap64 (x12_1 + 1)) a1_0 a1_1) = some (r1, r2) := by rw [if_pos rfl] at H; exact H
         clear H
         have H := H1
         clear H1
         have H' := Aside0.mk H
         clear H
         (go_wp2); repeat ((go_step3); (go_wp2))
         go_roundg kj8
         case measure => have := HK1.out; have := HJ8.out; omega
         case rel => exact ⟨(x6_1), (x7_1), (wrap64 (x12_1 + 1)), (by first | rfl | (simp; done) | (simp [*]; done)), (by first | rfl | (simp; done) | (simp [*]; done)), (by first | rfl | (simp; done) | (simp [*]; done)), H', ⟨by have := HK1.out; have := HJ8.out; omega⟩, ⟨by (with_reducible repeat (first | refine blk_drewN ?_ _ | refine blk_drew ?_ | refine blk_alloc ?_ _)); exact BK123.out⟩, ⟨by repeat (first | (with_reducible first | exact HB.out | apply below_alloc | apply pw_below_drewN | apply below_drew1 | refine below_set ?_ GE123.out | refine below_set ?_ GE125.out) | exact HB.out)⟩⟩
        ·
         replace c23 := Bool.eq_false_iff.mpr c23
         subst c23
         have H1 : ((tags_Within.f ((rd_T61 l0 x12_1).f4) a2).bind fun t127 => (if t127 = true then (if (Go.bits .and .u16 ((rd_T61 l0 x12_1).f5) a2) = 0 then (some (((rd_T61 l0 x12_1).f0), x12_1)) else (filter_Permits.l0 kj8 a2 x6_1 x7_1 l0 (l0.length : Int) (wrap64 (x12_1 + 1)) a1_0 a1_1)) else (filter_Permits.l0 kj8 a2 x6_1 x7_1 l0 (l0.length : Int) (wrap64 (x12_1 + 1)) a1_0 a1_1))) = some (r1, r2) := by rw [if_neg (show ¬ (false = true) by decide)] at H; exact H
         clear H
         have H := H1
         clear H1
         replace H := Option.bind_eq_some_iff.mp H
         obtain ⟨t127, A240, H⟩ := H
         replace H : (if t127 = true then (if (Go.bits .and .u16 ((rd_T61 l0 x12_1).f5) a2) = 0 then (some (((rd_T61 l0 x12_1).f0), x12_1)) else (filter_Permits.l0 kj8 a2 x6_1 x7_1 l0 (l0.length : Int) (wrap64 (x12_1 + 1)) a1_0 a1_1)) else (filter_Permits.l0 kj8 a2 x6_1 x7_1 l0 (l0.length : Int) (wrap64 (x12_1 + 1)) a1_0 a1_1)) = some (r1, r2) := H
         have A24 := Aside0.mk A240
         clear A240
         by_cases c25 : t127 = true
         ·
          subst c25
          have H1 : (if (Go.bits .and .u16 ((rd_T61 l0 x12_1).f5) a2) = 0 then (some (((rd_T61 l0 x12_1).f0), x12_1)) else (filter_Permits.l0 kj8 a2 x6_1 x7_1 l0 (l0.length : Int) (wrap64 (x12_1 + 1)) a1_0 a1_1)) = some (r1, r2) := by rw [if_pos rfl] at H; exact H
          clear H
          have H := H1
          clear H1
          by_cases c26 : (Go.bits .and .u16 ((rd_T61 l0 x12_1).f5) a2) = 0
          ·
           rw [if_pos c26] at H
           have c26b0 : ((Go.bits .and .u16 ((rd_T61 l0 x12_1).f5) a2) == 0) = true := beq_iff_eq.mpr c26
           have c26b1 : ((Go.bits .and .u16 ((rd_T61 l0 x12_1).f5) a2) != 0) = false := bne_eq_false_iff_eq.mpr c26
           clear c26
           simp only [Option.some.injEq, Prod.mk.injEq] at H
           obtain ⟨rfl, rfl⟩ := H
           have hnb27 := NB125_123.out
           have hnc27 := NB123_125.out
           have hcz28_0 : wc.cell? ⟨gb125, 0, none⟩ = some (.bool ((rd_T61 l0 x12_1).f0)) := (blk_cell BK125.out 0).trans rfl
           have hcz28_1 : wc.cell? ⟨gb125, 1, none⟩ = some (.int .u32 ((rd_T61 l0 x12_1).f1.f0)) := (blk_cell BK125.out 1).trans rfl
           have hcz28_2 : wc.cell? ⟨gb125, 2, none⟩ = some (.int .i64 ((rd_T61 l0 x12_1).f1.f1)) := (blk_cell BK125.out 2).trans rfl
           have hcz28_3 : wc.cell? ⟨gb125, 3, none⟩ = some (.int .i64 ((rd_T61 l0 x12_1).f2)) := (blk_cell BK125.out 3).trans rfl
           have hcz28_4 : wc.cell? ⟨gb125, 4, none⟩ = some (.int .i64 ((rd_T61 l0 x12_1).f3)) := (blk_cell BK125.out 4).trans rfl
           have hcz28_5 : wc.cell? ⟨gb125, 5, none⟩ = some (.int .u16 ((rd_T61 l0 x12_1).f4)) := (blk_cell BK125.out 5).trans rfl
           have hcz28_6 : wc.cell? ⟨gb125, 6, none⟩ = some (.int .u16 ((rd_T61 l0 x12_1).f5)) := (blk_cell BK125.out 6).trans rfl
           have hfz28_0 := blk_frozen BK125.out 0
           have hfz28_1 := blk_frozen BK125.out 1
           have hfz28_2 := blk_frozen BK125.out 2
           have hfz28_3 := blk_frozen BK125.out 3
           have hfz28_4 := blk_frozen BK125.out 4
           have hfz28_5 := blk_frozen BK125.out 5
           have hfz28_6 := blk_frozen BK125.out 6
           (go_wp2_with (first | ((with_reducible refine gate_callee (f := 20) rfl ?_); refine goesL_ (some 37) rfl rfl Try.func20 (by kernel_rfl) rfl #[.int .u16 ((rd_T61 l0 x12_1).f4), .int .u16 a2] rfl (by (try simp only [List.map_toArray, List.map_cons, List.map_nil]); first | done | rfl | (simp only [List.length_drop, List.length_take]; rfl)) ?_; (with_reducible refine (tags_Within.calls ((rd_T61 l0 x12_1).f4) a2 true _ A24.out).mono ?_); rintro e w' ⟨rfl, ⟨nd, rfl⟩⟩; refine ⟨_, rfl, ?_⟩))); repeat ((go_step3); (go_wp2_with (first | ((with_reducible refine gate_callee (f := 20) rfl ?_); refine goesL_ (some 37) rfl rfl Try.func20 (by kernel_rfl) rfl #[.int .u16 ((rd_T61 l0 x12_1).f4), .int .u16 a2] rfl (by (try simp only [List.map_toArray, List.map_cons, List.map_nil]); first | done | rfl | (simp only [List.length_drop, List.length_take]; rfl)) ?_; (with_reducible refine (tags_Within.calls ((rd_T61 l0 x12_1).f4) a2 true _ A24.out).mono ?_); rintro e w' ⟨rfl, ⟨nd, rfl⟩⟩; refine ⟨_, rfl, ?_⟩))))
           (try simp only [Exit.noGoto_ret, jump_ret])
           go_ret2
           exact ⟨by first | rfl | (simp [errW_none, errW_some] <;> rfl) | (simp [*, errW_none, errW_some] <;> rfl), by repeat (first | (with_reducible first | exact HB.out | apply below_alloc | apply pw_below_drewN | apply below_drew1 | refine below_set ?_ GE123.out | refine below_set ?_ GE125.out) | exact HB.out)⟩
          ·
           rw [if_neg c26] at H
           have c26b0 : ((Go.bits .and .u16 ((rd_T61 l0 x12_1).f5) a2) == 0) = false := beq_eq_false_iff_ne.mpr c26
           have c26b1 : ((Go.bits .and .u16 ((rd_T61 l0 x12_1).f5) a2) != 0) = true := bne_iff_ne.mpr c26
           have H' := Aside0.mk H
           clear H
           have hnb29 := NB125_123.out
           have hnc29 := NB123_125.out
           have hcz30_0 : wc.cell? ⟨gb125, 0, none⟩ = some (.bool ((rd_T61 l0 x12_1).f0)) := (blk_cell BK125.out 0).trans rfl
           have hcz30_1 : wc.cell? ⟨gb125, 1, none⟩ = some (.int .u32 ((rd_T61 l0 x12_1).f1.f0)) := (blk_cell BK125.out 1).trans rfl
           have hcz30_2 : wc.cell? ⟨gb125, 2, none⟩ = some (.int .i64 ((rd_T61 l0 x12_1).f1.f1)) := (blk_cell BK125.out 2).trans rfl
           have hcz30_3 : wc.cell? ⟨gb125, 3, none⟩ = some (.int .i64 ((rd_T61 l0 x12_1).f2)) := (blk_cell BK125.out 3).trans rfl
           have hcz30_4 : wc.cell? ⟨gb125, 4, none⟩ = some (.int .i64 ((rd_T61 l0 x12_1).f3)) := (blk_cell BK125.out 4).trans rfl
           have hcz30_5 : wc.cell? ⟨gb125, 5, none⟩ = some (.int .u16 ((rd_T61 l0 x12_1).f4)) := (blk_cell BK125.out 5).trans rfl
           have hcz30_6 : wc.cell? ⟨gb125, 6, none⟩ = some (.int .u16 ((rd_T61 l0 x12_1).f5)) := (blk_cell BK125.out 6).trans rfl
           have hfz30_0 := blk_frozen BK125.out 0
           have hfz30_1 := blk_frozen BK125.out 1
           have hfz30_2 := blk_frozen BK125.out 2
           have hfz30_3 := blk_frozen BK125.out 3
           have hfz30_4 := blk_frozen BK125.out 4
           have hfz30_5 := blk_frozen BK125.out 5
           have hfz30_6 := blk_frozen BK125.out 6
           (go_wp2_with (first | ((with_reducible refine gate_callee (f := 20) rfl ?_); refine goesL_ (some 37) rfl rfl Try.func20 (by kernel_rfl) rfl #[.int .u16 ((rd_T61 l0 x12_1).f4), .int .u16 a2] rfl (by (try simp only [List.map_toArray, List.map_cons, List.map_nil]); first | done | rfl | (simp only [List.length_drop, List.length_take]; rfl)) ?_; (with_reducible refine (tags_Within.calls ((rd_T61 l0 x12_1).f4) a2 true _ A24.out).mono ?_); rintro e w' ⟨rfl, ⟨nd, rfl⟩⟩; refine ⟨_, rfl, ?_⟩))); repeat ((go_step3); (go_wp2_with (first | ((with_reducible refine gate_callee (f := 20) rfl ?_); refine goesL_ (some 37) rfl rfl Try.func20 (by kernel_rfl) rfl #[.int .u16 ((rd_T61 l0 x12_1).f4), .int .u16 a2] rfl (by (try simp only [List.map_toArray, List.map_cons, List.map_nil]); first | done | rfl | (simp only [List.length_drop, List.length_take]; rfl)) ?_; (with_reducible refine (tags_Within.calls ((rd_T61 l0 x12_1).f4) a2 true _ A24.out).mono ?_); rintro e w' ⟨rfl, ⟨nd, rfl⟩⟩; refine ⟨_, rfl, ?_⟩))))
           go_roundg kj8
           case measure => have := HK1.out; have := HJ8.out; omega
           case rel => exact ⟨(x6_1), (x7_1), (wrap64 (x12_1 + 1)), (by first | rfl | (simp; done) | (simp [*]; done)), (by first | rfl | (simp; done) | (simp [*]; done)), (by first | rfl | (simp; done) | (simp [*]; done)), H', ⟨by have := HK1.out; have := HJ8.out; omega⟩, ⟨by (with_reducible repeat (first | refine blk_drewN ?_ _ | refine blk_drew ?_ | refine blk_alloc ?_ _)); exact BK123.out⟩, ⟨by repeat (first | (with_reducible first | exact HB.out | apply below_alloc | apply pw_below_drewN | apply below_drew1 | refine below_set ?_ GE123.out | refine below_set ?_ GE125.out) | exact HB.out)⟩⟩
         ·
          replace c25 := Bool.eq_false_iff.mpr c25
          subst c25
          have H1 : (filter_Permits.l0 kj8 a2 x6_1 x7_1 l0 (l0.length : Int) (wrap64 (x12_1 + 1)) a1_0 a1_1) = some (r1, r2) := by rw [if_neg (show ¬ (false = true) by decide)] at H; exact H
          clear H
          have H := H1
          clear H1
          have H' := Aside0.mk H
          clear H
          have hnb31 := NB125_123.out
          have hnc31 := NB123_125.out
          have hcz32_0 : wc.cell? ⟨gb125, 0, none⟩ = some (.bool ((rd_T61 l0 x12_1).f0)) := (blk_cell BK125.out 0).trans rfl
          have hcz32_1 : wc.cell? ⟨gb125, 1, none⟩ = some (.int .u32 ((rd_T61 l0 x12_1).f1.f0)) := (blk_cell BK125.out 1).trans rfl
          have hcz32_2 : wc.cell? ⟨gb125, 2, none⟩ = some (.int .i64 ((rd_T61 l0 x12_1).f1.f1)) := (blk_cell BK125.out 2).trans rfl
          have hcz32_3 : wc.cell? ⟨gb125, 3, none⟩ = some (.int .i64 ((rd_T61 l0 x12_1).f2)) := (blk_cell BK125.out 3).trans rfl
          have hcz32_4 : wc.cell? ⟨gb125, 4, none⟩ = some (.int .i64 ((rd_T61 l0 x12_1).f3)) := (blk_cell BK125.out 4).trans rfl
          have hcz32_5 : wc.cell? ⟨gb125, 5, none⟩ = some (.int .u16 ((rd_T61 l0 x12_1).f4)) := (blk_cell BK125.out 5).trans rfl
          have hcz32_6 : wc.cell? ⟨gb125, 6, none⟩ = some (.int .u16 ((rd_T61 l0 x12_1).f5)) := (blk_cell BK125.out 6).trans rfl
          have hfz32_0 := blk_frozen BK125.out 0
          have hfz32_1 := blk_frozen BK125.out 1
          have hfz32_2 := blk_frozen BK125.out 2
          have hfz32_3 := blk_frozen BK125.out 3
          have hfz32_4 := blk_frozen BK125.out 4
          have hfz32_5 := blk_frozen BK125.out 5
          have hfz32_6 := blk_frozen BK125.out 6
          (go_wp2_with (first | ((with_reducible refine gate_callee (f := 20) rfl ?_); refine goesL_ (some 37) rfl rfl Try.func20 (by kernel_rfl) rfl #[.int .u16 ((rd_T61 l0 x12_1).f4), .int .u16 a2] rfl (by (try simp only [List.map_toArray, List.map_cons, List.map_nil]); first | done | rfl | (simp only [List.length_drop, List.length_take]; rfl)) ?_; (with_reducible refine (tags_Within.calls ((rd_T61 l0 x12_1).f4) a2 false _ A24.out).mono ?_); rintro e w' ⟨rfl, ⟨nd, rfl⟩⟩; refine ⟨_, rfl, ?_⟩))); repeat ((go_step3); (go_wp2_with (first | ((with_reducible refine gate_callee (f := 20) rfl ?_); refine goesL_ (some 37) rfl rfl Try.func20 (by kernel_rfl) rfl #[.int .u16 ((rd_T61 l0 x12_1).f4), .int .u16 a2] rfl (by (try simp only [List.map_toArray, List.map_cons, List.map_nil]); first | done | rfl | (simp only [List.length_drop, List.length_take]; rfl)) ?_; (with_reducible refine (tags_Within.calls ((rd_T61 l0 x12_1).f4) a2 false _ A24.out).mono ?_); rintro e w' ⟨rfl, ⟨nd, rfl⟩⟩; refine ⟨_, rfl, ?_⟩))))
          go_roundg kj8
          case measure => have := HK1.out; have := HJ8.out; omega
          case rel => exact ⟨(x6_1), (x7_1), (wrap64 (x12_1 + 1)), (by first | rfl | (simp; done) | (simp [*]; done)), (by first | rfl | (simp; done) | (simp [*]; done)), (by first | rfl | (simp; done) | (simp [*]; done)), H', ⟨by have := HK1.out; have := HJ8.out; omega⟩, ⟨by (with_reducible repeat (first | refine blk_drewN ?_ _ | refine blk_drew ?_ | refine blk_alloc ?_ _)); exact BK123.out⟩, ⟨by repeat (first | (with_reducible first | exact HB.out | apply below_alloc | apply pw_below_drewN | apply below_drew1 | refine below_set ?_ GE123.out | refine below_set ?_ GE125.out) | exact HB.out)⟩⟩
     ·
      rw [if_neg c7] at H
      exact absurd H (by simp)
    ·
     rw [if_neg c6] at H
     exact absurd H (by simp)
   ·
    rw [if_neg c5] at H
    have c5b0 : decide (x12_1 < (l0.length : Int)) = false := decide_eq_false c5
    clear c5
    simp only [Option.some.injEq, Prod.mk.injEq] at H
    obtain ⟨rfl, rfl⟩ := H
    (go_wp2); repeat ((go_step3); (go_wp2))
    (try simp only [Exit.noGoto_ret, jump_ret])
    go_ret2
    exact ⟨by first | rfl | (simp [errW_none, errW_some] <;> rfl) | (simp [*, errW_none, errW_some] <;> rfl), by repeat (first | (with_reducible first | exact HB.out | apply below_alloc | apply pw_below_drewN | apply below_drew1 | refine below_set ?_ GE123.out) | exact HB.out)⟩

/-! ### trans_To: function 24 -/
mutual
def trans_To.l0 : Nat → List (S64) → Int → Int → Int → Option (Int × Bool)
 | 0, _, _, _, _ => none
 | k + 1, x0, x1, x2, x8 => if x8 < (x0.length : Int) then (if 0 ≤ x8 then (trans_To.j1 k x0 x1 x2 x8 (decide (((rd_T64 x0 x8).f0) < x2))) else (none)) else (trans_To.j1 k x0 x1 x2 x8 false)
def trans_To.j1 : Nat → List (S64) → Int → Int → Int → Bool → Option (Int × Bool)
 | 0, _, _, _, _, _ => none
 | k + 1, x0, x1, x2, x8, x11 => if x11 = true then (trans_To.l0 k x0 x1 x2 (wrap64 (x8 + 1))) else (if x8 < (x0.length : Int) then (if 0 ≤ x8 then (some ((rd_T64 x0 x8).f1, true)) else (none)) else ((trans_fits.f x1).bind fun t130 => (if t130 = true then (some (x1, true)) else (some (0, false)))))
end
def trans_To.f (k : Nat) (l0 : List (S64)) (a1 : Int) (a2 : Int) : Option (Int × Bool) := if a2 < 0 then (some (0, false)) else (trans_To.l0 k l0 a1 a2 0)
theorem trans_To.mono_l : ∀ k, (∀ y0 y1 y2 y3, LeO (trans_To.l0 k y0 y1 y2 y3) (trans_To.l0 (k + 1) y0 y1 y2 y3)) ∧ (∀ y0 y1 y2 y3 y4, LeO (trans_To.j1 k y0 y1 y2 y3 y4) (trans_To.j1 (k + 1) y0 y1 y2 y3 y4))
 | 0 => ⟨fun _ _ _ _ r h => by simp [trans_To.l0] at h, fun _ _ _ _ _ r h => by simp [trans_To.j1] at h⟩
 | k + 1 => by
  obtain ⟨ih0, ih1⟩ := trans_To.mono_l k
  refine ⟨?_, ?_⟩
  ·
   intro y0 y1 y2 y3
   unfold trans_To.l0
   repeat' first
   | (with_reducible exact ih0 _ _ _ _)
   | (with_reducible exact ih1 _ _ _ _ _)
   | (with_reducible exact LeO.refl _)
   | (with_reducible exact LeO.none _)
   | (with_reducible refine LeO.ite ?_ ?_)
   | (with_reducible refine LeO.bind ?_ (fun _ => ?_))
   | exact ih0 _ _ _ _
   | exact ih1 _ _ _ _ _
   | exact LeO.none _
   | refine LeO.ite ?_ ?_
   | refine LeO.bind ?_ (fun _ => ?_)
  ·
   intro y0 y1 y2 y3 y4
   unfold trans_To.j1
   repeat' first
   | (with_reducible exact ih0 _ _ _ _)
   | (with_reducible exact ih1 _ _ _ _ _)
   | (with_reducible exact LeO.refl _)
   | (with_reducible exact LeO.none _)
   | (with_reducible refine LeO.ite ?_ ?_)
   | (with_reducible refine LeO.bind ?_ (fun _ => ?_))
   | exact ih0 _ _ _ _
   | exact ih1 _ _ _ _ _
   | exact LeO.none _
   | refine LeO.ite ?_ ?_
   | refine LeO.bind ?_ (fun _ => ?_)
theorem trans_To.mono : ∀ a0 a1 a2 k, LeO (trans_To.f k a0 a1 a2) (trans_To.f (k + 1) a0 a1 a2) := by
 intro a0 a1 a2 k
 obtain ⟨ih0, ih1⟩ := trans_To.mono_l k
 unfold trans_To.f
 repeat' first
   | (with_reducible exact ih0 _ _ _ _)
   | (with_reducible exact ih1 _ _ _ _ _)
   | (with_reducible exact LeO.refl _)
   | (with_reducible exact LeO.none _)
   | (with_reducible refine LeO.ite ?_ ?_)
   | (with_reducible refine LeO.bind ?_ (fun _ => ?_))
   | exact ih0 _ _ _ _
   | exact ih1 _ _ _ _ _
   | exact LeO.none _
   | refine LeO.ite ?_ ?_
   | refine LeO.bind ?_ (fun _ => ?_)
set_option maxHeartbeats 8000000 in
set_option maxRecDepth 100000 in
theorem trans_To.calls (k : Nat) (A0 : Option Addr) (c0 : Nat) (l0 : List (S64)) (a1 : Int) (a2 : Int) (r1 : Int) (r2 : Bool) (w : World) (hr0 : Kd.C k64 w A0 l0.length l0) (hc0 : l0.length ≤ c0) (h : trans_To.f k l0 a1 a2 = some (r1, r2)) :
  Calls Try.prog 24 #[.slice A0 l0.length c0, .int .i64 a1, .int .i64 a2] w fun e w' => e = .returned (.tuple #[.int .i64 r1, .bool r2]) ∧ Drawn0 w w' := by
 have HR0 := Aside0.mk hr0
 have HC0 := Aside0.mk hc0
 clear hr0 hc0
 have H : (if a2 < 0 then (some (0, false)) else (trans_To.l0 k l0 a1 a2 0)) = some (r1, r2) := h
 clear h
 by_cases c4 : a2 < 0
 ·
  rw [if_pos c4] at H
  have c4b0 : decide (a2 < 0) = true := decide_eq_true c4
  clear c4
  simp only [Option.some.injEq, Prod.mk.injEq] at H
  obtain ⟨rfl, rfl⟩ := H
  go_enter Try.func24, Try.ntmps24
  (go_wp2); repeat (((with_reducible refine wp_scope_lab 0 ?hf_ ?_); (case hf_ => rfl)); (go_wp2))
  (try simp only [Exit.noGoto_ret, jump_ret])
  go_ret2
  exact ⟨by first | rfl | (simp; done) | (simp [*]; done), by repeat (first | exact Drawn0.refl _ | apply Drawn0.step)⟩
 ·
  rw [if_neg c4] at H
  have c4b0 : decide (a2 < 0) = false := decide_eq_false c4
  clear c4
  have H' := Aside0.mk H
  clear H
  go_enter Try.func24, Try.ntmps24
  (go_wp2); repeat (((with_reducible refine wp_scope_lab 0 ?hf_ ?_); (case hf_ => rfl)); (go_wp2))
  refine wp_label_at (r := ?r_) (Q' := ?q_) ?hk_ ?_
  case hk_ => assumption
  apply wp_label_ghost ((fun (s0_ s1_ s2_ s3_ s4_ s5_ : Value) (kq : Nat) (a' : Act) (w' : World) => ∃ (u6 u7 u8 u9 u10 u11 u12 u13 u14 u15 u16 u17 u18 u19 u20 u21 u22 u23 u24 u25 u26 u27 u28 u29 u30 u31 u32 u33 u34 u35 u36 u37 u38 u39 u40 : Value), (∃ (x8_1 : Int), u8 = .int .i64 x8_1 ∧ Aside0 (trans_To.l0 kq l0 a1 a2 x8_1 = some (r1, r2)) ∧ Aside0 (kq ≤ k) ∧ Drawn0 w w') ∧ a' = { tmps := (s0_ :: s1_ :: s2_ :: s3_ :: s4_ :: s5_ :: u6 :: u7 :: u8 :: u9 :: u10 :: u11 :: u12 :: u13 :: u14 :: u15 :: u16 :: u17 :: u18 :: u19 :: u20 :: u21 :: u22 :: u23 :: u24 :: u25 :: u26 :: u27 :: u28 :: u29 :: u30 :: u31 :: u32 :: u33 :: u34 :: u35 :: u36 :: u37 :: u38 :: u39 :: u40 :: []).toArray, defers := [] }) _ _ _ _ _ _) k
  case hf_ => rfl
  case pre_ =>
   (repeat apply Exists.intro)
   refine ⟨?_, rfl⟩
   exact ⟨(0), (by first | rfl | (simp; done) | (simp [*]; done)), H', ⟨Nat.le_refl _⟩, by repeat (first | exact Drawn0.refl _ | apply Drawn0.step)⟩
  case round =>
   intro gk a' wr hinv
   obtain ⟨u6, u7, u8, u9, u10, u11, u12, u13, u14, u15, u16, u17, u18, u19, u20, u21, u22, u23, u24, u25, u26, u27, u28, u29, u30, u31, u32, u33, u34, u35, u36, u37, u38, u39, u40, hrel, ha⟩ := hinv
   subst ha
   intro _ _ _ _
   clear H'
   try clear c2
   try clear p2
   try clear c4
   try clear c4b0
   obtain ⟨x8_1, rfl, HA, HK1, ⟨m1, rfl⟩⟩ := hrel
   cases gk with
   | zero => exact absurd HA.out (by simp [trans_To.l0])
   | succ k1 =>
    have H := HA.out
    clear HA
    simp only [trans_To.l0] at H
    have HC5 := Aside0.mk H
    clear H
    (go_upto_region 4 with (fail)); repeat (((with_reducible refine wp_scope_lab 0 ?hf_ ?_); (case hf_ => rfl)); (go_upto_region 4 with (fail)))
    go_cut [11] (fun v11 wc => ∃ (kq : Nat) (x11_4 : Bool), v11 = .bool x11_4 ∧ Aside0 (trans_To.j1 kq l0 a1 a2 x8_1 x11_4 = some (r1, r2)) ∧ Aside0 (kq ≤ k1) ∧ Drawn0 w wc)
    case first =>
     have H := HC5.out
     clear HC5
     by_cases c6 : x8_1 < (l0.length : Int)
     ·
      rw [if_pos c6] at H
      have c6b0 : decide (x8_1 < (l0.length : Int)) = true := decide_eq_true c6
      clear c6
      (first | rw [c6b0] | (simp only [i64_w, i32_w]; rw [c6b0]) | skip)
      by_cases c7 : 0 ≤ x8_1
      ·
       rw [if_pos c7] at H
       have c7b0 : decide (0 ≤ x8_1) = true := decide_eq_true c7
       clear c7
       have H' := Aside0.mk H
       clear H
       have p128 : 0 ≤ (x8_1 : Int) := of_decide_eq_true (by first | (with_reducible assumption) | assumption)
       have q128 : x8_1 < (l0.length : Int) := of_decide_eq_true (by first | (with_reducible assumption) | assumption)
       obtain ⟨ad128, e128, hx128_0, hx128_1⟩ := at_T64 HR0.out x8_1 p128 q128
       cases e128
       replace p128 := eq_true p128
       replace q128 := eq_true q128
       (go_wp2); repeat (((with_reducible refine wp_scope_lab 0 ?hf_ ?_); (case hf_ => rfl)); (go_wp2))
       go_meet
       case rel => exact ⟨_, (decide (((rd_T64 l0 x8_1).f0) < a2)), (by first | rfl | (simp; done) | (simp [*]; done)), H', ⟨by have := HK1.out; first | omega | exact Nat.le_refl _⟩, by repeat (first | exact Drawn0.refl _ | apply Drawn0.step)⟩
      ·
       rw [if_neg c7] at H
       exact absurd H (by simp)
     ·
      rw [if_neg c6] at H
      have c6b0 : decide (x8_1 < (l0.length : Int)) = false := decide_eq_false c6
      clear c6
      (first | rw [c6b0] | (simp only [i64_w, i32_w]; rw [c6b0]) | skip)
      have H' := Aside0.mk H
      clear H
      (go_wp2); repeat (((with_reducible refine wp_scope_lab 0 ?hf_ ?_); (case hf_ => rfl)); (go_wp2))
      go_meet
      case rel => exact ⟨_, (false), (by first | rfl | (simp; done) | (simp [*]; done)), H', ⟨by have := HK1.out; first | omega | exact Nat.le_refl _⟩, by repeat (first | exact Drawn0.refl _ | apply Drawn0.step)⟩
    case rest =>
     clear HC5
     try clear p1
     try clear q1
     try clear hx1
     try clear c2
     try clear p2
     try clear c4
     try clear c4b0
     try clear c6
     try clear c6b0
     try clear c7
     try clear c7b0
     try clear hx128_0
     try clear hx128_1
     try clear p128
     try clear p2
     try clear q128
     obtain ⟨kq, x11_4, rfl, HA, HJ4, ⟨mc4, rfl⟩⟩ := hcut
     cases kq with
     | zero => exact absurd HA.out (by simp [trans_To.j1])
     | succ kj4 =>
      have H := HA.out
      clear HA
      simp only [trans_To.j1] at H
      by_cases c8 : x11_4 = true
      ·
       subst c8
       have H1 : (trans_To.l0 kj4 l0 a1 a2 (wrap64 (x8_1 + 1))) = some (r1, r2) := by rw [if_pos rfl] at H; exact H
       clear H
       have H := H1
       clear H1
       have H' := Aside0.mk H
       clear H
       (go_wp2); repeat (((with_reducible refine wp_scope_lab 0 ?hf_ ?_); (case hf_ => rfl)); (go_wp2))
       go_step3
       refine And.intro rfl ?_
       go_wp2
       go_roundg kj4
       case measure => have := HK1.out; have := HJ4.out; omega
       case rel => exact ⟨(wrap64 (x8_1 + 1)), (by first | rfl | (simp; done) | (simp [*]; done)), H', ⟨by have := HK1.out; have := HJ4.out; omega⟩, by repeat (first | exact Drawn0.refl _ | apply Drawn0.step)⟩
      ·
       replace c8 := Bool.eq_false_iff.mpr c8
       subst c8
       have H1 : (if x8_1 < (l0.length : Int) then (if 0 ≤ x8_1 then (some ((rd_T64 l0 x8_1).f1, true)) else (none)) else ((trans_fits.f a1).bind fun t130 => (if t130 = true then (some (a1, true)) else (some (0, false))))) = some (r1, r2) := by rw [if_neg (show ¬ (false = true) by decide)] at H; exact H
       clear H
       have H := H1
       clear H1
       by_cases c9 : x8_1 < (l0.length : Int)
       ·
        rw [if_pos c9] at H
        have c9b0 : decide (x8_1 < (l0.length : Int)) = true := decide_eq_true c9
        clear c9
        by_cases c10 : 0 ≤ x8_1
        ·
         rw [if_pos c10] at H
         have c10b0 : decide (0 ≤ x8_1) = true := decide_eq_true c10
         clear c10
         simp only [Option.some.injEq, Prod.mk.injEq] at H
         obtain ⟨rfl, rfl⟩ := H
         have p129 : 0 ≤ (x8_1 : Int) := of_decide_eq_true (by first | (with_reducible assumption) | assumption)
         have q129 : x8_1 < (l0.length : Int) := of_decide_eq_true (by first | (with_reducible assumption) | assumption)
         obtain ⟨ad129, e129, hx129_0, hx129_1⟩ := at_T64 HR0.out x8_1 p129 q129
         cases e129
         replace p129 := eq_true p129
         replace q129 := eq_true q129
         (go_wp2); repeat (((with_reducible refine wp_scope_lab 0 ?hf_ ?_); (case hf_ => rfl)); (go_wp2))
         (try simp only [Exit.noGoto_ret, jump_ret])
         go_ret2
         exact ⟨by first | rfl | (simp; done) | (simp [*]; done), by repeat (first | exact Drawn0.refl _ | apply Drawn0.step)⟩
        ·
         rw [if_neg c10] at H
         exact absurd H (by simp)
       ·
        rw [if_neg c9] at H
        have c9b0 : decide (x8_1 < (l0.length : Int)) = false := decide_eq_false c9
        clear c9
        replace H := Option.bind_eq_some_iff.mp H
        obtain ⟨t130, A110, H⟩ := H
        replace H : (if t130 = true then (some (a1, true)) else (some (0, false))) = some (r1, r2) := H
        have A11 := Aside0.mk A110
        clear A110
        by_cases c12 : t130 = true
        ·
         subst c12
         have H1 : (some (a1, true)) = some (r1, r2) := by rw [if_pos rfl] at H; exact H
         clear H
         have H := H1
         clear H1
         simp only [Option.some.injEq, Prod.mk.injEq] at H
         obtain ⟨rfl, rfl⟩ := H
         (go_wp2_with (first | ((with_reducible refine gate_callee (f := 38) rfl ?_); refine goesL_ (some 39) rfl rfl Try.func38 (by kernel_rfl) rfl #[.int .i64 a1] rfl (by (try simp only [List.map_toArray, List.map_cons, List.map_nil]); first | done | rfl | (simp only [List.length_drop, List.length_take]; rfl)) ?_; (with_reducible refine (trans_fits.calls a1 true _ A11.out).mono ?_); rintro e w' ⟨rfl, ⟨nd, rfl⟩⟩; refine ⟨_, rfl, ?_⟩))); repeat (((with_reducible refine wp_scope_lab 0 ?hf_ ?_); (case hf_ => rfl)); (go_wp2_with (first | ((with_reducible refine gate_callee (f := 38) rfl ?_); refine goesL_ (some 39) rfl rfl Try.func38 (by kernel_rfl) rfl #[.int .i64 a1] rfl (by (try simp only [List.map_toArray, List.map_cons, List.map_nil]); first | done | rfl | (simp only [List.length_drop, List.length_take]; rfl)) ?_; (with_reducible refine (trans_fits.calls a1 true _ A11.out).mono ?_); rintro e w' ⟨rfl, ⟨nd, rfl⟩⟩; refine ⟨_, rfl, ?_⟩))))
         (try simp only [Exit.noGoto_ret, jump_ret])
         go_ret2
         exact ⟨by first | rfl | (simp; done) | (simp [*]; done), by repeat (first | exact Drawn0.refl _ | apply Drawn0.step)⟩
        ·
         replace c12 := Bool.eq_false_iff.mpr c12
         subst c12
         have H1 : (some (0, false)) = some (r1, r2) := by rw [if_neg (show ¬ (false = true) by decide)] at H; exact H
         clear H
         have H := H1
         clear H1
         simp only [Option.some.injEq, Prod.mk.injEq] at H
         obtain ⟨rfl, rfl⟩ := H
         (go_wp2_with (first | ((with_reducible refine gate_callee (f := 38) rfl ?_); refine goesL_ (some 39) rfl rfl Try.func38 (by kernel_rfl) rfl #[.int .i64 a1] rfl (by (try simp only [List.map_toArray, List.map_cons, List.map_nil]); first | done | rfl | (simp only [List.length_drop, List.length_take]; rfl)) ?_; (with_reducible refine (trans_fits.calls a1 false _ A11.out).mono ?_); rintro e w' ⟨rfl, ⟨nd, rfl⟩⟩; refine ⟨_, rfl, ?_⟩))); repeat (((with_reducible refine wp_scope_lab 0 ?hf_ ?_); (case hf_ => rfl)); (go_wp2_with (first | ((with_reducible refine gate_callee (f := 38) rfl ?_); refine goesL_ (some 39) rfl rfl Try.func38 (by kernel_rfl) rfl #[.int .i64 a1] rfl (by (try simp only [List.map_toArray, List.map_cons, List.map_nil]); first | done | rfl | (simp only [List.length_drop, List.length_take]; rfl)) ?_; (with_reducible refine (trans_fits.calls a1 false _ A11.out).mono ?_); rintro e w' ⟨rfl, ⟨nd, rfl⟩⟩; refine ⟨_, rfl, ?_⟩))))
         (try simp only [Exit.noGoto_ret, jump_ret])
         go_ret2
         exact ⟨by first | rfl | (simp; done) | (simp [*]; done), by repeat (first | exact Drawn0.refl _ | apply Drawn0.step)⟩

/-! ### tags_Add: function 25 -/
def tags_Add.f (a0 : Int) (a1 : Int) : Option (Int × Int) := (tags_may.f a1).bind fun t131 => (if t131 = true then ((tags_Has.f a0 a1).bind fun t132 => (if t132 = true then (some (0, 6)) else (if 0 ≤ a1 then (some (Go.bits .or .u16 a0 (shl .u16 1 a1), 0)) else (none)))) else (some (0, 1)))
set_option maxHeartbeats 8000000 in
set_option maxRecDepth 100000 in
theorem tags_Add.calls (a0 : Int) (a1 : Int) (r1 : Int) (r2 : Int) (w : World) (h : tags_Add.f a0 a1 = some (r1, r2)) :
  Calls Try.prog 25 #[.int .u16 a0, .int .i64 a1] w fun e w' => e = .returned (.tuple #[.int .u16 r1, .int .i64 r2]) ∧ Drawn0 w w' := by
 have H : ((tags_may.f a1).bind fun t131 => (if t131 = true then ((tags_Has.f a0 a1).bind fun t132 => (if t132 = true then (some (0, 6)) else (if 0 ≤ a1 then (some (Go.bits .or .u16 a0 (shl .u16 1 a1), 0)) else (none)))) else (some (0, 1)))) = some (r1, r2) := h
 clear h
 replace H := Option.bind_eq_some_iff.mp H
 obtain ⟨t131, A30, H⟩ := H
 replace H : (if t131 = true then ((tags_Has.f a0 a1).bind fun t132 => (if t132 = true then (some (0, 6)) else (if 0 ≤ a1 then (some (Go.bits .or .u16 a0 (shl .u16 1 a1), 0)) else (none)))) else (some (0, 1))) = some (r1, r2) := H
 have A3 := Aside0.mk A30
 clear A30
 by_cases c4 : t131 = true
 ·
  subst c4
  have H1 : ((tags_Has.f a0 a1).bind fun t132 => (if t132 = true then (some (0, 6)) else (if 0 ≤ a1 then (some (Go.bits .or .u16 a0 (shl .u16 1 a1), 0)) else (none)))) = some (r1, r2) := by rw [if_pos rfl] at H; exact H
  clear H
  have H := H1
  clear H1
  replace H := Option.bind_eq_some_iff.mp H
  obtain ⟨t132, A50, H⟩ := H
  replace H : (if t132 = true then (some (0, 6)) else (if 0 ≤ a1 then (some (Go.bits .or .u16 a0 (shl .u16 1 a1), 0)) else (none))) = some (r1, r2) := H
  have A5 := Aside0.mk A50
  clear A50
  by_cases c6 : t132 = true
  ·
   subst c6
   have H1 : (some (0, 6)) = some (r1, r2) := by rw [if_pos rfl] at H; exact H
   clear H
   have H := H1
   clear H1
   simp only [Option.some.injEq, Prod.mk.injEq] at H
   obtain ⟨rfl, rfl⟩ := H
   go_enter Try.func25, Try.ntmps25
   go_wp2_with (first | ((with_reducible refine gate_callee (f := 36) rfl ?_); refine goesL_ (some 8) rfl rfl Try.func36 (by kernel_rfl) rfl #[.int .i64 a1] rfl (by (try simp only [List.map_toArray, List.map_cons, List.map_nil]); first | done | rfl | (simp only [List.length_drop, List.length_take]; rfl)) ?_; (with_reducible refine (tags_may.calls a1 true _ A3.out).mono ?_); rintro e w' ⟨rfl, ⟨nd, rfl⟩⟩; refine ⟨_, rfl, ?_⟩) | ((with_reducible refine gate_callee (f := 21) rfl ?_); refine goesL_ (some 13) rfl rfl Try.func21 (by kernel_rfl) rfl #[.int .u16 a0, .int .i64 a1] rfl (by (try simp only [List.map_toArray, List.map_cons, List.map_nil]); first | done | rfl | (simp only [List.length_drop, List.length_take]; rfl)) ?_; (with_reducible refine (tags_Has.calls a0 a1 true _ A5.out).mono ?_); rintro e w' ⟨rfl, ⟨nd, rfl⟩⟩; refine ⟨_, rfl, ?_⟩))
   go_ret2
   exact ⟨by first | rfl | (simp; done) | (simp [*]; done), by repeat (first | exact Drawn0.refl _ | apply Drawn0.step)⟩
  ·
   replace c6 := Bool.eq_false_iff.mpr c6
   subst c6
   have H1 : (if 0 ≤ a1 then (some (Go.bits .or .u16 a0 (shl .u16 1 a1), 0)) else (none)) = some (r1, r2) := by rw [if_neg (show ¬ (false = true) by decide)] at H; exact H
   clear H
   have H := H1
   clear H1
   by_cases c7 : 0 ≤ a1
   ·
    rw [if_pos c7] at H
    have c7b0 := eq_true c7
    have c7b1 : decide (0 ≤ a1) = true := decide_eq_true c7
    clear c7
    obtain ⟨ji8, hji8⟩ : ∃ j_ : Int, (shl .u16 1 a1) = j_ := ⟨_, rfl⟩
    replace H : (some (Go.bits .or .u16 a0 (ji8), 0)) = some (r1, r2) := by first | (rw [hji8] at H; exact H) | (simp only [hji8] at H ⊢; exact H)
    (try rw [hji8] at A3)
    (try rw [hji8] at A5)
    have hji8_ : (IntKind.u16.wrap (1 * 2 ^ min a1.toNat 16)) = ji8 := hji8
    have hji8z : a1 ≤ 16 → (IntKind.u16.wrap (1 * 2 ^ a1.toNat)) = ji8 := shl_small hji8
    have hji8u : (IntKind.u16.wrap (2 ^ min a1.toNat 16)) = ji8 := by have h_ := hji8_; rw [Int.one_mul] at h_; exact h_
    have hji8v : a1 ≤ 16 → (IntKind.u16.wrap (2 ^ a1.toNat)) = ji8 := fun hle_ => by have h_ := hji8z hle_; rw [Int.one_mul] at h_; exact h_
    simp only [Option.some.injEq, Prod.mk.injEq] at H
    obtain ⟨rfl, rfl⟩ := H
    go_enter Try.func25, Try.ntmps25
    go_wp2_with (first | ((with_reducible refine gate_callee (f := 36) rfl ?_); refine goesL_ (some 8) rfl rfl Try.func36 (by kernel_rfl) rfl #[.int .i64 a1] rfl (by (try simp only [List.map_toArray, List.map_cons, List.map_nil]); first | done | rfl | (simp only [List.length_drop, List.length_take]; rfl)) ?_; (with_reducible refine (tags_may.calls a1 true _ A3.out).mono ?_); rintro e w' ⟨rfl, ⟨nd, rfl⟩⟩; refine ⟨_, rfl, ?_⟩) | ((with_reducible refine gate_callee (f := 21) rfl ?_); refine goesL_ (some 13) rfl rfl Try.func21 (by kernel_rfl) rfl #[.int .u16 a0, .int .i64 a1] rfl (by (try simp only [List.map_toArray, List.map_cons, List.map_nil]); first | done | rfl | (simp only [List.length_drop, List.length_take]; rfl)) ?_; (with_reducible refine (tags_Has.calls a0 a1 false _ A5.out).mono ?_); rintro e w' ⟨rfl, ⟨nd, rfl⟩⟩; refine ⟨_, rfl, ?_⟩))
    go_ret2
    exact ⟨by first | rfl | (simp; done) | (simp only [← hji8] <;> (first | rfl | simp)) | (simp [*]; done), by repeat (first | exact Drawn0.refl _ | apply Drawn0.step)⟩
   ·
    rw [if_neg c7] at H
    exact absurd H (by simp)
 ·
  replace c4 := Bool.eq_false_iff.mpr c4
  subst c4
  have H1 : (some (0, 1)) = some (r1, r2) := by rw [if_neg (show ¬ (false = true) by decide)] at H; exact H
  clear H
  have H := H1
  clear H1
  simp only [Option.some.injEq, Prod.mk.injEq] at H
  obtain ⟨rfl, rfl⟩ := H
  go_enter Try.func25, Try.ntmps25
  go_wp2_with (first | ((with_reducible refine gate_callee (f := 36) rfl ?_); refine goesL_ (some 8) rfl rfl Try.func36 (by kernel_rfl) rfl #[.int .i64 a1] rfl (by (try simp only [List.map_toArray, List.map_cons, List.map_nil]); first | done | rfl | (simp only [List.length_drop, List.length_take]; rfl)) ?_; (with_reducible refine (tags_may.calls a1 false _ A3.out).mono ?_); rintro e w' ⟨rfl, ⟨nd, rfl⟩⟩; refine ⟨_, rfl, ?_⟩))
  go_ret2
  exact ⟨by first | rfl | (simp; done) | (simp [*]; done), by repeat (first | exact Drawn0.refl _ | apply Drawn0.step)⟩

end Go.Proofs.Ytdhejpjggmikiaa.L
