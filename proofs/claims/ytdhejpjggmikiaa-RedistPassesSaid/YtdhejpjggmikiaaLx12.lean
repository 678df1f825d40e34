/- Printed by the session's own program out of the translation: for each Go function a Lean function with the same answers, and the proof that the code comes to them. No conditions. -/
import Derived.Test.YtdhejpjggmikiaaLx0
import Derived.Test.YtdhejpjggmikiaaLx2
import Derived.Test.YtdhejpjggmikiaaLx4
import Derived.Test.YtdhejpjggmikiaaLx6
import Derived.Test.YtdhejpjggmikiaaLx7
import Derived.Test.YtdhejpjggmikiaaLx8
import Derived.Test.YtdhejpjggmikiaaLx11
namespace Go.Proofs.Ytdhejpjggmikiaa.L
open Go.Proofs.YtdhejpjggmikiaaLab
open Go.RowKit Go.Proofs.YtdhejpjggmikiaaW.PrintWords Go.Proofs.YtdhejpjggmikiaaW.PrintLast Go.Proofs.YtdhejpjggmikiaaW.PrintMore
attribute [local go_sem] max2_int min2_int max_two min_two max_three min_three max_four min_four   -- for this text's walks alone
set_option linter.unusedVariables false
set_option linter.unusedSimpArgs false

attribute [local go_sem high] eqA31
/-! ### octroilaw15_RedistPasses: function 3 -/
def octroilaw15_RedistPasses.j0 : Nat → Bool → Bool → Int → Int → List (S61) → List (S64) → Int → Int → Int → Int → Int → Int → Int → Int → Option (Bool)
 | 0, _, _, _, _, _, _, _, _, _, _, _, _, _, _ => none
 | k + 1, x5, x19, x246000, x246001, x246002, x246003, x246004, x247000, x247001, x247002, x247003, x247004, x247005, x247006 => if x19 = true then (some x5) else ((redist_Pass.f k x246000 x246001 x246002 x246003 x246004 x247000 x247001 x247002 x247003 x247004 x247005 x247006).bind fun bt249 => ((octroiref15_Pass.f k x246000 x246001 x246002 x246003 x246004 x247000 x247001 x247002 x247003 x247004 x247005 x247006).bind fun bt258 => (if ((bt249.1 == bt258.1 && (bt249.2.1 == bt258.2.1)) && (bt249.2.2.1 == bt258.2.2.1 && (bt249.2.2.2.1 == bt258.2.2.2.1 && (bt249.2.2.2.2.1 == bt258.2.2.2.2.1 && (bt249.2.2.2.2.2.1 == bt258.2.2.2.2.2.1 && (bt249.2.2.2.2.2.2.1 == bt258.2.2.2.2.2.2.1)))))) = true then (if bt249.2.2.2.2.2.2.2 = bt258.2.2.2.2.2.2.2 then ((redist_May.f k x246000 x246001 x246002 x246003 x246004).bind fun t267 => ((octroiref15_May.f k x246000 x246001 x246002 x246003 x246004).bind fun t268 => (some (t267 == t268)))) else (none)) else (none))))
def octroilaw15_RedistPasses.f (k : Nat) (a0_0 : Int) (a0_1 : Int) (l0_2 : List (S61)) (l0_3 : List (S64)) (a0_4 : Int) (a1_0 : Int) (a1_1 : Int) (a1_2 : Int) (a1_3 : Int) (a1_4 : Int) (a1_5 : Int) (a1_6 : Int) : Option (Bool) := (octroilaw15_awake.f k).bind fun t247 => ((octroilaw15_few.f a0_0 a0_1 l0_2 l0_3 a0_4).bind fun t248 => (if t247 = true then (octroilaw15_RedistPasses.j0 k t247 (!t248) a0_0 a0_1 l0_2 l0_3 a0_4 a1_0 a1_1 a1_2 a1_3 a1_4 a1_5 a1_6) else (octroilaw15_RedistPasses.j0 k t247 true a0_0 a0_1 l0_2 l0_3 a0_4 a1_0 a1_1 a1_2 a1_3 a1_4 a1_5 a1_6)))
theorem octroilaw15_RedistPasses.mono_l : ∀ k, (∀ y0 y1 y2 y3 y4 y5 y6 y7 y8 y9 y10 y11 y12 y13, LeO (octroilaw15_RedistPasses.j0 k y0 y1 y2 y3 y4 y5 y6 y7 y8 y9 y10 y11 y12 y13) (octroilaw15_RedistPasses.j0 (k + 1) y0 y1 y2 y3 y4 y5 y6 y7 y8 y9 y10 y11 y12 y13))
 | 0 => fun _ _ _ _ _ _ _ _ _ _ _ _ _ _ r h => by simp [octroilaw15_RedistPasses.j0] at h
 | k + 1 => by
  have ih0 := octroilaw15_RedistPasses.mono_l k
  ·
   intro y0 y1 y2 y3 y4 y5 y6 y7 y8 y9 y10 y11 y12 y13
   unfold octroilaw15_RedistPasses.j0
   repeat' first
   | (with_reducible exact ih0 _ _ _ _ _ _ _ _ _ _ _ _ _ _)
   | (with_reducible exact octroilaw15_awake.mono _)
   | (with_reducible exact octroiref15_May.mono _ _ _ _ _ _)
   | (with_reducible exact octroiref15_Pass.mono _ _ _ _ _ _ _ _ _ _ _ _ _)
   | (with_reducible exact redist_May.mono _ _ _ _ _ _)
   | (with_reducible exact redist_Pass.mono _ _ _ _ _ _ _ _ _ _ _ _ _)
   | (with_reducible exact LeO.refl _)
   | (with_reducible exact LeO.none _)
   | (with_reducible refine LeO.ite ?_ ?_)
   | (with_reducible refine LeO.bind ?_ (fun _ => ?_))
   | exact ih0 _ _ _ _ _ _ _ _ _ _ _ _ _ _
   | exact octroilaw15_awake.mono _
   | exact octroiref15_May.mono _ _ _ _ _ _
   | exact octroiref15_Pass.mono _ _ _ _ _ _ _ _ _ _ _ _ _
   | exact redist_May.mono _ _ _ _ _ _
   | exact redist_Pass.mono _ _ _ _ _ _ _ _ _ _ _ _ _
   | exact LeO.none _
   | refine LeO.ite ?_ ?_
   | refine LeO.bind ?_ (fun _ => ?_)
theorem octroilaw15_RedistPasses.mono : ∀ a0 a1 a2 a3 a4 a5 a6 a7 a8 a9 a10 a11 k, LeO (octroilaw15_RedistPasses.f k a0 a1 a2 a3 a4 a5 a6 a7 a8 a9 a10 a11) (octroilaw15_RedistPasses.f (k + 1) a0 a1 a2 a3 a4 a5 a6 a7 a8 a9 a10 a11) := by
 intro a0 a1 a2 a3 a4 a5 a6 a7 a8 a9 a10 a11 k
 have ih0 := octroilaw15_RedistPasses.mono_l k
 unfold octroilaw15_RedistPasses.f
 repeat' first
   | (with_reducible exact ih0 _ _ _ _ _ _ _ _ _ _ _ _ _ _)
   | (with_reducible exact octroilaw15_awake.mono _)
   | (with_reducible exact octroiref15_May.mono _ _ _ _ _ _)
   | (with_reducible exact octroiref15_Pass.mono _ _ _ _ _ _ _ _ _ _ _ _ _)
   | (with_reducible exact redist_May.mono _ _ _ _ _ _)
   | (with_reducible exact redist_Pass.mono _ _ _ _ _ _ _ _ _ _ _ _ _)
   | (with_reducible exact LeO.refl _)
   | (with_reducible exact LeO.none _)
   | (with_reducible refine LeO.ite ?_ ?_)
   | (with_reducible refine LeO.bind ?_ (fun _ => ?_))
   | exact ih0 _ _ _ _ _ _ _ _ _ _ _ _ _ _
   | exact octroilaw15_awake.mono _
   | exact octroiref15_May.mono _ _ _ _ _ _
   | exact octroiref15_Pass.mono _ _ _ _ _ _ _ _ _ _ _ _ _
   | exact redist_May.mono _ _ _ _ _ _
   | exact redist_Pass.mono _ _ _ _ _ _ _ _ _ _ _ _ _
   | exact LeO.none _
   | refine LeO.ite ?_ ?_
   | refine LeO.bind ?_ (fun _ => ?_)
def octroilaw15_RedistPasses.T7 : Bool × List (List Nat × List Nat) := (true, [([], []), ([], []), ([0, 1], [0, 1]), ([2], [2]), ([3], [3]), ([3], [3]), ([4, 5, 3], [3, 4, 5]), ([3, 6], [3, 6]), ([7, 3], [7]), ([8], [8]), ([9, 8, 8], [8, 9]), ([8], [8]), ([11, 10, 8], [8, 11]), ([10, 12, 8], [8, 10, 12]), ([8, 13], [8, 13]), ([14, 12, 0, 1, 2, 3, 4, 5, 6, 7, 8, 9, 10, 11, 12, 13, 14], [14])])
def octroilaw15_RedistPasses.B7 : List Nat := [0, 0, 3, 7, 15, 15, 63, 127, 255, 511, 1023, 511, 4095, 8191, 16383, 32767]
theorem octroilaw15_RedistPasses.tab7 : rtab .any (opsOf Try.f3 7) = octroilaw15_RedistPasses.T7 := by kernel_rfl
theorem octroilaw15_RedistPasses.bits7 : waitsOk octroilaw15_RedistPasses.T7.2 octroilaw15_RedistPasses.B7 = true := by kernel_rfl
set_option maxHeartbeats 8000000 in
set_option maxRecDepth 100000 in
theorem octroilaw15_RedistPasses.calls (k : Nat) (a0_0 : Int) (a0_1 : Int) (A0_2 : Option Addr) (c0_2 : Nat) (l0_2 : List (S61)) (A0_3 : Option Addr) (c0_3 : Nat) (l0_3 : List (S64)) (a0_4 : Int) (a1_0 : Int) (a1_1 : Int) (a1_2 : Int) (a1_3 : Int) (a1_4 : Int) (a1_5 : Int) (a1_6 : Int) (r : Bool) (w : World) (hr0_2 : Kd.C k61 w A0_2 l0_2.length l0_2) (hc0_2 : l0_2.length ≤ c0_2) (hr0_3 : Kd.C k64 w A0_3 l0_3.length l0_3) (hc0_3 : l0_3.length ≤ c0_3) (h : octroilaw15_RedistPasses.f k a0_0 a0_1 l0_2 l0_3 a0_4 a1_0 a1_1 a1_2 a1_3 a1_4 a1_5 a1_6 = some r) :
  Calls Try.prog 3 #[.agg #[.int .i64 a0_0, .int .i64 a0_1, .slice A0_2 l0_2.length c0_2, .slice A0_3 l0_3.length c0_3, .int .i64 a0_4], .agg #[.int .u32 a1_0, .int .i64 a1_1, .int .i64 a1_2, .int .i64 a1_3, .int .i64 a1_4, .int .i64 a1_5, .int .u16 a1_6]] w fun e w' => e = .returned (.bool r) ∧ Below w.heap.size w w' := by
 have hu25 := Try.underlying25
 have hu31 := Try.underlying31
 have HR0_2 := Aside0.mk hr0_2
 have HC0_2 := Aside0.mk hc0_2
 clear hr0_2 hc0_2
 have HR0_3 := Aside0.mk hr0_3
 have HC0_3 := Aside0.mk hc0_3
 clear hr0_3 hc0_3
 have HB := Aside0.mk (Below.refl w.heap.size w)
 have H : ((octroilaw15_awake.f k).bind fun t247 => ((octroilaw15_few.f a0_0 a0_1 l0_2 l0_3 a0_4).bind fun t248 => (if t247 = true then (octroilaw15_RedistPasses.j0 k t247 (!t248) a0_0 a0_1 l0_2 l0_3 a0_4 a1_0 a1_1 a1_2 a1_3 a1_4 a1_5 a1_6) else (octroilaw15_RedistPasses.j0 k t247 true a0_0 a0_1 l0_2 l0_3 a0_4 a1_0 a1_1 a1_2 a1_3 a1_4 a1_5 a1_6)))) = some r := h
 clear h
 replace H := Option.bind_eq_some_iff.mp H
 obtain ⟨t247, A30, H⟩ := H
 replace H : ((octroilaw15_few.f a0_0 a0_1 l0_2 l0_3 a0_4).bind fun t248 => (if t247 = true then (octroilaw15_RedistPasses.j0 k t247 (!t248) a0_0 a0_1 l0_2 l0_3 a0_4 a1_0 a1_1 a1_2 a1_3 a1_4 a1_5 a1_6) else (octroilaw15_RedistPasses.j0 k t247 true a0_0 a0_1 l0_2 l0_3 a0_4 a1_0 a1_1 a1_2 a1_3 a1_4 a1_5 a1_6))) = some r := H
 have A3 := Aside0.mk A30
 clear A30
 replace H := Option.bind_eq_some_iff.mp H
 obtain ⟨t248, A40, H⟩ := H
 replace H : (if t247 = true then (octroilaw15_RedistPasses.j0 k t247 (!t248) a0_0 a0_1 l0_2 l0_3 a0_4 a1_0 a1_1 a1_2 a1_3 a1_4 a1_5 a1_6) else (octroilaw15_RedistPasses.j0 k t247 true a0_0 a0_1 l0_2 l0_3 a0_4 a1_0 a1_1 a1_2 a1_3 a1_4 a1_5 a1_6)) = some r := H
 have A4 := Aside0.mk A40
 clear A40
 have HC5 := Aside0.mk H
 clear H
 go_enter Try.func3, Try.ntmps3
 go_upto_region 3 with (first | ((with_reducible refine gate_dst (N := 2) rfl ?_); refine box_event ?hg (N := 2) ?hd (cs := #[.int .i64 a0_0, .int .i64 a0_1, .slice A0_2 l0_2.length c0_2, .slice A0_3 l0_3.length c0_3, .int .i64 a0_4]) (t := 25) ?hr ?_; (case hd => rfl); (case hg => rfl); (case hr => first | (go_simp; done) | (go_simp; rfl)); intro gb245 hg w6 hbox hb; have n0_ := Aside0.mk (below_step (by repeat (first | (with_reducible first | exact HB.out | apply below_alloc | apply pw_below_drewN | apply below_drew1) | exact HB.out)) hb); have n1_ := Aside0.mk (hbox); have n2_ := Aside0.mk ((by rw [hg]; exact (below_size (by repeat (first | (with_reducible first | exact HB.out | apply below_alloc | apply pw_below_drewN | apply below_drew1) | exact HB.out))) : w.heap.size ≤ gb245)); have n3_ := Aside0.mk ((by rw [hg]; exact (below_size (by repeat (first | (with_reducible first | exact HB.out | apply below_alloc | apply pw_below_drewN | apply below_drew1) | exact HB.out))) : w.heap.size ≤ gb245)); clear HB; have HB := n0_; have BK245 := n1_; have GW245 := n2_; have GE245 := n3_; clear n0_ n1_ n2_ n3_; clear hb hbox hg) | ((with_reducible refine gate_dst (N := 3) rfl ?_); refine box_event ?hg (N := 3) ?hd (cs := #[.int .u32 a1_0, .int .i64 a1_1, .int .i64 a1_2, .int .i64 a1_3, .int .i64 a1_4, .int .i64 a1_5, .int .u16 a1_6]) (t := 31) ?hr ?_; (case hd => rfl); (case hg => rfl); (case hr => first | (go_simp; done) | (go_simp; rfl)); intro gb246 hg w7 hbox hb; have n0_ := Aside0.mk (blk_below (g := gb245) (o := .cells #[.int .i64 a0_0, .int .i64 a0_1, .slice A0_2 l0_2.length c0_2, .slice A0_3 l0_3.length c0_3, .int .i64 a0_4] 25 (0, 0)) (by (with_reducible repeat (first | refine blk_drewN ?_ _ | refine blk_drew ?_ | refine blk_alloc ?_ _)); exact BK245.out) hb); have n1_ := Aside0.mk (below_step (by repeat (first | (with_reducible first | exact HB.out | apply below_alloc | apply pw_below_drewN | apply below_drew1 | refine below_set ?_ GE245.out) | exact HB.out)) hb); have n2_ := Aside0.mk (hbox); have n3_ := Aside0.mk ((by rw [hg]; exact (below_size (by repeat (first | (with_reducible first | exact HB.out | apply below_alloc | apply pw_below_drewN | apply below_drew1 | refine below_set ?_ GE245.out) | exact HB.out))) : w.heap.size ≤ gb246)); have n4_ := Aside0.mk ((by rw [hg]; exact (below_size (by repeat (first | (with_reducible first | exact HB.out | apply below_alloc | apply pw_below_drewN | apply below_drew1 | refine below_set ?_ GE245.out) | exact HB.out))) : w.heap.size ≤ gb246)); have n5_ := Aside0.mk ((by rw [hg]; exact Nat.ne_of_lt (blk_lt (g := gb245) (o := .cells #[.int .i64 a0_0, .int .i64 a0_1, .slice A0_2 l0_2.length c0_2, .slice A0_3 l0_3.length c0_3, .int .i64 a0_4] 25 (0, 0)) (by (with_reducible repeat (first | refine blk_drewN ?_ _ | refine blk_drew ?_ | refine blk_alloc ?_ _)); exact BK245.out)) : gb245 ≠ gb246)); have n6_ := Aside0.mk ((by rw [hg]; exact Nat.ne_of_gt (blk_lt (g := gb245) (o := .cells #[.int .i64 a0_0, .int .i64 a0_1, .slice A0_2 l0_2.length c0_2, .slice A0_3 l0_3.length c0_3, .int .i64 a0_4] 25 (0, 0)) (by (with_reducible repeat (first | refine blk_drewN ?_ _ | refine blk_drew ?_ | refine blk_alloc ?_ _)); exact BK245.out)) : gb246 ≠ gb245)); clear BK245; clear HB; have BK245 := n0_; have HB := n1_; have BK246 := n2_; have GW246 := n3_; have GE246 := n4_; have NB245_246 := n5_; have NB246_245 := n6_; clear n0_ n1_ n2_ n3_ n4_ n5_ n6_; clear hb hbox hg) | ((with_reducible refine gate_callee (f := 8) rfl ?_); refine goesL_ (some 11) rfl rfl Try.func8 (by kernel_rfl) rfl #[] rfl (by (try simp only [List.map_toArray, List.map_cons, List.map_nil]); first | done | rfl | (simp only [List.length_drop, List.length_take]; rfl)) ?_; (with_reducible refine (octroilaw15_awake.calls k  t247 _ A3.out).mono ?_); rintro e w8 ⟨rfl, hb⟩; refine ⟨_, rfl, ?_⟩; have n0_ := Aside0.mk (blk_below (g := gb245) (o := .cells #[.int .i64 a0_0, .int .i64 a0_1, .slice A0_2 l0_2.length c0_2, .slice A0_3 l0_3.length c0_3, .int .i64 a0_4] 25 (0, 0)) (by (with_reducible repeat (first | refine blk_drewN ?_ _ | refine blk_drew ?_ | refine blk_alloc ?_ _)); exact BK245.out) hb); have n1_ := Aside0.mk (blk_below (g := gb246) (o := .cells #[.int .u32 a1_0, .int .i64 a1_1, .int .i64 a1_2, .int .i64 a1_3, .int .i64 a1_4, .int .i64 a1_5, .int .u16 a1_6] 31 (0, 0)) (by (with_reducible repeat (first | refine blk_drewN ?_ _ | refine blk_drew ?_ | refine blk_alloc ?_ _)); exact BK246.out) hb); have n2_ := Aside0.mk (below_step (by repeat (first | (with_reducible first | exact HB.out | apply below_alloc | apply pw_below_drewN | apply below_drew1 | refine below_set ?_ GE245.out | refine below_set ?_ GE246.out) | exact HB.out)) hb); clear BK245; clear BK246; clear HB; have BK245 := n0_; have BK246 := n1_; have HB := n2_; clear n0_ n1_ n2_; (try clear hb); (try clear hb2); (try clear hk); (try clear hi); have hnb9 := NB245_246.out; have hnc9 := NB246_245.out; have hcz10_0 : w8.cell? ⟨gb245, 0, none⟩ = some (.int .i64 a0_0) := (blk_cell BK245.out 0).trans rfl; have hcz10_1 : w8.cell? ⟨gb245, 1, none⟩ = some (.int .i64 a0_1) := (blk_cell BK245.out 1).trans rfl; have hcz10_2 : w8.cell? ⟨gb245, 2, none⟩ = some (.slice A0_2 l0_2.length c0_2) := (blk_cell BK245.out 2).trans rfl; have hcz10_3 : w8.cell? ⟨gb245, 3, none⟩ = some (.slice A0_3 l0_3.length c0_3) := (blk_cell BK245.out 3).trans rfl; have hcz10_4 : w8.cell? ⟨gb245, 4, none⟩ = some (.int .i64 a0_4) := (blk_cell BK245.out 4).trans rfl; have hfz10_0 := blk_frozen BK245.out 0; have hfz10_1 := blk_frozen BK245.out 1; have hfz10_2 := blk_frozen BK245.out 2; have hfz10_3 := blk_frozen BK245.out 3; have hfz10_4 := blk_frozen BK245.out 4) | ((with_reducible refine gate_callee (f := 9) rfl ?_); refine goesL_ (some 13) rfl rfl Try.func9 (by kernel_rfl) rfl #[.agg #[.int .i64 a0_0, .int .i64 a0_1, .slice A0_2 l0_2.length c0_2, .slice A0_3 l0_3.length c0_3, .int .i64 a0_4]] rfl (by (try simp only [List.map_toArray, List.map_cons, List.map_nil]); first | done | rfl | (simp only [List.length_drop, List.length_take]; rfl)) ?_; (with_reducible refine (octroilaw15_few.calls a0_0 a0_1 _ _ l0_2 _ _ l0_3 a0_4 t248 _ ?side1 ?side2 ?side3 ?side4 A4.out).mono ?_); (case side1 => repeat (first | exact (Kd.C_below HR0_2.out HB.out) | (with_reducible refine Kd.C_alloc ?_ _) | (with_reducible refine Kd.C_drewN ?_ _) | (with_reducible refine Kd.C_drew ?_))); (case side2 => exact HC0_2.out); (case side3 => repeat (first | exact (Kd.C_below HR0_3.out HB.out) | (with_reducible refine Kd.C_alloc ?_ _) | (with_reducible refine Kd.C_drewN ?_ _) | (with_reducible refine Kd.C_drew ?_))); (case side4 => exact HC0_3.out); rintro e w11 ⟨rfl, hb⟩; refine ⟨_, rfl, ?_⟩; have n0_ := Aside0.mk (blk_below (g := gb245) (o := .cells #[.int .i64 a0_0, .int .i64 a0_1, .slice A0_2 l0_2.length c0_2, .slice A0_3 l0_3.length c0_3, .int .i64 a0_4] 25 (0, 0)) (by (with_reducible repeat (first | refine blk_drewN ?_ _ | refine blk_drew ?_ | refine blk_alloc ?_ _)); exact BK245.out) hb); have n1_ := Aside0.mk (blk_below (g := gb246) (o := .cells #[.int .u32 a1_0, .int .i64 a1_1, .int .i64 a1_2, .int .i64 a1_3, .int .i64 a1_4, .int .i64 a1_5, .int .u16 a1_6] 31 (0, 0)) (by (with_reducible repeat (first | refine blk_drewN ?_ _ | refine blk_drew ?_ | refine blk_alloc ?_ _)); exact BK246.out) hb); have n2_ := Aside0.mk (below_step (by repeat (first | (with_reducible first | exact HB.out | apply below_alloc | apply pw_below_drewN | apply below_drew1 | refine below_set ?_ GE245.out | refine below_set ?_ GE246.out) | exact HB.out)) hb); clear BK245; clear BK246; clear HB; have BK245 := n0_; have BK246 := n1_; have HB := n2_; clear n0_ n1_ n2_; (try clear hb); (try clear hb2); (try clear hk); (try clear hi)))
 (try simp only [Act.put, List.setIfInBounds_toArray, List.set_cons_zero, List.set_cons_succ])
 go_cut [19] (fun v19 wc => ∃ (kq : Nat) (x19_4 : Bool), v19 = .bool x19_4 ∧ Aside0 (octroilaw15_RedistPasses.j0 kq t247 x19_4 a0_0 a0_1 l0_2 l0_3 a0_4 a1_0 a1_1 a1_2 a1_3 a1_4 a1_5 a1_6 = some r) ∧ Aside0 (kq ≤ k) ∧ Aside0 (wc.heap[gb245]? = some (.cells #[.int .i64 a0_0, .int .i64 a0_1, (.slice A0_2 l0_2.length c0_2), (.slice A0_3 l0_3.length c0_3), .int .i64 a0_4] 25 (0, 0))) ∧ Aside0 (wc.heap[gb246]? = some (.cells #[.int .u32 a1_0, .int .i64 a1_1, .int .i64 a1_2, .int .i64 a1_3, .int .i64 a1_4, .int .i64 a1_5, .int .u16 a1_6] 31 (0, 0))) ∧ Aside0 (Below w.heap.size w wc))
 case first =>
  have H := HC5.out
  clear HC5
  by_cases c12 : t247 = true
  ·
   subst c12
   have H1 : (octroilaw15_RedistPasses.j0 k true (!t248) a0_0 a0_1 l0_2 l0_3 a0_4 a1_0 a1_1 a1_2 a1_3 a1_4 a1_5 a1_6) = some r := by rw [if_pos rfl] at H; exact H
   clear H
   have H := H1
   clear H1
   have H' := Aside0.mk H
   clear H
   go_wp2
   go_meet
   case rel => exact ⟨_, (!t248), (by first | rfl | (simp; done) | (simp [*]; done)), H', ⟨by first | omega | exact Nat.le_refl _⟩, ⟨by (with_reducible repeat (first | refine blk_drewN ?_ _ | refine blk_drew ?_ | refine blk_alloc ?_ _)); exact BK245.out⟩, ⟨by (with_reducible repeat (first | refine blk_drewN ?_ _ | refine blk_drew ?_ | refine blk_alloc ?_ _)); exact BK246.out⟩, ⟨by repeat (first | (with_reducible first | exact HB.out | apply below_alloc | apply pw_below_drewN | apply below_drew1 | refine below_set ?_ GE245.out | refine below_set ?_ GE246.out) | exact HB.out)⟩⟩
  ·
   replace c12 := Bool.eq_false_iff.mpr c12
   subst c12
   have H1 : (octroilaw15_RedistPasses.j0 k false true a0_0 a0_1 l0_2 l0_3 a0_4 a1_0 a1_1 a1_2 a1_3 a1_4 a1_5 a1_6) = some r := by rw [if_neg (show ¬ (false = true) by decide)] at H; exact H
   clear H
   have H := H1
   clear H1
   have H' := Aside0.mk H
   clear H
   go_wp2
   go_meet
   case rel => exact ⟨_, (true), (by first | rfl | (simp; done) | (simp [*]; done)), H', ⟨by first | omega | exact Nat.le_refl _⟩, ⟨by (with_reducible repeat (first | refine blk_drewN ?_ _ | refine blk_drew ?_ | refine blk_alloc ?_ _)); exact BK245.out⟩, ⟨by (with_reducible repeat (first | refine blk_drewN ?_ _ | refine blk_drew ?_ | refine blk_alloc ?_ _)); exact BK246.out⟩, ⟨by repeat (first | (with_reducible first | exact HB.out | apply below_alloc | apply pw_below_drewN | apply below_drew1 | refine below_set ?_ GE245.out | refine below_set ?_ GE246.out) | exact HB.out)⟩⟩
 case rest =>
  clear HC5
  try clear c1
  try clear p2
  try clear c3
  try clear c8
  try clear c9
  try clear c12
  try clear hcz10_0
  try clear hcz10_1
  try clear hcz10_2
  try clear hcz10_3
  try clear hcz10_4
  try clear hfz10_0
  try clear hfz10_1
  try clear hfz10_2
  try clear hfz10_3
  try clear hfz10_4
  obtain ⟨kq, x19_4, rfl, HA, HJ4, BK245, BK246, HB⟩ := hcut
  cases kq with
  | zero => exact absurd HA.out (by simp [octroilaw15_RedistPasses.j0])
  | succ kj4 =>
   have H := HA.out
   clear HA
   simp only [octroilaw15_RedistPasses.j0] at H
   by_cases c13 : x19_4 = true
   ·
    subst c13
    have H1 : (some t247) = some r := by rw [if_pos rfl] at H; exact H
    clear H
    have H := H1
    clear H1
    obtain rfl := Option.some.inj H
    go_wp2
    go_ret
    exact ⟨by first | rfl | (simp [errW_none, errW_some] <;> rfl) | (simp [*, errW_none, errW_some] <;> rfl), by repeat (first | (with_reducible first | exact HB.out | apply below_alloc | apply pw_below_drewN | apply below_drew1 | refine below_set ?_ GE245.out | refine below_set ?_ GE246.out) | exact HB.out)⟩
   ·
    replace c13 := Bool.eq_false_iff.mpr c13
    subst c13
    have H1 : ((redist_Pass.f kj4 a0_0 a0_1 l0_2 l0_3 a0_4 a1_0 a1_1 a1_2 a1_3 a1_4 a1_5 a1_6).bind fun bt249 => ((octroiref15_Pass.f kj4 a0_0 a0_1 l0_2 l0_3 a0_4 a1_0 a1_1 a1_2 a1_3 a1_4 a1_5 a1_6).bind fun bt258 => (if ((bt249.1 == bt258.1 && (bt249.2.1 == bt258.2.1)) && (bt249.2.2.1 == bt258.2.2.1 && (bt249.2.2.2.1 == bt258.2.2.2.1 && (bt249.2.2.2.2.1 == bt258.2.2.2.2.1 && (bt249.2.2.2.2.2.1 == bt258.2.2.2.2.2.1 && (bt249.2.2.2.2.2.2.1 == bt258.2.2.2.2.2.2.1)))))) = true then (if bt249.2.2.2.2.2.2.2 = bt258.2.2.2.2.2.2.2 then ((redist_May.f kj4 a0_0 a0_1 l0_2 l0_3 a0_4).bind fun t267 => ((octroiref15_May.f kj4 a0_0 a0_1 l0_2 l0_3 a0_4).bind fun t268 => (some (t267 == t268)))) else (none)) else (none)))) = some r := by rw [if_neg (show ¬ (false = true) by decide)] at H; exact H
    clear H
    have H := H1
    clear H1
    replace H := Option.bind_eq_some_iff.mp H
    obtain ⟨⟨t249, t250, t251, t252, t253, t254, t255, t256⟩, A140, H⟩ := H
    replace H : ((octroiref15_Pass.f kj4 a0_0 a0_1 l0_2 l0_3 a0_4 a1_0 a1_1 a1_2 a1_3 a1_4 a1_5 a1_6).bind fun bt258 => (if ((t249 == bt258.1 && (t250 == bt258.2.1)) && (t251 == bt258.2.2.1 && (t252 == bt258.2.2.2.1 && (t253 == bt258.2.2.2.2.1 && (t254 == bt258.2.2.2.2.2.1 && (t255 == bt258.2.2.2.2.2.2.1)))))) = true then (if t256 = bt258.2.2.2.2.2.2.2 then ((redist_May.f kj4 a0_0 a0_1 l0_2 l0_3 a0_4).bind fun t267 => ((octroiref15_May.f kj4 a0_0 a0_1 l0_2 l0_3 a0_4).bind fun t268 => (some (t267 == t268)))) else (none)) else (none))) = some r := H
    have A14 := Aside0.mk A140
    clear A140
    replace H := Option.bind_eq_some_iff.mp H
    obtain ⟨⟨t258, t259, t260, t261, t262, t263, t264, t265⟩, A150, H⟩ := H
    replace H : (if ((t249 == t258 && (t250 == t259)) && (t251 == t260 && (t252 == t261 && (t253 == t262 && (t254 == t263 && (t255 == t264)))))) = true then (if t256 = t265 then ((redist_May.f kj4 a0_0 a0_1 l0_2 l0_3 a0_4).bind fun t267 => ((octroiref15_May.f kj4 a0_0 a0_1 l0_2 l0_3 a0_4).bind fun t268 => (some (t267 == t268)))) else (none)) else (none)) = some r := H
    have A15 := Aside0.mk A150
    clear A150
    by_cases c16 : ((t249 == t258 && (t250 == t259)) && (t251 == t260 && (t252 == t261 && (t253 == t262 && (t254 == t263 && (t255 == t264)))))) = true
    ·
     rw [if_pos c16] at H
     have c16b0 : ((t249 == t258 && (t250 == t259)) && (t251 == t260 && (t252 == t261 && (t253 == t262 && (t254 == t263 && (t255 == t264)))))) = true := c16
     clear c16
     by_cases c17 : t256 = t265
     ·
      rw [if_pos c17] at H
      have c17b0 : (t256 == t265) = true := beq_iff_eq.mpr c17
      have c17b1 : (t256 != t265) = false := bne_eq_false_iff_eq.mpr c17
      clear c17
      replace H := Option.bind_eq_some_iff.mp H
      obtain ⟨t267, A180, H⟩ := H
      replace H : ((octroiref15_May.f kj4 a0_0 a0_1 l0_2 l0_3 a0_4).bind fun t268 => (some (t267 == t268))) = some r := H
      have A18 := Aside0.mk A180
      clear A180
      replace H := Option.bind_eq_some_iff.mp H
      obtain ⟨t268, A190, H⟩ := H
      replace H : (some (t267 == t268)) = some r := H
      have A19 := Aside0.mk A190
      clear A190
      obtain rfl := Option.some.inj H
      have hnb20 := NB245_246.out
      have hnc20 := NB246_245.out
      have hcz21_0 : wc.cell? ⟨gb245, 0, none⟩ = some (.int .i64 a0_0) := (blk_cell BK245.out 0).trans rfl
      have hcz21_1 : wc.cell? ⟨gb245, 1, none⟩ = some (.int .i64 a0_1) := (blk_cell BK245.out 1).trans rfl
      have hcz21_2 : wc.cell? ⟨gb245, 2, none⟩ = some (.slice A0_2 l0_2.length c0_2) := (blk_cell BK245.out 2).trans rfl
      have hcz21_3 : wc.cell? ⟨gb245, 3, none⟩ = some (.slice A0_3 l0_3.length c0_3) := (blk_cell BK245.out 3).trans rfl
      have hcz21_4 : wc.cell? ⟨gb245, 4, none⟩ = some (.int .i64 a0_4) := (blk_cell BK245.out 4).trans rfl
      have hfz21_0 := blk_frozen BK245.out 0
      have hfz21_1 := blk_frozen BK245.out 1
      have hfz21_2 := blk_frozen BK245.out 2
      have hfz21_3 := blk_frozen BK245.out 3
      have hfz21_4 := blk_frozen BK245.out 4
      have hcz22_0 : wc.cell? ⟨gb246, 0, none⟩ = some (.int .u32 a1_0) := (blk_cell BK246.out 0).trans rfl
      have hcz22_1 : wc.cell? ⟨gb246, 1, none⟩ = some (.int .i64 a1_1) := (blk_cell BK246.out 1).trans rfl
      have hcz22_2 : wc.cell? ⟨gb246, 2, none⟩ = some (.int .i64 a1_2) := (blk_cell BK246.out 2).trans rfl
      have hcz22_3 : wc.cell? ⟨gb246, 3, none⟩ = some (.int .i64 a1_3) := (blk_cell BK246.out 3).trans rfl
      have hcz22_4 : wc.cell? ⟨gb246, 4, none⟩ = some (.int .i64 a1_4) := (blk_cell BK246.out 4).trans rfl
      have hcz22_5 : wc.cell? ⟨gb246, 5, none⟩ = some (.int .i64 a1_5) := (blk_cell BK246.out 5).trans rfl
      have hcz22_6 : wc.cell? ⟨gb246, 6, none⟩ = some (.int .u16 a1_6) := (blk_cell BK246.out 6).trans rfl
      have hfz22_0 := blk_frozen BK246.out 0
      have hfz22_1 := blk_frozen BK246.out 1
      have hfz22_2 := blk_frozen BK246.out 2
      have hfz22_3 := blk_frozen BK246.out 3
      have hfz22_4 := blk_frozen BK246.out 4
      have hfz22_5 := blk_frozen BK246.out 5
      have hfz22_6 := blk_frozen BK246.out 6
      try go_wp2_with (first | ((with_reducible refine gate_callee (f := 10) rfl ?_); refine goesL_ (some 24) rfl rfl Try.func10 (by kernel_rfl) rfl #[.agg #[.int .i64 a0_0, .int .i64 a0_1, .slice A0_2 l0_2.length c0_2, .slice A0_3 l0_3.length c0_3, .int .i64 a0_4], .agg #[.int .u32 a1_0, .int .i64 a1_1, .int .i64 a1_2, .int .i64 a1_3, .int .i64 a1_4, .int .i64 a1_5, .int .u16 a1_6]] rfl (by (try simp only [List.map_toArray, List.map_cons, List.map_nil]); first | done | rfl | (simp only [List.length_drop, List.length_take]; rfl)) ?_; (with_reducible refine (redist_Pass.calls kj4 a0_0 a0_1 _ _ l0_2 _ _ l0_3 a0_4 a1_0 a1_1 a1_2 a1_3 a1_4 a1_5 a1_6 t249 t250 t251 t252 t253 t254 t255 t256 _ ?side1 ?side2 ?side3 ?side4 A14.out).mono ?_); (case side1 => repeat (first | exact (Kd.C_below HR0_2.out HB.out) | (with_reducible refine Kd.C_alloc ?_ _) | (with_reducible refine Kd.C_drewN ?_ _) | (with_reducible refine Kd.C_drew ?_))); (case side2 => exact HC0_2.out); (case side3 => repeat (first | exact (Kd.C_below HR0_3.out HB.out) | (with_reducible refine Kd.C_alloc ?_ _) | (with_reducible refine Kd.C_drewN ?_ _) | (with_reducible refine Kd.C_drew ?_))); (case side4 => exact HC0_3.out); rintro e w23 ⟨rfl, hb⟩; refine ⟨_, rfl, ?_⟩; have n0_ := Aside0.mk (blk_below (g := gb245) (o := .cells #[.int .i64 a0_0, .int .i64 a0_1, .slice A0_2 l0_2.length c0_2, .slice A0_3 l0_3.length c0_3, .int .i64 a0_4] 25 (0, 0)) (by (with_reducible repeat (first | refine blk_drewN ?_ _ | refine blk_drew ?_ | refine blk_alloc ?_ _)); exact BK245.out) hb); have n1_ := Aside0.mk (blk_below (g := gb246) (o := .cells #[.int .u32 a1_0, .int .i64 a1_1, .int .i64 a1_2, .int .i64 a1_3, .int .i64 a1_4, .int .i64 a1_5, .int .u16 a1_6] 31 (0, 0)) (by (with_reducible repeat (first | refine blk_drewN ?_ _ | refine blk_drew ?_ | refine blk_alloc ?_ _)); exact BK246.out) hb); have n2_ := Aside0.mk (below_step (by repeat (first | (with_reducible first | exact HB.out | apply below_alloc | apply pw_below_drewN | apply below_drew1 | refine below_set ?_ GE245.out | refine below_set ?_ GE246.out) | exact HB.out)) hb); clear BK245; clear BK246; clear HB; have BK245 := n0_; have BK246 := n1_; have HB := n2_; clear n0_ n1_ n2_; (try clear hb); (try clear hb2); (try clear hk); (try clear hi)) | ((with_reducible refine gate_dst (N := 7) rfl ?_); refine box_event ?hg (N := 7) ?hd (cs := #[.int .u32 0, .int .i64 0, .int .i64 0, .int .i64 0, .int .i64 0, .int .i64 0, .int .u16 0]) (t := 31) ?hr ?_; (case hd => rfl); (case hg => rfl); (case hr => first | (go_simp; done) | (go_simp; rfl)); intro gb257 hg w24 hbox hb; have n0_ := Aside0.mk (blk_below (g := gb245) (o := .cells #[.int .i64 a0_0, .int .i64 a0_1, .slice A0_2 l0_2.length c0_2, .slice A0_3 l0_3.length c0_3, .int .i64 a0_4] 25 (0, 0)) (by (with_reducible repeat (first | refine blk_drewN ?_ _ | refine blk_drew ?_ | refine blk_alloc ?_ _)); exact BK245.out) hb); have n1_ := Aside0.mk (blk_below (g := gb246) (o := .cells #[.int .u32 a1_0, .int .i64 a1_1, .int .i64 a1_2, .int .i64 a1_3, .int .i64 a1_4, .int .i64 a1_5, .int .u16 a1_6] 31 (0, 0)) (by (with_reducible repeat (first | refine blk_drewN ?_ _ | refine blk_drew ?_ | refine blk_alloc ?_ _)); exact BK246.out) hb); have n2_ := Aside0.mk (below_step (by repeat (first | (with_reducible first | exact HB.out | apply below_alloc | apply pw_below_drewN | apply below_drew1 | refine below_set ?_ GE245.out | refine below_set ?_ GE246.out) | exact HB.out)) hb); have n3_ := Aside0.mk (hbox); have n4_ := Aside0.mk ((by rw [hg]; exact (below_size (by repeat (first | (with_reducible first | exact HB.out | apply below_alloc | apply pw_below_drewN | apply below_drew1 | refine below_set ?_ GE245.out | refine below_set ?_ GE246.out) | exact HB.out))) : w.heap.size ≤ gb257)); have n5_ := Aside0.mk ((by rw [hg]; exact (below_size (by repeat (first | (with_reducible first | exact HB.out | apply below_alloc | apply pw_below_drewN | apply below_drew1 | refine below_set ?_ GE245.out | refine below_set ?_ GE246.out) | exact HB.out))) : w.heap.size ≤ gb257)); have n6_ := Aside0.mk ((by rw [hg]; exact Nat.ne_of_lt (blk_lt (g := gb245) (o := .cells #[.int .i64 a0_0, .int .i64 a0_1, .slice A0_2 l0_2.length c0_2, .slice A0_3 l0_3.length c0_3, .int .i64 a0_4] 25 (0, 0)) (by (with_reducible repeat (first | refine blk_drewN ?_ _ | refine blk_drew ?_ | refine blk_alloc ?_ _)); exact BK245.out)) : gb245 ≠ gb257)); have n7_ := Aside0.mk ((by rw [hg]; exact Nat.ne_of_gt (blk_lt (g := gb245) (o := .cells #[.int .i64 a0_0, .int .i64 a0_1, .slice A0_2 l0_2.length c0_2, .slice A0_3 l0_3.length c0_3, .int .i64 a0_4] 25 (0, 0)) (by (with_reducible repeat (first | refine blk_drewN ?_ _ | refine blk_drew ?_ | refine blk_alloc ?_ _)); exact BK245.out)) : gb257 ≠ gb245)); have n8_ := Aside0.mk ((by rw [hg]; exact Nat.ne_of_lt (blk_lt (g := gb246) (o := .cells #[.int .u32 a1_0, .int .i64 a1_1, .int .i64 a1_2, .int .i64 a1_3, .int .i64 a1_4, .int .i64 a1_5, .int .u16 a1_6] 31 (0, 0)) (by (with_reducible repeat (first | refine blk_drewN ?_ _ | refine blk_drew ?_ | refine blk_alloc ?_ _)); exact BK246.out)) : gb246 ≠ gb257)); have n9_ := Aside0.mk ((by rw [hg]; exact Nat.ne_of_gt (blk_lt (g := gb246) (o := .cells #[.int .u32 a1_0, .int .i64 a1_1, .int .i64 a1_2, .int .i64 a1_3, .int .i64 a1_4, .int .i64 a1_5, .int .u16 a1_6] 31 (0, 0)) (by (with_reducible repeat (first | refine blk_drewN ?_ _ | refine blk_drew ?_ | refine blk_alloc ?_ _)); exact BK246.out)) : gb257 ≠ gb246)); clear BK245; clear BK246; clear HB; have BK245 := n0_; have BK246 := n1_; have HB := n2_; have BK257 := n3_; have GW257 := n4_; have GE257 := n5_; have NB245_257 := n6_; have NB257_245 := n7_; have NB246_257 := n8_; have NB257_246 := n9_; clear n0_ n1_ n2_ n3_ n4_ n5_ n6_ n7_ n8_ n9_; clear hb hbox hg; have hnb25 := NB257_245.out; have hnc25 := NB245_257.out; have hnb26 := NB257_246.out; have hnc26 := NB246_257.out; have hcz27_0 : w24.cell? ⟨gb257, 0, none⟩ = some (.int .u32 0) := (blk_cell BK257.out 0).trans rfl; have hcz27_1 : w24.cell? ⟨gb257, 1, none⟩ = some (.int .i64 0) := (blk_cell BK257.out 1).trans rfl; have hcz27_2 : w24.cell? ⟨gb257, 2, none⟩ = some (.int .i64 0) := (blk_cell BK257.out 2).trans rfl; have hcz27_3 : w24.cell? ⟨gb257, 3, none⟩ = some (.int .i64 0) := (blk_cell BK257.out 3).trans rfl; have hcz27_4 : w24.cell? ⟨gb257, 4, none⟩ = some (.int .i64 0) := (blk_cell BK257.out 4).trans rfl; have hcz27_5 : w24.cell? ⟨gb257, 5, none⟩ = some (.int .i64 0) := (blk_cell BK257.out 5).trans rfl; have hcz27_6 : w24.cell? ⟨gb257, 6, none⟩ = some (.int .u16 0) := (blk_cell BK257.out 6).trans rfl; have hfz27_0 := blk_frozen BK257.out 0; have hfz27_1 := blk_frozen BK257.out 1; have hfz27_2 := blk_frozen BK257.out 2; have hfz27_3 := blk_frozen BK257.out 3; have hfz27_4 := blk_frozen BK257.out 4; have hfz27_5 := blk_frozen BK257.out 5; have hfz27_6 := blk_frozen BK257.out 6; have hcz28_0 : w24.cell? ⟨gb245, 0, none⟩ = some (.int .i64 a0_0) := (blk_cell BK245.out 0).trans rfl; have hcz28_1 : w24.cell? ⟨gb245, 1, none⟩ = some (.int .i64 a0_1) := (blk_cell BK245.out 1).trans rfl; have hcz28_2 : w24.cell? ⟨gb245, 2, none⟩ = some (.slice A0_2 l0_2.length c0_2) := (blk_cell BK245.out 2).trans rfl; have hcz28_3 : w24.cell? ⟨gb245, 3, none⟩ = some (.slice A0_3 l0_3.length c0_3) := (blk_cell BK245.out 3).trans rfl; have hcz28_4 : w24.cell? ⟨gb245, 4, none⟩ = some (.int .i64 a0_4) := (blk_cell BK245.out 4).trans rfl; have hfz28_0 := blk_frozen BK245.out 0; have hfz28_1 := blk_frozen BK245.out 1; have hfz28_2 := blk_frozen BK245.out 2; have hfz28_3 := blk_frozen BK245.out 3; have hfz28_4 := blk_frozen BK245.out 4; have hcz29_0 : w24.cell? ⟨gb246, 0, none⟩ = some (.int .u32 a1_0) := (blk_cell BK246.out 0).trans rfl; have hcz29_1 : w24.cell? ⟨gb246, 1, none⟩ = some (.int .i64 a1_1) := (blk_cell BK246.out 1).trans rfl; have hcz29_2 : w24.cell? ⟨gb246, 2, none⟩ = some (.int .i64 a1_2) := (blk_cell BK246.out 2).trans rfl; have hcz29_3 : w24.cell? ⟨gb246, 3, none⟩ = some (.int .i64 a1_3) := (blk_cell BK246.out 3).trans rfl; have hcz29_4 : w24.cell? ⟨gb246, 4, none⟩ = some (.int .i64 a1_4) := (blk_cell BK246.out 4).trans rfl; have hcz29_5 : w24.cell? ⟨gb246, 5, none⟩ = some (.int .i64 a1_5) := (blk_cell BK246.out 5).trans rfl; have hcz29_6 : w24.cell? ⟨gb246, 6, none⟩ = some (.int .u16 a1_6) := (blk_cell BK246.out 6).trans rfl; have hfz29_0 := blk_frozen BK246.out 0; have hfz29_1 := blk_frozen BK246.out 1; have hfz29_2 := blk_frozen BK246.out 2; have hfz29_3 := blk_frozen BK246.out 3; have hfz29_4 := blk_frozen BK246.out 4; have hfz29_5 := blk_frozen BK246.out 5; have hfz29_6 := blk_frozen BK246.out 6) | ((with_reducible refine gate_callee (f := 11) rfl ?_); refine goesL_ (some 30) rfl rfl Try.func11 (by kernel_rfl) rfl #[.agg #[.int .i64 a0_0, .int .i64 a0_1, .slice A0_2 l0_2.length c0_2, .slice A0_3 l0_3.length c0_3, .int .i64 a0_4], .agg #[.int .u32 a1_0, .int .i64 a1_1, .int .i64 a1_2, .int .i64 a1_3, .int .i64 a1_4, .int .i64 a1_5, .int .u16 a1_6]] rfl (by (try simp only [List.map_toArray, List.map_cons, List.map_nil]); first | done | rfl | (simp only [List.length_drop, List.length_take]; rfl)) ?_; (with_reducible refine (octroiref15_Pass.calls kj4 a0_0 a0_1 _ _ l0_2 _ _ l0_3 a0_4 a1_0 a1_1 a1_2 a1_3 a1_4 a1_5 a1_6 t258 t259 t260 t261 t262 t263 t264 t265 _ ?side1 ?side2 ?side3 ?side4 A15.out).mono ?_); (case side1 => exact Kd.C_below HR0_2.out (by repeat (first | (with_reducible first | exact HB.out | apply below_alloc | apply pw_below_drewN | apply below_drew1 | refine below_set ?_ GE245.out | refine below_set ?_ GE246.out | refine below_set ?_ GE257.out) | exact HB.out))); (case side2 => exact HC0_2.out); (case side3 => exact Kd.C_below HR0_3.out (by repeat (first | (with_reducible first | exact HB.out | apply below_alloc | apply pw_below_drewN | apply below_drew1 | refine below_set ?_ GE245.out | refine below_set ?_ GE246.out | refine below_set ?_ GE257.out) | exact HB.out))); (case side4 => exact HC0_3.out); rintro e w30 ⟨rfl, hb⟩; refine ⟨_, rfl, ?_⟩; have n0_ := Aside0.mk (blk_below (g := gb245) (o := .cells #[.int .i64 a0_0, .int .i64 a0_1, .slice A0_2 l0_2.length c0_2, .slice A0_3 l0_3.length c0_3, .int .i64 a0_4] 25 (0, 0)) (by (with_reducible repeat (first | refine blk_drewN ?_ _ | refine blk_drew ?_ | refine blk_alloc ?_ _)); refine blk_far ?_ NB245_257.out _; (with_reducible repeat (first | refine blk_drewN ?_ _ | refine blk_drew ?_ | refine blk_alloc ?_ _)); refine blk_far ?_ NB245_257.out _; (with_reducible repeat (first | refine blk_drewN ?_ _ | refine blk_drew ?_ | refine blk_alloc ?_ _)); refine blk_far ?_ NB245_257.out _; (with_reducible repeat (first | refine blk_drewN ?_ _ | refine blk_drew ?_ | refine blk_alloc ?_ _)); refine blk_far ?_ NB245_257.out _; (with_reducible repeat (first | refine blk_drewN ?_ _ | refine blk_drew ?_ | refine blk_alloc ?_ _)); refine blk_far ?_ NB245_257.out _; (with_reducible repeat (first | refine blk_drewN ?_ _ | refine blk_drew ?_ | refine blk_alloc ?_ _)); refine blk_far ?_ NB245_257.out _; (with_reducible repeat (first | refine blk_drewN ?_ _ | refine blk_drew ?_ | refine blk_alloc ?_ _)); refine blk_far ?_ NB245_257.out _; (with_reducible repeat (first | refine blk_drewN ?_ _ | refine blk_drew ?_ | refine blk_alloc ?_ _)); exact BK245.out) hb); have n1_ := Aside0.mk (blk_below (g := gb246) (o := .cells #[.int .u32 a1_0, .int .i64 a1_1, .int .i64 a1_2, .int .i64 a1_3, .int .i64 a1_4, .int .i64 a1_5, .int .u16 a1_6] 31 (0, 0)) (by (with_reducible repeat (first | refine blk_drewN ?_ _ | refine blk_drew ?_ | refine blk_alloc ?_ _)); refine blk_far ?_ NB246_257.out _; (with_reducible repeat (first | refine blk_drewN ?_ _ | refine blk_drew ?_ | refine blk_alloc ?_ _)); refine blk_far ?_ NB246_257.out _; (with_reducible repeat (first | refine blk_drewN ?_ _ | refine blk_drew ?_ | refine blk_alloc ?_ _)); refine blk_far ?_ NB246_257.out _; (with_reducible repeat (first | refine blk_drewN ?_ _ | refine blk_drew ?_ | refine blk_alloc ?_ _)); refine blk_far ?_ NB246_257.out _; (with_reducible repeat (first | refine blk_drewN ?_ _ | refine blk_drew ?_ | refine blk_alloc ?_ _)); refine blk_far ?_ NB246_257.out _; (with_reducible repeat (first | refine blk_drewN ?_ _ | refine blk_drew ?_ | refine blk_alloc ?_ _)); refine blk_far ?_ NB246_257.out _; (with_reducible repeat (first | refine blk_drewN ?_ _ | refine blk_drew ?_ | refine blk_alloc ?_ _)); refine blk_far ?_ NB246_257.out _; (with_reducible repeat (first | refine blk_drewN ?_ _ | refine blk_drew ?_ | refine blk_alloc ?_ _)); exact BK246.out) hb); have n2_ := Aside0.mk (blk_below (g := gb257) (o := .cells #[.int .u32 t249, .int .i64 t250, .int .i64 t251, .int .i64 t252, .int .i64 t253, .int .i64 t254, .int .u16 t255] 31 (0, 0)) (by (with_reducible repeat (first | refine blk_drewN ?_ _ | refine blk_drew ?_ | refine blk_alloc ?_ _)); refine blk_put (cs := #[.int .u32 t249, .int .i64 t250, .int .i64 t251, .int .i64 t252, .int .i64 t253, .int .i64 t254, .int .u16 0]) ?_ 6 _ rfl; (with_reducible repeat (first | refine blk_drewN ?_ _ | refine blk_drew ?_ | refine blk_alloc ?_ _)); refine blk_put (cs := #[.int .u32 t249, .int .i64 t250, .int .i64 t251, .int .i64 t252, .int .i64 t253, .int .i64 0, .int .u16 0]) ?_ 5 _ rfl; (with_reducible repeat (first | refine blk_drewN ?_ _ | refine blk_drew ?_ | refine blk_alloc ?_ _)); refine blk_put (cs := #[.int .u32 t249, .int .i64 t250, .int .i64 t251, .int .i64 t252, .int .i64 0, .int .i64 0, .int .u16 0]) ?_ 4 _ rfl; (with_reducible repeat (first | refine blk_drewN ?_ _ | refine blk_drew ?_ | refine blk_alloc ?_ _)); refine blk_put (cs := #[.int .u32 t249, .int .i64 t250, .int .i64 t251, .int .i64 0, .int .i64 0, .int .i64 0, .int .u16 0]) ?_ 3 _ rfl; (with_reducible repeat (first | refine blk_drewN ?_ _ | refine blk_drew ?_ | refine blk_alloc ?_ _)); refine blk_put (cs := #[.int .u32 t249, .int .i64 t250, .int .i64 0, .int .i64 0, .int .i64 0, .int .i64 0, .int .u16 0]) ?_ 2 _ rfl; (with_reducible repeat (first | refine blk_drewN ?_ _ | refine blk_drew ?_ | refine blk_alloc ?_ _)); refine blk_put (cs := #[.int .u32 t249, .int .i64 0, .int .i64 0, .int .i64 0, .int .i64 0, .int .i64 0, .int .u16 0]) ?_ 1 _ rfl; (with_reducible repeat (first | refine blk_drewN ?_ _ | refine blk_drew ?_ | refine blk_alloc ?_ _)); refine blk_put (cs := #[.int .u32 0, .int .i64 0, .int .i64 0, .int .i64 0, .int .i64 0, .int .i64 0, .int .u16 0]) ?_ 0 _ rfl; (with_reducible repeat (first | refine blk_drewN ?_ _ | refine blk_drew ?_ | refine blk_alloc ?_ _)); exact BK257.out) hb); have n3_ := Aside0.mk (below_step (by repeat (first | (with_reducible first | exact HB.out | apply below_alloc | apply pw_below_drewN | apply below_drew1 | refine below_set ?_ GE245.out | refine below_set ?_ GE246.out | refine below_set ?_ GE257.out) | exact HB.out)) hb); clear BK245; clear BK246; clear BK257; clear HB; have BK245 := n0_; have BK246 := n1_; have BK257 := n2_; have HB := n3_; clear n0_ n1_ n2_ n3_; (try clear hb); (try clear hb2); (try clear hk); (try clear hi)) | ((with_reducible refine gate_dst (N := 9) rfl ?_); refine box_event ?hg (N := 9) ?hd (cs := #[.int .u32 0, .int .i64 0, .int .i64 0, .int .i64 0, .int .i64 0, .int .i64 0, .int .u16 0]) (t := 31) ?hr ?_; (case hd => rfl); (case hg => rfl); (case hr => first | (go_simp; done) | (go_simp; rfl)); intro gb266 hg w31 hbox hb; have n0_ := Aside0.mk (blk_below (g := gb245) (o := .cells #[.int .i64 a0_0, .int .i64 a0_1, .slice A0_2 l0_2.length c0_2, .slice A0_3 l0_3.length c0_3, .int .i64 a0_4] 25 (0, 0)) (by (with_reducible repeat (first | refine blk_drewN ?_ _ | refine blk_drew ?_ | refine blk_alloc ?_ _)); exact BK245.out) hb); have n1_ := Aside0.mk (blk_below (g := gb246) (o := .cells #[.int .u32 a1_0, .int .i64 a1_1, .int .i64 a1_2, .int .i64 a1_3, .int .i64 a1_4, .int .i64 a1_5, .int .u16 a1_6] 31 (0, 0)) (by (with_reducible repeat (first | refine blk_drewN ?_ _ | refine blk_drew ?_ | refine blk_alloc ?_ _)); exact BK246.out) hb); have n2_ := Aside0.mk (blk_below (g := gb257) (o := .cells #[.int .u32 t249, .int .i64 t250, .int .i64 t251, .int .i64 t252, .int .i64 t253, .int .i64 t254, .int .u16 t255] 31 (0, 0)) (by (with_reducible repeat (first | refine blk_drewN ?_ _ | refine blk_drew ?_ | refine blk_alloc ?_ _)); exact BK257.out) hb); have n3_ := Aside0.mk (below_step (by repeat (first | (with_reducible first | exact HB.out | apply below_alloc | apply pw_below_drewN | apply below_drew1 | refine below_set ?_ GE245.out | refine below_set ?_ GE246.out | refine below_set ?_ GE257.out) | exact HB.out)) hb); have n4_ := Aside0.mk (hbox); have n5_ := Aside0.mk ((by rw [hg]; exact (below_size (by repeat (first | (with_reducible first | exact HB.out | apply below_alloc | apply pw_below_drewN | apply below_drew1 | refine below_set ?_ GE245.out | refine below_set ?_ GE246.out | refine below_set ?_ GE257.out) | exact HB.out))) : w.heap.size ≤ gb266)); have n6_ := Aside0.mk ((by rw [hg]; exact (below_size (by repeat (first | (with_reducible first | exact HB.out | apply below_alloc | apply pw_below_drewN | apply below_drew1 | refine below_set ?_ GE245.out | refine below_set ?_ GE246.out | refine below_set ?_ GE257.out) | exact HB.out))) : w.heap.size ≤ gb266)); have n7_ := Aside0.mk ((by rw [hg]; exact Nat.ne_of_lt (blk_lt (g := gb245) (o := .cells #[.int .i64 a0_0, .int .i64 a0_1, .slice A0_2 l0_2.length c0_2, .slice A0_3 l0_3.length c0_3, .int .i64 a0_4] 25 (0, 0)) (by (with_reducible repeat (first | refine blk_drewN ?_ _ | refine blk_drew ?_ | refine blk_alloc ?_ _)); exact BK245.out)) : gb245 ≠ gb266)); have n8_ := Aside0.mk ((by rw [hg]; exact Nat.ne_of_gt (blk_lt (g := gb245) (o := .cells #[.int .i64 a0_0, .int .i64 a0_1, .slice A0_2 l0_2.length c0_2, .slice A0_3 l0_3.length c0_3, .int .i64 a0_4] 25 (0, 0)) (by (with_reducible repeat (first | refine blk_drewN ?_ _ | refine blk_drew ?_ | refine blk_alloc ?_ _)); exact BK245.out)) : gb266 ≠ gb245)); have n9_ := Aside0.mk ((by rw [hg]; exact Nat.ne_of_lt (blk_lt (g := gb246) (o := .cells #[.int .u32 a1_0, .int .i64 a1_1, .int .i64 a1_2, .int .i64 a1_3, .int .i64 a1_4, .int .i64 a1_5, .int .u16 a1_6] 31 (0, 0)) (by (with_reducible repeat (first | refine blk_drewN ?_ _ | refine blk_drew ?_ | refine blk_alloc ?_ _)); exact BK246.out)) : gb246 ≠ gb266)); have n10_ := Aside0.mk ((by rw [hg]; exact Nat.ne_of_gt (blk_lt (g := gb246) (o := .cells #[.int .u32 a1_0, .int .i64 a1_1, .int .i64 a1_2, .int .i64 a1_3, .int .i64 a1_4, .int .i64 a1_5, .int .u16 a1_6] 31 (0, 0)) (by (with_reducible repeat (first | refine blk_drewN ?_ _ | refine blk_drew ?_ | refine blk_alloc ?_ _)); exact BK246.out)) : gb266 ≠ gb246)); have n11_ := Aside0.mk ((by rw [hg]; exact Nat.ne_of_lt (blk_lt (g := gb257) (o := .cells #[.int .u32 t249, .int .i64 t250, .int .i64 t251, .int .i64 t252, .int .i64 t253, .int .i64 t254, .int .u16 t255] 31 (0, 0)) (by (with_reducible repeat (first | refine blk_drewN ?_ _ | refine blk_drew ?_ | refine blk_alloc ?_ _)); exact BK257.out)) : gb257 ≠ gb266)); have n12_ := Aside0.mk ((by rw [hg]; exact Nat.ne_of_gt (blk_lt (g := gb257) (o := .cells #[.int .u32 t249, .int .i64 t250, .int .i64 t251, .int .i64 t252, .int .i64 t253, .int .i64 t254, .int .u16 t255] 31 (0, 0)) (by (with_reducible repeat (first | refine blk_drewN ?_ _ | refine blk_drew ?_ | refine blk_alloc ?_ _)); exact BK257.out)) : gb266 ≠ gb257)); clear BK245; clear BK246; clear BK257; clear HB; have BK245 := n0_; have BK246 := n1_; have BK257 := n2_; have HB := n3_; have BK266 := n4_; have GW266 := n5_; have GE266 := n6_; have NB245_266 := n7_; have NB266_245 := n8_; have NB246_266 := n9_; have NB266_246 := n10_; have NB257_266 := n11_; have NB266_257 := n12_; clear n0_ n1_ n2_ n3_ n4_ n5_ n6_ n7_ n8_ n9_ n10_ n11_ n12_; clear hb hbox hg; have hnb32 := NB266_245.out; have hnc32 := NB245_266.out; have hnb33 := NB266_246.out; have hnc33 := NB246_266.out; have hnb34 := NB266_257.out; have hnc34 := NB257_266.out; have hcz35_0 : w31.cell? ⟨gb266, 0, none⟩ = some (.int .u32 0) := (blk_cell BK266.out 0).trans rfl; have hcz35_1 : w31.cell? ⟨gb266, 1, none⟩ = some (.int .i64 0) := (blk_cell BK266.out 1).trans rfl; have hcz35_2 : w31.cell? ⟨gb266, 2, none⟩ = some (.int .i64 0) := (blk_cell BK266.out 2).trans rfl; have hcz35_3 : w31.cell? ⟨gb266, 3, none⟩ = some (.int .i64 0) := (blk_cell BK266.out 3).trans rfl; have hcz35_4 : w31.cell? ⟨gb266, 4, none⟩ = some (.int .i64 0) := (blk_cell BK266.out 4).trans rfl; have hcz35_5 : w31.cell? ⟨gb266, 5, none⟩ = some (.int .i64 0) := (blk_cell BK266.out 5).trans rfl; have hcz35_6 : w31.cell? ⟨gb266, 6, none⟩ = some (.int .u16 0) := (blk_cell BK266.out 6).trans rfl; have hfz35_0 := blk_frozen BK266.out 0; have hfz35_1 := blk_frozen BK266.out 1; have hfz35_2 := blk_frozen BK266.out 2; have hfz35_3 := blk_frozen BK266.out 3; have hfz35_4 := blk_frozen BK266.out 4; have hfz35_5 := blk_frozen BK266.out 5; have hfz35_6 := blk_frozen BK266.out 6))
      have n0_ : Aside0 ((((((((w31.setCell ⟨gb266, 0, none⟩ (.int .u32 t258)).setCell ⟨gb266, 1, none⟩ (.int .i64 t259)).setCell ⟨gb266, 2, none⟩ (.int .i64 t260)).setCell ⟨gb266, 3, none⟩ (.int .i64 t261)).setCell ⟨gb266, 4, none⟩ (.int .i64 t262)).setCell ⟨gb266, 5, none⟩ (.int .i64 t263)).setCell ⟨gb266, 6, none⟩ (.int .u16 t264)).heap[gb245]? = some (.cells #[.int .i64 a0_0, .int .i64 a0_1, .slice A0_2 l0_2.length c0_2, .slice A0_3 l0_3.length c0_3, .int .i64 a0_4] 25 (0, 0))) := ⟨by (with_reducible repeat (first | refine blk_drewN ?_ _ | refine blk_drew ?_ | refine blk_alloc ?_ _)); refine blk_far ?_ NB245_266.out _; (with_reducible repeat (first | refine blk_drewN ?_ _ | refine blk_drew ?_ | refine blk_alloc ?_ _)); refine blk_far ?_ NB245_266.out _; (with_reducible repeat (first | refine blk_drewN ?_ _ | refine blk_drew ?_ | refine blk_alloc ?_ _)); refine blk_far ?_ NB245_266.out _; (with_reducible repeat (first | refine blk_drewN ?_ _ | refine blk_drew ?_ | refine blk_alloc ?_ _)); refine blk_far ?_ NB245_266.out _; (with_reducible repeat (first | refine blk_drewN ?_ _ | refine blk_drew ?_ | refine blk_alloc ?_ _)); refine blk_far ?_ NB245_266.out _; (with_reducible repeat (first | refine blk_drewN ?_ _ | refine blk_drew ?_ | refine blk_alloc ?_ _)); refine blk_far ?_ NB245_266.out _; (with_reducible repeat (first | refine blk_drewN ?_ _ | refine blk_drew ?_ | refine blk_alloc ?_ _)); refine blk_far ?_ NB245_266.out _; (with_reducible repeat (first | refine blk_drewN ?_ _ | refine blk_drew ?_ | refine blk_alloc ?_ _)); exact BK245.out⟩
      have n1_ : Aside0 ((((((((w31.setCell ⟨gb266, 0, none⟩ (.int .u32 t258)).setCell ⟨gb266, 1, none⟩ (.int .i64 t259)).setCell ⟨gb266, 2, none⟩ (.int .i64 t260)).setCell ⟨gb266, 3, none⟩ (.int .i64 t261)).setCell ⟨gb266, 4, none⟩ (.int .i64 t262)).setCell ⟨gb266, 5, none⟩ (.int .i64 t263)).setCell ⟨gb266, 6, none⟩ (.int .u16 t264)).heap[gb246]? = some (.cells #[.int .u32 a1_0, .int .i64 a1_1, .int .i64 a1_2, .int .i64 a1_3, .int .i64 a1_4, .int .i64 a1_5, .int .u16 a1_6] 31 (0, 0))) := ⟨by (with_reducible repeat (first | refine blk_drewN ?_ _ | refine blk_drew ?_ | refine blk_alloc ?_ _)); refine blk_far ?_ NB246_266.out _; (with_reducible repeat (first | refine blk_drewN ?_ _ | refine blk_drew ?_ | refine blk_alloc ?_ _)); refine blk_far ?_ NB246_266.out _; (with_reducible repeat (first | refine blk_drewN ?_ _ | refine blk_drew ?_ | refine blk_alloc ?_ _)); refine blk_far ?_ NB246_266.out _; (with_reducible repeat (first | refine blk_drewN ?_ _ | refine blk_drew ?_ | refine blk_alloc ?_ _)); refine blk_far ?_ NB246_266.out _; (with_reducible repeat (first | refine blk_drewN ?_ _ | refine blk_drew ?_ | refine blk_alloc ?_ _)); refine blk_far ?_ NB246_266.out _; (with_reducible repeat (first | refine blk_drewN ?_ _ | refine blk_drew ?_ | refine blk_alloc ?_ _)); refine blk_far ?_ NB246_266.out _; (with_reducible repeat (first | refine blk_drewN ?_ _ | refine blk_drew ?_ | refine blk_alloc ?_ _)); refine blk_far ?_ NB246_266.out _; (with_reducible repeat (first | refine blk_drewN ?_ _ | refine blk_drew ?_ | refine blk_alloc ?_ _)); exact BK246.out⟩
      have n2_ : Aside0 ((((((((w31.setCell ⟨gb266, 0, none⟩ (.int .u32 t258)).setCell ⟨gb266, 1, none⟩ (.int .i64 t259)).setCell ⟨gb266, 2, none⟩ (.int .i64 t260)).setCell ⟨gb266, 3, none⟩ (.int .i64 t261)).setCell ⟨gb266, 4, none⟩ (.int .i64 t262)).setCell ⟨gb266, 5, none⟩ (.int .i64 t263)).setCell ⟨gb266, 6, none⟩ (.int .u16 t264)).heap[gb257]? = some (.cells #[.int .u32 t249, .int .i64 t250, .int .i64 t251, .int .i64 t252, .int .i64 t253, .int .i64 t254, .int .u16 t255] 31 (0, 0))) := ⟨by (with_reducible repeat (first | refine blk_drewN ?_ _ | refine blk_drew ?_ | refine blk_alloc ?_ _)); refine blk_far ?_ NB257_266.out _; (with_reducible repeat (first | refine blk_drewN ?_ _ | refine blk_drew ?_ | refine blk_alloc ?_ _)); refine blk_far ?_ NB257_266.out _; (with_reducible repeat (first | refine blk_drewN ?_ _ | refine blk_drew ?_ | refine blk_alloc ?_ _)); refine blk_far ?_ NB257_266.out _; (with_reducible repeat (first | refine blk_drewN ?_ _ | refine blk_drew ?_ | refine blk_alloc ?_ _)); refine blk_far ?_ NB257_266.out _; (with_reducible repeat (first | refine blk_drewN ?_ _ | refine blk_drew ?_ | refine blk_alloc ?_ _)); refine blk_far ?_ NB257_266.out _; (with_reducible repeat (first | refine blk_drewN ?_ _ | refine blk_drew ?_ | refine blk_alloc ?_ _)); refine blk_far ?_ NB257_266.out _; (with_reducible repeat (first | refine blk_drewN ?_ _ | refine blk_drew ?_ | refine blk_alloc ?_ _)); refine blk_far ?_ NB257_266.out _; (with_reducible repeat (first | refine blk_drewN ?_ _ | refine blk_drew ?_ | refine blk_alloc ?_ _)); exact BK257.out⟩
      have n3_ : Aside0 ((((((((w31.setCell ⟨gb266, 0, none⟩ (.int .u32 t258)).setCell ⟨gb266, 1, none⟩ (.int .i64 t259)).setCell ⟨gb266, 2, none⟩ (.int .i64 t260)).setCell ⟨gb266, 3, none⟩ (.int .i64 t261)).setCell ⟨gb266, 4, none⟩ (.int .i64 t262)).setCell ⟨gb266, 5, none⟩ (.int .i64 t263)).setCell ⟨gb266, 6, none⟩ (.int .u16 t264)).heap[gb266]? = some (.cells #[.int .u32 t258, .int .i64 t259, .int .i64 t260, .int .i64 t261, .int .i64 t262, .int .i64 t263, .int .u16 t264] 31 (0, 0))) := ⟨by (with_reducible repeat (first | refine blk_drewN ?_ _ | refine blk_drew ?_ | refine blk_alloc ?_ _)); refine blk_put (cs := #[.int .u32 t258, .int .i64 t259, .int .i64 t260, .int .i64 t261, .int .i64 t262, .int .i64 t263, .int .u16 0]) ?_ 6 _ rfl; (with_reducible repeat (first | refine blk_drewN ?_ _ | refine blk_drew ?_ | refine blk_alloc ?_ _)); refine blk_put (cs := #[.int .u32 t258, .int .i64 t259, .int .i64 t260, .int .i64 t261, .int .i64 t262, .int .i64 0, .int .u16 0]) ?_ 5 _ rfl; (with_reducible repeat (first | refine blk_drewN ?_ _ | refine blk_drew ?_ | refine blk_alloc ?_ _)); refine blk_put (cs := #[.int .u32 t258, .int .i64 t259, .int .i64 t260, .int .i64 t261, .int .i64 0, .int .i64 0, .int .u16 0]) ?_ 4 _ rfl; (with_reducible repeat (first | refine blk_drewN ?_ _ | refine blk_drew ?_ | refine blk_alloc ?_ _)); refine blk_put (cs := #[.int .u32 t258, .int .i64 t259, .int .i64 t260, .int .i64 0, .int .i64 0, .int .i64 0, .int .u16 0]) ?_ 3 _ rfl; (with_reducible repeat (first | refine blk_drewN ?_ _ | refine blk_drew ?_ | refine blk_alloc ?_ _)); refine blk_put (cs := #[.int .u32 t258, .int .i64 t259, .int .i64 0, .int .i64 0, .int .i64 0, .int .i64 0, .int .u16 0]) ?_ 2 _ rfl; (with_reducible repeat (first | refine blk_drewN ?_ _ | refine blk_drew ?_ | refine blk_alloc ?_ _)); refine blk_put (cs := #[.int .u32 t258, .int .i64 0, .int .i64 0, .int .i64 0, .int .i64 0, .int .i64 0, .int .u16 0]) ?_ 1 _ rfl; (with_reducible repeat (first | refine blk_drewN ?_ _ | refine blk_drew ?_ | refine blk_alloc ?_ _)); refine blk_put (cs := #[.int .u32 0, .int .i64 0, .int .i64 0, .int .i64 0, .int .i64 0, .int .i64 0, .int .u16 0]) ?_ 0 _ rfl; (with_reducible repeat (first | refine blk_drewN ?_ _ | refine blk_drew ?_ | refine blk_alloc ?_ _)); exact BK266.out⟩
      have n4_ : Aside0 (Below w.heap.size w (((((((w31.setCell ⟨gb266, 0, none⟩ (.int .u32 t258)).setCell ⟨gb266, 1, none⟩ (.int .i64 t259)).setCell ⟨gb266, 2, none⟩ (.int .i64 t260)).setCell ⟨gb266, 3, none⟩ (.int .i64 t261)).setCell ⟨gb266, 4, none⟩ (.int .i64 t262)).setCell ⟨gb266, 5, none⟩ (.int .i64 t263)).setCell ⟨gb266, 6, none⟩ (.int .u16 t264))) := ⟨by repeat (first | (with_reducible first | exact HB.out | apply below_alloc | apply pw_below_drewN | apply below_drew1 | refine below_set ?_ GE245.out | refine below_set ?_ GE246.out | refine below_set ?_ GE257.out | refine below_set ?_ GE266.out) | exact HB.out)⟩
      (try clear BK245)
      (try clear BK246)
      (try clear BK257)
      (try clear BK266)
      (try clear HB)
      generalize (((((((w31.setCell ⟨gb266, 0, none⟩ (.int .u32 t258)).setCell ⟨gb266, 1, none⟩ (.int .i64 t259)).setCell ⟨gb266, 2, none⟩ (.int .i64 t260)).setCell ⟨gb266, 3, none⟩ (.int .i64 t261)).setCell ⟨gb266, 4, none⟩ (.int .i64 t262)).setCell ⟨gb266, 5, none⟩ (.int .i64 t263)).setCell ⟨gb266, 6, none⟩ (.int .u16 t264)) = w36 at n0_ n1_ n2_ n3_ n4_ ⊢
      have BK245 := n0_
      have BK246 := n1_
      have BK257 := n2_
      have BK266 := n3_
      have HB := n4_
      clear n0_ n1_ n2_ n3_ n4_
      have n0_ := Aside0.mk (blk_drew BK245.out)
      have n1_ := Aside0.mk (blk_drew BK246.out)
      have n2_ := Aside0.mk (blk_drew BK257.out)
      have n3_ := Aside0.mk (blk_drew BK266.out)
      have n4_ := Aside0.mk (below_drew1 HB.out)
      clear BK245
      clear BK246
      clear BK257
      clear BK266
      clear HB
      have BK245 := n0_
      have BK246 := n1_
      have BK257 := n2_
      have BK266 := n3_
      have HB := n4_
      clear n0_ n1_ n2_ n3_ n4_
      refine start_ (n := 16) (S := fun w' => w'.cell? ⟨gb257, 0, none⟩ = some (.int .u32 t249) ∧ w'.cell? ⟨gb257, 1, none⟩ = some (.int .i64 t250) ∧ w'.cell? ⟨gb257, 2, none⟩ = some (.int .i64 t251) ∧ w'.cell? ⟨gb257, 3, none⟩ = some (.int .i64 t252) ∧ w'.cell? ⟨gb257, 4, none⟩ = some (.int .i64 t253) ∧ w'.cell? ⟨gb257, 5, none⟩ = some (.int .i64 t254) ∧ w'.cell? ⟨gb257, 6, none⟩ = some (.int .u16 t255) ∧ w'.cell? ⟨gb266, 0, none⟩ = some (.int .u32 t258) ∧ w'.cell? ⟨gb266, 1, none⟩ = some (.int .i64 t259) ∧ w'.cell? ⟨gb266, 2, none⟩ = some (.int .i64 t260) ∧ w'.cell? ⟨gb266, 3, none⟩ = some (.int .i64 t261) ∧ w'.cell? ⟨gb266, 4, none⟩ = some (.int .i64 t262) ∧ w'.cell? ⟨gb266, 5, none⟩ = some (.int .i64 t263) ∧ w'.cell? ⟨gb266, 6, none⟩ = some (.int .u16 t264) ∧ w'.cell? ⟨gb245, 0, none⟩ = some (.int .i64 a0_0) ∧ w'.cell? ⟨gb245, 1, none⟩ = some (.int .i64 a0_1) ∧ w'.cell? ⟨gb245, 2, none⟩ = some (.slice A0_2 l0_2.length c0_2) ∧ w'.cell? ⟨gb245, 3, none⟩ = some (.slice A0_3 l0_3.length c0_3) ∧ w'.cell? ⟨gb245, 4, none⟩ = some (.int .i64 a0_4)) (ds := []) #[false, false, false, false, false, false, false, false, false, false, false, false, false, false, false, false] (by kernel_rfl) rfl rfl ⟨(blk_cell BK257.out 0).trans rfl, (blk_cell BK257.out 1).trans rfl, (blk_cell BK257.out 2).trans rfl, (blk_cell BK257.out 3).trans rfl, (blk_cell BK257.out 4).trans rfl, (blk_cell BK257.out 5).trans rfl, (blk_cell BK257.out 6).trans rfl, (blk_cell BK266.out 0).trans rfl, (blk_cell BK266.out 1).trans rfl, (blk_cell BK266.out 2).trans rfl, (blk_cell BK266.out 3).trans rfl, (blk_cell BK266.out 4).trans rfl, (blk_cell BK266.out 5).trans rfl, (blk_cell BK266.out 6).trans rfl, (blk_cell BK245.out 0).trans rfl, (blk_cell BK245.out 1).trans rfl, (blk_cell BK245.out 2).trans rfl, (blk_cell BK245.out 3).trans rfl, (blk_cell BK245.out 4).trans rfl⟩ (fun hHeld => ?_); refine with_tabW octroilaw15_RedistPasses.tab7 octroilaw15_RedistPasses.bits7 (fun HT_ HW_ => ?_)
      generalize w36.drew = w37 at BK245 BK246 BK257 BK266 HB hHeld ⊢
      refine take_ (i := 0) (N := some 33) (v := ?_) (a' := ?_) #[true, false, false, false, false, false, false, false, false, false, false, false, false, false, false, false] rfl rfl (take_ofW HT_.out HW_.out (by kernel_rfl)) (fun _ _ _ h => h) (Or.inl ⟨by rfl, ?_⟩) hHeld ?_ ?_
      rotate_left
      ·
       rintro w' ⟨s0, s1, s2, s3, s4, s5, s6, s7, s8, s9, s10, s11, s12, s13, s14, s15, s16, s17, s18⟩
       go_simp
       with_reducible rfl
      rotate_left
      ·
       simp only [Act.put, List.setIfInBounds_toArray, List.set_cons_zero, List.set_cons_succ, i64_w, i32_w]
       rfl
      refine take_ (i := 1) (N := some 34) (v := ?_) (a' := ?_) #[true, true, false, false, false, false, false, false, false, false, false, false, false, false, false, false] rfl rfl (take_ofW HT_.out HW_.out (by kernel_rfl)) (fun _ _ _ h => h) (Or.inl ⟨by rfl, ?_⟩) hHeld ?_ ?_
      rotate_left
      ·
       rintro w' ⟨s0, s1, s2, s3, s4, s5, s6, s7, s8, s9, s10, s11, s12, s13, s14, s15, s16, s17, s18⟩
       go_simp
       with_reducible rfl
      rotate_left
      ·
       simp only [Act.put, List.setIfInBounds_toArray, List.set_cons_zero, List.set_cons_succ, i64_w, i32_w]
       rfl
      refine pure_ (i := 2) (N := some 35) (v := ?_) (a' := ?_) #[true, true, true, false, false, false, false, false, false, false, false, false, false, false, false, false] rfl rfl (any_of HT_.out (by kernel_rfl)) (fun _ _ _ h => h) (Or.inl ⟨by rfl, ?_⟩) ?_ ?_
      rotate_left
      ·
       intro w'
       go_simp
       with_reducible rfl
      rotate_left
      ·
       simp only [Act.put, List.setIfInBounds_toArray, List.set_cons_zero, List.set_cons_succ, i64_w, i32_w]
       rfl
      refine pure_ (i := 3) (N := some 36) (v := ?_) (a' := ?_) #[true, true, true, true, false, false, false, false, false, false, false, false, false, false, false, false] rfl rfl (any_of HT_.out (by kernel_rfl)) (fun _ _ _ h => h) (Or.inl ⟨by rfl, ?_⟩) ?_ ?_
      rotate_left
      ·
       intro w'
       go_simp
       with_reducible rfl
      rotate_left
      ·
       simp only [Act.put, List.setIfInBounds_toArray, List.set_cons_zero, List.set_cons_succ, i64_w, i32_w]
       rfl
      refine pure_ (i := 4) (N := some 37) (v := ?_) (a' := ?_) #[true, true, true, true, true, false, false, false, false, false, false, false, false, false, false, false] rfl rfl (any_of HT_.out (by kernel_rfl)) (fun _ _ _ h => h) (Or.inl ⟨by rfl, ?_⟩) ?_ ?_
      rotate_left
      ·
       intro w'
       go_simp
       with_reducible rfl
      rotate_left
      ·
       simp only [Act.put, List.setIfInBounds_toArray, List.set_cons_zero, List.set_cons_succ, i64_w, i32_w]
       rfl
      refine pure_ (i := 5) (N := some 38) (v := ?_) (a' := ?_) #[true, true, true, true, true, true, false, false, false, false, false, false, false, false, false, false] rfl rfl (any_of HT_.out (by kernel_rfl)) (fun _ _ _ h => h) (Or.inl ⟨by rfl, ?_⟩) ?_ ?_
      rotate_left
      ·
       intro w'
       go_simp
       with_reducible rfl
      rotate_left
      ·
       simp only [Act.put, List.setIfInBounds_toArray, List.set_cons_zero, List.set_cons_succ, i64_w, i32_w]
       rfl
      refine pure_ (i := 6) (N := some 39) (v := ?_) (a' := ?_) #[true, true, true, true, true, true, true, false, false, false, false, false, false, false, false, false] rfl rfl (any_of HT_.out (by kernel_rfl)) (fun _ _ _ h => h) (Or.inl ⟨by rfl, ?_⟩) ?_ ?_
      rotate_left
      ·
       intro w'
       go_simp
       with_reducible rfl
      rotate_left
      ·
       simp only [Act.put, List.setIfInBounds_toArray, List.set_cons_zero, List.set_cons_succ, i64_w, i32_w]
       rfl
      refine pure_ (i := 7) (N := some 40) (v := ?_) (a' := ?_) #[true, true, true, true, true, true, true, true, false, false, false, false, false, false, false, false] rfl rfl (any_of HT_.out (by kernel_rfl)) (fun _ _ _ h => h) (Or.inl ⟨by rfl, ?_⟩) ?_ ?_
      rotate_left
      ·
       intro w'
       go_simp
       with_reducible rfl
      rotate_left
      ·
       simp only [Act.put, List.setIfInBounds_toArray, List.set_cons_zero, List.set_cons_succ, i64_w, i32_w]
       rfl
      refine pure_ (i := 8) (N := some 41) (v := ?_) (a' := ?_) #[true, true, true, true, true, true, true, true, true, false, false, false, false, false, false, false] rfl rfl (any_of HT_.out (by kernel_rfl)) (fun _ _ _ h => h) (Or.inl ⟨by rfl, ?_⟩) ?_ ?_
      rotate_left
      ·
       intro w'
       go_simp
       with_reducible rfl
      rotate_left
      ·
       simp only [Act.put, List.setIfInBounds_toArray, List.set_cons_zero, List.set_cons_succ, i64_w, i32_w]
       rfl
      refine take_ (i := 9) (N := some 42) (v := ?_) (a' := ?_) #[true, true, true, true, true, true, true, true, true, true, false, false, false, false, false, false] rfl rfl (take_ofW HT_.out HW_.out (by kernel_rfl)) (fun _ _ _ h => h) (Or.inl ⟨by rfl, ?_⟩) hHeld ?_ ?_
      rotate_left
      ·
       rintro w' ⟨s0, s1, s2, s3, s4, s5, s6, s7, s8, s9, s10, s11, s12, s13, s14, s15, s16, s17, s18⟩
       go_simp
       with_reducible rfl
      rotate_left
      ·
       simp only [Act.put, List.setIfInBounds_toArray, List.set_cons_zero, List.set_cons_succ, i64_w, i32_w]
       rfl
      refine take_ (i := 11) (N := some 44) (v := ?_) (a' := ?_) #[true, true, true, true, true, true, true, true, true, true, false, true, false, false, false, false] rfl rfl (take_ofW HT_.out HW_.out (by kernel_rfl)) (fun _ _ _ h => h) (Or.inl ⟨by rfl, ?_⟩) hHeld ?_ ?_
      rotate_left
      ·
       rintro w' ⟨s0, s1, s2, s3, s4, s5, s6, s7, s8, s9, s10, s11, s12, s13, s14, s15, s16, s17, s18⟩
       go_simp
       with_reducible rfl
      rotate_left
      ·
       simp only [Act.put, List.setIfInBounds_toArray, List.set_cons_zero, List.set_cons_succ, i64_w, i32_w]
       rfl
      refine one_ (i := 10) (N := some 43) #[true, true, true, true, true, true, true, true, true, true, true, true, false, false, false, false] rfl rfl (one_of HT_.out (by kernel_rfl)) (by decide) (fun K hK => ?_)
      refine goes_ Try.func12 (by kernel_rfl) rfl #[.agg #[.int .i64 a0_0, .int .i64 a0_1, .slice A0_2 l0_2.length c0_2, .slice A0_3 l0_3.length c0_3, .int .i64 a0_4]] (by rfl) rfl rfl (by (try simp only [List.map_toArray, List.map_cons, List.map_nil]); first | done | rfl | (simp only [List.length_drop, List.length_take]; rfl)) ?_
      with_reducible refine (redist_May.calls kj4 a0_0 a0_1 _ _ l0_2 _ _ l0_3 a0_4 t267 _ ?side1 ?side2 ?side3 ?side4 A18.out).mono ?_
      (case side1 => repeat (first | exact (Kd.C_below HR0_2.out HB.out) | (with_reducible refine Kd.C_alloc ?_ _) | (with_reducible refine Kd.C_drewN ?_ _) | (with_reducible refine Kd.C_drew ?_)))
      (case side2 => exact HC0_2.out)
      (case side3 => repeat (first | exact (Kd.C_below HR0_3.out HB.out) | (with_reducible refine Kd.C_alloc ?_ _) | (with_reducible refine Kd.C_drewN ?_ _) | (with_reducible refine Kd.C_drew ?_)))
      (case side4 => exact HC0_3.out)
      rintro e w38 ⟨rfl, hb⟩
      refine ⟨_, rfl, ?_⟩
      have n0_ := Aside0.mk (blk_below (g := gb245) (o := .cells #[.int .i64 a0_0, .int .i64 a0_1, .slice A0_2 l0_2.length c0_2, .slice A0_3 l0_3.length c0_3, .int .i64 a0_4] 25 (0, 0)) (by (with_reducible repeat (first | refine blk_drewN ?_ _ | refine blk_drew ?_ | refine blk_alloc ?_ _)); exact BK245.out) hb)
      have n1_ := Aside0.mk (blk_below (g := gb246) (o := .cells #[.int .u32 a1_0, .int .i64 a1_1, .int .i64 a1_2, .int .i64 a1_3, .int .i64 a1_4, .int .i64 a1_5, .int .u16 a1_6] 31 (0, 0)) (by (with_reducible repeat (first | refine blk_drewN ?_ _ | refine blk_drew ?_ | refine blk_alloc ?_ _)); exact BK246.out) hb)
      have n2_ := Aside0.mk (blk_below (g := gb257) (o := .cells #[.int .u32 t249, .int .i64 t250, .int .i64 t251, .int .i64 t252, .int .i64 t253, .int .i64 t254, .int .u16 t255] 31 (0, 0)) (by (with_reducible repeat (first | refine blk_drewN ?_ _ | refine blk_drew ?_ | refine blk_alloc ?_ _)); exact BK257.out) hb)
      have n3_ := Aside0.mk (blk_below (g := gb266) (o := .cells #[.int .u32 t258, .int .i64 t259, .int .i64 t260, .int .i64 t261, .int .i64 t262, .int .i64 t263, .int .u16 t264] 31 (0, 0)) (by (with_reducible repeat (first | refine blk_drewN ?_ _ | refine blk_drew ?_ | refine blk_alloc ?_ _)); exact BK266.out) hb)
      have n4_ := Aside0.mk (below_step (by repeat (first | (with_reducible first | exact HB.out | apply below_alloc | apply pw_below_drewN | apply below_drew1 | refine below_set ?_ GE245.out | refine below_set ?_ GE246.out | refine below_set ?_ GE257.out | refine below_set ?_ GE266.out) | exact HB.out)) hb)
      clear BK245
      clear BK246
      clear BK257
      clear BK266
      clear HB
      have BK245 := n0_
      have BK246 := n1_
      have BK257 := n2_
      have BK266 := n3_
      have HB := n4_
      clear n0_ n1_ n2_ n3_ n4_
      (try clear hb)
      (try clear hb2)
      (try clear hk)
      (try clear hi)
      refine hK.out _ _ ⟨(blk_cell BK257.out 0).trans rfl, (blk_cell BK257.out 1).trans rfl, (blk_cell BK257.out 2).trans rfl, (blk_cell BK257.out 3).trans rfl, (blk_cell BK257.out 4).trans rfl, (blk_cell BK257.out 5).trans rfl, (blk_cell BK257.out 6).trans rfl, (blk_cell BK266.out 0).trans rfl, (blk_cell BK266.out 1).trans rfl, (blk_cell BK266.out 2).trans rfl, (blk_cell BK266.out 3).trans rfl, (blk_cell BK266.out 4).trans rfl, (blk_cell BK266.out 5).trans rfl, (blk_cell BK266.out 6).trans rfl, (blk_cell BK245.out 0).trans rfl, (blk_cell BK245.out 1).trans rfl, (blk_cell BK245.out 2).trans rfl, (blk_cell BK245.out 3).trans rfl, (blk_cell BK245.out 4).trans rfl⟩ (fun hHeld => ?_)
      clear hK K
      refine norm_ (a' := ?_) ?_ ?_
      rotate_left
      ·
       show Act.put _ (some 43) _ = _
       simp only [Act.put, List.setIfInBounds_toArray, List.set_cons_zero, List.set_cons_succ, i64_w, i32_w]
       rfl
      refine one_ (i := 12) (N := some 45) #[true, true, true, true, true, true, true, true, true, true, true, true, true, false, false, false] rfl rfl (one_of HT_.out (by kernel_rfl)) (by decide) (fun K hK => ?_)
      refine goes_ Try.func13 (by kernel_rfl) rfl #[.agg #[.int .i64 a0_0, .int .i64 a0_1, .slice A0_2 l0_2.length c0_2, .slice A0_3 l0_3.length c0_3, .int .i64 a0_4]] (by rfl) rfl rfl (by (try simp only [List.map_toArray, List.map_cons, List.map_nil]); first | done | rfl | (simp only [List.length_drop, List.length_take]; rfl)) ?_
      with_reducible refine (octroiref15_May.calls kj4 a0_0 a0_1 _ _ l0_2 _ _ l0_3 a0_4 t268 _ ?side1 ?side2 ?side3 ?side4 A19.out).mono ?_
      (case side1 => repeat (first | exact (Kd.C_below HR0_2.out HB.out) | (with_reducible refine Kd.C_alloc ?_ _) | (with_reducible refine Kd.C_drewN ?_ _) | (with_reducible refine Kd.C_drew ?_)))
      (case side2 => exact HC0_2.out)
      (case side3 => repeat (first | exact (Kd.C_below HR0_3.out HB.out) | (with_reducible refine Kd.C_alloc ?_ _) | (with_reducible refine Kd.C_drewN ?_ _) | (with_reducible refine Kd.C_drew ?_)))
      (case side4 => exact HC0_3.out)
      rintro e w39 ⟨rfl, hb⟩
      refine ⟨_, rfl, ?_⟩
      have n0_ := Aside0.mk (blk_below (g := gb245) (o := .cells #[.int .i64 a0_0, .int .i64 a0_1, .slice A0_2 l0_2.length c0_2, .slice A0_3 l0_3.length c0_3, .int .i64 a0_4] 25 (0, 0)) (by (with_reducible repeat (first | refine blk_drewN ?_ _ | refine blk_drew ?_ | refine blk_alloc ?_ _)); exact BK245.out) hb)
      have n1_ := Aside0.mk (blk_below (g := gb246) (o := .cells #[.int .u32 a1_0, .int .i64 a1_1, .int .i64 a1_2, .int .i64 a1_3, .int .i64 a1_4, .int .i64 a1_5, .int .u16 a1_6] 31 (0, 0)) (by (with_reducible repeat (first | refine blk_drewN ?_ _ | refine blk_drew ?_ | refine blk_alloc ?_ _)); exact BK246.out) hb)
      have n2_ := Aside0.mk (blk_below (g := gb257) (o := .cells #[.int .u32 t249, .int .i64 t250, .int .i64 t251, .int .i64 t252, .int .i64 t253, .int .i64 t254, .int .u16 t255] 31 (0, 0)) (by (with_reducible repeat (first | refine blk_drewN ?_ _ | refine blk_drew ?_ | refine blk_alloc ?_ _)); exact BK257.out) hb)
      have n3_ := Aside0.mk (blk_below (g := gb266) (o := .cells #[.int .u32 t258, .int .i64 t259, .int .i64 t260, .int .i64 t261, .int .i64 t262, .int .i64 t263, .int .u16 t264] 31 (0, 0)) (by (with_reducible repeat (first | refine blk_drewN ?_ _ | refine blk_drew ?_ | refine blk_alloc ?_ _)); exact BK266.out) hb)
      have n4_ := Aside0.mk (below_step (by repeat (first | (with_reducible first | exact HB.out | apply below_alloc | apply pw_below_drewN | apply below_drew1 | refine below_set ?_ GE245.out | refine below_set ?_ GE246.out | refine below_set ?_ GE257.out | refine below_set ?_ GE266.out) | exact HB.out)) hb)
      clear BK245
      clear BK246
      clear BK257
      clear BK266
      clear HB
      have BK245 := n0_
      have BK246 := n1_
      have BK257 := n2_
      have BK266 := n3_
      have HB := n4_
      clear n0_ n1_ n2_ n3_ n4_
      (try clear hb)
      (try clear hb2)
      (try clear hk)
      (try clear hi)
      refine hK.out _ _ ⟨(blk_cell BK257.out 0).trans rfl, (blk_cell BK257.out 1).trans rfl, (blk_cell BK257.out 2).trans rfl, (blk_cell BK257.out 3).trans rfl, (blk_cell BK257.out 4).trans rfl, (blk_cell BK257.out 5).trans rfl, (blk_cell BK257.out 6).trans rfl, (blk_cell BK266.out 0).trans rfl, (blk_cell BK266.out 1).trans rfl, (blk_cell BK266.out 2).trans rfl, (blk_cell BK266.out 3).trans rfl, (blk_cell BK266.out 4).trans rfl, (blk_cell BK266.out 5).trans rfl, (blk_cell BK266.out 6).trans rfl, (blk_cell BK245.out 0).trans rfl, (blk_cell BK245.out 1).trans rfl, (blk_cell BK245.out 2).trans rfl, (blk_cell BK245.out 3).trans rfl, (blk_cell BK245.out 4).trans rfl⟩ (fun hHeld => ?_)
      clear hK K
      refine norm_ (a' := ?_) ?_ ?_
      rotate_left
      ·
       show Act.put _ (some 45) _ = _
       simp only [Act.put, List.setIfInBounds_toArray, List.set_cons_zero, List.set_cons_succ, i64_w, i32_w]
       rfl
      refine pure_ (i := 13) (N := some 46) (v := ?_) (a' := ?_) #[true, true, true, true, true, true, true, true, true, true, true, true, true, true, false, false] rfl rfl (any_of HT_.out (by kernel_rfl)) (fun _ _ _ h => h) (Or.inl ⟨by rfl, ?_⟩) ?_ ?_
      rotate_left
      ·
       intro w'
       go_simp
       with_reducible rfl
      rotate_left
      ·
       simp only [Act.put, List.setIfInBounds_toArray, List.set_cons_zero, List.set_cons_succ, i64_w, i32_w]
       rfl
      refine pure_ (i := 14) (N := some 47) (v := ?_) (a' := ?_) #[true, true, true, true, true, true, true, true, true, true, true, true, true, true, true, false] rfl rfl (any_of HT_.out (by kernel_rfl)) (fun _ _ _ h => h) (Or.inl ⟨by rfl, ?_⟩) ?_ ?_
      rotate_left
      ·
       intro w'
       go_simp
       with_reducible rfl
      rotate_left
      ·
       simp only [Act.put, List.setIfInBounds_toArray, List.set_cons_zero, List.set_cons_succ, i64_w, i32_w]
       rfl
      refine pure_ (i := 15) (N := some 4) (v := ?_) (a' := ?_) #[true, true, true, true, true, true, true, true, true, true, true, true, true, true, true, true] rfl rfl (any_of HT_.out (by kernel_rfl)) (fun _ _ _ h => h) (Or.inl ⟨by rfl, ?_⟩) ?_ ?_
      rotate_left
      ·
       intro w'
       go_simp
       with_reducible rfl
      rotate_left
      ·
       simp only [Act.put, List.setIfInBounds_toArray, List.set_cons_zero, List.set_cons_succ, i64_w, i32_w]
       rfl
      refine done_ (done_of HT_.out (by kernel_rfl)) ?_
      try go_wp2
      go_ret
      exact ⟨by first | rfl | (simp [errW_none, errW_some] <;> rfl) | (simp [*, errW_none, errW_some] <;> rfl), by repeat (first | (with_reducible first | exact HB.out | apply below_alloc | apply pw_below_drewN | apply below_drew1 | refine below_set ?_ GE245.out | refine below_set ?_ GE246.out | refine below_set ?_ GE257.out | refine below_set ?_ GE266.out) | exact HB.out)⟩
     ·
      rw [if_neg c17] at H
      have c17b0 : (t256 == t265) = false := beq_eq_false_iff_ne.mpr c17
      have c17b1 : (t256 != t265) = true := bne_iff_ne.mpr c17
      exact absurd H (by simp)
    ·
     rw [if_neg c16] at H
     have c16b0 : ((t249 == t258 && (t250 == t259)) && (t251 == t260 && (t252 == t261 && (t253 == t262 && (t254 == t263 && (t255 == t264)))))) = false := by simpa using c16
     clear c16
     exact absurd H (by simp)

end Go.Proofs.Ytdhejpjggmikiaa.L
