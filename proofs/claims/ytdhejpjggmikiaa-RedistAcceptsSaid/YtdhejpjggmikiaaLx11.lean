/- Printed by the session's own program out of the translation: for each Go function a Lean function with the same answers, and the proof that the code comes to them. No conditions. -/
import Derived.Test.YtdhejpjggmikiaaLx0
import Derived.Test.YtdhejpjggmikiaaLx8
import Derived.Test.YtdhejpjggmikiaaLx10
namespace Go.Proofs.Ytdhejpjggmikiaa.L
open Go.Proofs.YtdhejpjggmikiaaLab
open Go.RowKit Go.Proofs.YtdhejpjggmikiaaW.PrintWords Go.Proofs.YtdhejpjggmikiaaW.PrintLast Go.Proofs.YtdhejpjggmikiaaW.PrintMore
attribute [local go_sem] max2_int min2_int max_two min_two max_three min_three max_four min_four   -- for this text's walks alone
set_option linter.unusedVariables false
set_option linter.unusedSimpArgs false

/-! ### octroiref15_Pass: function 11 -/
mutual
def octroiref15_Pass.j0 : Nat → Bool → Int → Int → List (S61) → List (S64) → Int → Int → Int → Int → Int → Int → Int → Int → Int → Int → Int → Int → Int → Int → Int → Option (Int × Int × Int × Int × Int × Int × Int × Int)
 | 0, _, _, _, _, _, _, _, _, _, _, _, _, _, _, _, _, _, _, _, _ => none
 | k + 1, x27, x233000, x233001, x233002, x233003, x233004, x234000, x234001, x234002, x234003, x234004, x234005, x234006, x236000, x236001, x236002, x236003, x236004, x236005, x236006 => if x27 = true then (some (x236000, x236001, x236002, x236003, x236004, x236005, x236006, 1)) else ((octroiref03_Has.f k x234006 x233000).bind fun t237 => ((octroiref03_Has.f k x234006 x233001).bind fun t238 => (if t237 = true then (octroiref15_Pass.j1 k true x233000 x233001 x233002 x233003 x233004 x234000 x234001 x234002 x234003 x234004 x234005 x234006 x236000 x236001 x236002 x236003 x236004 x236005 x236006) else (octroiref15_Pass.j1 k t238 x233000 x233001 x233002 x233003 x233004 x234000 x234001 x234002 x234003 x234004 x234005 x234006 x236000 x236001 x236002 x236003 x236004 x236005 x236006))))
def octroiref15_Pass.j1 : Nat → Bool → Int → Int → List (S61) → List (S64) → Int → Int → Int → Int → Int → Int → Int → Int → Int → Int → Int → Int → Int → Int → Int → Option (Int × Int × Int × Int × Int × Int × Int × Int)
 | 0, _, _, _, _, _, _, _, _, _, _, _, _, _, _, _, _, _, _, _, _ => none
 | k + 1, x42, x233000, x233001, x233002, x233003, x233004, x234000, x234001, x234002, x234003, x234004, x234005, x234006, x236000, x236001, x236002, x236003, x236004, x236005, x236006 => if x42 = true then (some (x236000, x236001, x236002, x236003, x236004, x236005, x236006, 6)) else ((octroiref13_Permits.f k x233002 x234000 x234001 x234006).bind fun bt239 => (if bt239.1 = true then ((octroiref14_To.f k x233003 x233004 x234004).bind fun bt241 => (if bt241.2 = true then ((octroiref03_Add.f k x234006 x233000).bind fun bt243 => (some (x234000, x234001, x233001, x234003, bt241.1, 0, bt243.1, 0))) else (some (x236000, x236001, x236002, x236003, x236004, x236005, x236006, 7)))) else (some (x236000, x236001, x236002, x236003, x236004, x236005, x236006, 7))))
end
def octroiref15_Pass.f (k : Nat) (a0_0 : Int) (a0_1 : Int) (l0_2 : List (S61)) (l0_3 : List (S64)) (a0_4 : Int) (a1_0 : Int) (a1_1 : Int) (a1_2 : Int) (a1_3 : Int) (a1_4 : Int) (a1_5 : Int) (a1_6 : Int) : Option (Int × Int × Int × Int × Int × Int × Int × Int) := (octroiref15_May.f k a0_0 a0_1 l0_2 l0_3 a0_4).bind fun t236 => (if t236 = true then (octroiref15_Pass.j0 k (a1_2 != a0_0) a0_0 a0_1 l0_2 l0_3 a0_4 a1_0 a1_1 a1_2 a1_3 a1_4 a1_5 a1_6 0 0 0 0 0 0 0) else (octroiref15_Pass.j0 k true a0_0 a0_1 l0_2 l0_3 a0_4 a1_0 a1_1 a1_2 a1_3 a1_4 a1_5 a1_6 0 0 0 0 0 0 0))
theorem octroiref15_Pass.mono_l : ∀ k, (∀ y0 y1 y2 y3 y4 y5 y6 y7 y8 y9 y10 y11 y12 y13 y14 y15 y16 y17 y18 y19, LeO (octroiref15_Pass.j0 k y0 y1 y2 y3 y4 y5 y6 y7 y8 y9 y10 y11 y12 y13 y14 y15 y16 y17 y18 y19) (octroiref15_Pass.j0 (k + 1) y0 y1 y2 y3 y4 y5 y6 y7 y8 y9 y10 y11 y12 y13 y14 y15 y16 y17 y18 y19)) ∧ (∀ y0 y1 y2 y3 y4 y5 y6 y7 y8 y9 y10 y11 y12 y13 y14 y15 y16 y17 y18 y19, LeO (octroiref15_Pass.j1 k y0 y1 y2 y3 y4 y5 y6 y7 y8 y9 y10 y11 y12 y13 y14 y15 y16 y17 y18 y19) (octroiref15_Pass.j1 (k + 1) y0 y1 y2 y3 y4 y5 y6 y7 y8 y9 y10 y11 y12 y13 y14 y15 y16 y17 y18 y19))
 | 0 => ⟨fun _ _ _ _ _ _ _ _ _ _ _ _ _ _ _ _ _ _ _ _ r h => by simp [octroiref15_Pass.j0] at h, fun _ _ _ _ _ _ _ _ _ _ _ _ _ _ _ _ _ _ _ _ r h => by simp [octroiref15_Pass.j1] at h⟩
 | k + 1 => by
  obtain ⟨ih0, ih1⟩ := octroiref15_Pass.mono_l k
  refine ⟨?_, ?_⟩
  ·
   intro y0 y1 y2 y3 y4 y5 y6 y7 y8 y9 y10 y11 y12 y13 y14 y15 y16 y17 y18 y19
   unfold octroiref15_Pass.j0
   repeat' first
   | (with_reducible exact ih0 _ _ _ _ _ _ _ _ _ _ _ _ _ _ _ _ _ _ _ _)
   | (with_reducible exact ih1 _ _ _ _ _ _ _ _ _ _ _ _ _ _ _ _ _ _ _ _)
   | (with_reducible exact octroiref03_Add.mono _ _ _)
   | (with_reducible exact octroiref03_Has.mono _ _ _)
   | (with_reducible exact octroiref13_Permits.mono _ _ _ _ _)
   | (with_reducible exact octroiref14_To.mono _ _ _ _)
   | (with_reducible exact octroiref15_May.mono _ _ _ _ _ _)
   | (with_reducible exact LeO.refl _)
   | (with_reducible exact LeO.none _)
   | (with_reducible refine LeO.ite ?_ ?_)
   | (with_reducible refine LeO.bind ?_ (fun _ => ?_))
   | exact ih0 _ _ _ _ _ _ _ _ _ _ _ _ _ _ _ _ _ _ _ _
   | exact ih1 _ _ _ _ _ _ _ _ _ _ _ _ _ _ _ _ _ _ _ _
   | exact octroiref03_Add.mono _ _ _
   | exact octroiref03_Has.mono _ _ _
   | exact octroiref13_Permits.mono _ _ _ _ _
   | exact octroiref14_To.mono _ _ _ _
   | exact octroiref15_May.mono _ _ _ _ _ _
   | exact LeO.none _
   | refine LeO.ite ?_ ?_
   | refine LeO.bind ?_ (fun _ => ?_)
  ·
   intro y0 y1 y2 y3 y4 y5 y6 y7 y8 y9 y10 y11 y12 y13 y14 y15 y16 y17 y18 y19
   unfold octroiref15_Pass.j1
   repeat' first
   | (with_reducible exact ih0 _ _ _ _ _ _ _ _ _ _ _ _ _ _ _ _ _ _ _ _)
   | (with_reducible exact ih1 _ _ _ _ _ _ _ _ _ _ _ _ _ _ _ _ _ _ _ _)
   | (with_reducible exact octroiref03_Add.mono _ _ _)
   | (with_reducible exact octroiref03_Has.mono _ _ _)
   | (with_reducible exact octroiref13_Permits.mono _ _ _ _ _)
   | (with_reducible exact octroiref14_To.mono _ _ _ _)
   | (with_reducible exact octroiref15_May.mono _ _ _ _ _ _)
   | (with_reducible exact LeO.refl _)
   | (with_reducible exact LeO.none _)
   | (with_reducible refine LeO.ite ?_ ?_)
   | (with_reducible refine LeO.bind ?_ (fun _ => ?_))
   | exact ih0 _ _ _ _ _ _ _ _ _ _ _ _ _ _ _ _ _ _ _ _
   | exact ih1 _ _ _ _ _ _ _ _ _ _ _ _ _ _ _ _ _ _ _ _
   | exact octroiref03_Add.mono _ _ _
   | exact octroiref03_Has.mono _ _ _
   | exact octroiref13_Permits.mono _ _ _ _ _
   | exact octroiref14_To.mono _ _ _ _
   | exact octroiref15_May.mono _ _ _ _ _ _
   | exact LeO.none _
   | refine LeO.ite ?_ ?_
   | refine LeO.bind ?_ (fun _ => ?_)
theorem octroiref15_Pass.mono : ∀ a0 a1 a2 a3 a4 a5 a6 a7 a8 a9 a10 a11 k, LeO (octroiref15_Pass.f k a0 a1 a2 a3 a4 a5 a6 a7 a8 a9 a10 a11) (octroiref15_Pass.f (k + 1) a0 a1 a2 a3 a4 a5 a6 a7 a8 a9 a10 a11) := by
 intro a0 a1 a2 a3 a4 a5 a6 a7 a8 a9 a10 a11 k
 obtain ⟨ih0, ih1⟩ := octroiref15_Pass.mono_l k
 unfold octroiref15_Pass.f
 repeat' first
   | (with_reducible exact ih0 _ _ _ _ _ _ _ _ _ _ _ _ _ _ _ _ _ _ _ _)
   | (with_reducible exact ih1 _ _ _ _ _ _ _ _ _ _ _ _ _ _ _ _ _ _ _ _)
   | (with_reducible exact octroiref03_Add.mono _ _ _)
   | (with_reducible exact octroiref03_Has.mono _ _ _)
   | (with_reducible exact octroiref13_Permits.mono _ _ _ _ _)
   | (with_reducible exact octroiref14_To.mono _ _ _ _)
   | (with_reducible exact octroiref15_May.mono _ _ _ _ _ _)
   | (with_reducible exact LeO.refl _)
   | (with_reducible exact LeO.none _)
   | (with_reducible refine LeO.ite ?_ ?_)
   | (with_reducible refine LeO.bind ?_ (fun _ => ?_))
   | exact ih0 _ _ _ _ _ _ _ _ _ _ _ _ _ _ _ _ _ _ _ _
   | exact ih1 _ _ _ _ _ _ _ _ _ _ _ _ _ _ _ _ _ _ _ _
   | exact octroiref03_Add.mono _ _ _
   | exact octroiref03_Has.mono _ _ _
   | exact octroiref13_Permits.mono _ _ _ _ _
   | exact octroiref14_To.mono _ _ _ _
   | exact octroiref15_May.mono _ _ _ _ _ _
   | exact LeO.none _
   | refine LeO.ite ?_ ?_
   | refine LeO.bind ?_ (fun _ => ?_)
set_option maxHeartbeats 8000000 in
set_option maxRecDepth 100000 in
theorem octroiref15_Pass.calls (k : Nat) (a0_0 : Int) (a0_1 : Int) (A0_2 : Option Addr) (c0_2 : Nat) (l0_2 : List (S61)) (A0_3 : Option Addr) (c0_3 : Nat) (l0_3 : List (S64)) (a0_4 : Int) (a1_0 : Int) (a1_1 : Int) (a1_2 : Int) (a1_3 : Int) (a1_4 : Int) (a1_5 : Int) (a1_6 : Int) (r1 : Int) (r2 : Int) (r3 : Int) (r4 : Int) (r5 : Int) (r6 : Int) (r7 : Int) (r8 : Int) (w : World) (hr0_2 : Kd.C k61 w A0_2 l0_2.length l0_2) (hc0_2 : l0_2.length ≤ c0_2) (hr0_3 : Kd.C k64 w A0_3 l0_3.length l0_3) (hc0_3 : l0_3.length ≤ c0_3) (h : octroiref15_Pass.f k a0_0 a0_1 l0_2 l0_3 a0_4 a1_0 a1_1 a1_2 a1_3 a1_4 a1_5 a1_6 = some (r1, r2, r3, r4, r5, r6, r7, r8)) :
  Calls Try.prog 11 #[.agg #[.int .i64 a0_0, .int .i64 a0_1, .slice A0_2 l0_2.length c0_2, .slice A0_3 l0_3.length c0_3, .int .i64 a0_4], .agg #[.int .u32 a1_0, .int .i64 a1_1, .int .i64 a1_2, .int .i64 a1_3, .int .i64 a1_4, .int .i64 a1_5, .int .u16 a1_6]] w fun e w' => e = .returned (.tuple #[.agg #[.int .u32 r1, .int .i64 r2, .int .i64 r3, .int .i64 r4, .int .i64 r5, .int .i64 r6, .int .u16 r7], .int .i64 r8]) ∧ Below w.heap.size w w' := by
 have hu25 := Try.underlying25
 have hu31 := Try.underlying31
 have hu28 := Try.underlying28
 have HR0_2 := Aside0.mk hr0_2
 have HC0_2 := Aside0.mk hc0_2
 clear hr0_2 hc0_2
 have HR0_3 := Aside0.mk hr0_3
 have HC0_3 := Aside0.mk hc0_3
 clear hr0_3 hc0_3
 have HB := Aside0.mk (Below.refl w.heap.size w)
 have H : ((octroiref15_May.f k a0_0 a0_1 l0_2 l0_3 a0_4).bind fun t236 => (if t236 = true then (octroiref15_Pass.j0 k (a1_2 != a0_0) a0_0 a0_1 l0_2 l0_3 a0_4 a1_0 a1_1 a1_2 a1_3 a1_4 a1_5 a1_6 0 0 0 0 0 0 0) else (octroiref15_Pass.j0 k true a0_0 a0_1 l0_2 l0_3 a0_4 a1_0 a1_1 a1_2 a1_3 a1_4 a1_5 a1_6 0 0 0 0 0 0 0))) = some (r1, r2, r3, r4, r5, r6, r7, r8) := h
 clear h
 replace H := Option.bind_eq_some_iff.mp H
 obtain ⟨t236, A30, H⟩ := H
 replace H : (if t236 = true then (octroiref15_Pass.j0 k (a1_2 != a0_0) a0_0 a0_1 l0_2 l0_3 a0_4 a1_0 a1_1 a1_2 a1_3 a1_4 a1_5 a1_6 0 0 0 0 0 0 0) else (octroiref15_Pass.j0 k true a0_0 a0_1 l0_2 l0_3 a0_4 a1_0 a1_1 a1_2 a1_3 a1_4 a1_5 a1_6 0 0 0 0 0 0 0)) = some (r1, r2, r3, r4, r5, r6, r7, r8) := H
 have A3 := Aside0.mk A30
 clear A30
 have HC4 := Aside0.mk H
 clear H
 go_enter Try.func11, Try.ntmps11
 go_upto_region 3 with (first | ((with_reducible refine gate_dst (N := 2) rfl ?_); refine box_event ?hg (N := 2) ?hd (cs := #[.int .i64 a0_0, .int .i64 a0_1, .slice A0_2 l0_2.length c0_2, .slice A0_3 l0_3.length c0_3, .int .i64 a0_4]) (t := 25) ?hr ?_; (case hd => rfl); (case hg => rfl); (case hr => first | (go_simp; done) | (go_simp; rfl)); intro gb232 hg w5 hbox hb; have n0_ := Aside0.mk (below_step (by repeat (first | (with_reducible first | exact HB.out | apply below_alloc | apply pw_below_drewN | apply below_drew1) | exact HB.out)) hb); have n1_ := Aside0.mk (hbox); have n2_ := Aside0.mk ((by rw [hg]; exact (below_size (by repeat (first | (with_reducible first | exact HB.out | apply below_alloc | apply pw_below_drewN | apply below_drew1) | exact HB.out))) : w.heap.size ≤ gb232)); have n3_ := Aside0.mk ((by rw [hg]; exact (below_size (by repeat (first | (with_reducible first | exact HB.out | apply below_alloc | apply pw_below_drewN | apply below_drew1) | exact HB.out))) : w.heap.size ≤ gb232)); clear HB; have HB := n0_; have BK232 := n1_; have GW232 := n2_; have GE232 := n3_; clear n0_ n1_ n2_ n3_; clear hb hbox hg) | ((with_reducible refine gate_dst (N := 3) rfl ?_); refine box_event ?hg (N := 3) ?hd (cs := #[.int .u32 a1_0, .int .i64 a1_1, .int .i64 a1_2, .int .i64 a1_3, .int .i64 a1_4, .int .i64 a1_5, .int .u16 a1_6]) (t := 31) ?hr ?_; (case hd => rfl); (case hg => rfl); (case hr => first | (go_simp; done) | (go_simp; rfl)); intro gb233 hg w6 hbox hb; have n0_ := Aside0.mk (blk_below (g := gb232) (o := .cells #[.int .i64 a0_0, .int .i64 a0_1, .slice A0_2 l0_2.length c0_2, .slice A0_3 l0_3.length c0_3, .int .i64 a0_4] 25 (0, 0)) (by (with_reducible repeat (first | refine blk_drewN ?_ _ | refine blk_drew ?_ | refine blk_alloc ?_ _)); exact BK232.out) hb); have n1_ := Aside0.mk (below_step (by repeat (first | (with_reducible first | exact HB.out | apply below_alloc | apply pw_below_drewN | apply below_drew1 | refine below_set ?_ GE232.out) | exact HB.out)) hb); have n2_ := Aside0.mk (hbox); have n3_ := Aside0.mk ((by rw [hg]; exact (below_size (by repeat (first | (with_reducible first | exact HB.out | apply below_alloc | apply pw_below_drewN | apply below_drew1 | refine below_set ?_ GE232.out) | exact HB.out))) : w.heap.size ≤ gb233)); have n4_ := Aside0.mk ((by rw [hg]; exact (below_size (by repeat (first | (with_reducible first | exact HB.out | apply below_alloc | apply pw_below_drewN | apply below_drew1 | refine below_set ?_ GE232.out) | exact HB.out))) : w.heap.size ≤ gb233)); have n5_ := Aside0.mk ((by rw [hg]; exact Nat.ne_of_lt (blk_lt (g := gb232) (o := .cells #[.int .i64 a0_0, .int .i64 a0_1, .slice A0_2 l0_2.length c0_2, .slice A0_3 l0_3.length c0_3, .int .i64 a0_4] 25 (0, 0)) (by (with_reducible repeat (first | refine blk_drewN ?_ _ | refine blk_drew ?_ | refine blk_alloc ?_ _)); exact BK232.out)) : gb232 ≠ gb233)); have n6_ := Aside0.mk ((by rw [hg]; exact Nat.ne_of_gt (blk_lt (g := gb232) (o := .cells #[.int .i64 a0_0, .int .i64 a0_1, .slice A0_2 l0_2.length c0_2, .slice A0_3 l0_3.length c0_3, .int .i64 a0_4] 25 (0, 0)) (by (with_reducible repeat (first | refine blk_drewN ?_ _ | refine blk_drew ?_ | refine blk_alloc ?_ _)); exact BK232.out)) : gb233 ≠ gb232)); clear BK232; clear HB; have BK232 := n0_; have HB := n1_; have BK233 := n2_; have GW233 := n3_; have GE233 := n4_; have NB232_233 := n5_; have NB233_232 := n6_; clear n0_ n1_ n2_ n3_ n4_ n5_ n6_; clear hb hbox hg) | ((with_reducible refine gate_dst (N := 4) rfl ?_); refine box_event ?hg (N := 4) ?hd (cs := #[.int .u32 0, .int .i64 0, .int .i64 0, .int .i64 0, .int .i64 0, .int .i64 0, .int .u16 0]) (t := 31) ?hr ?_; (case hd => rfl); (case hg => rfl); (case hr => first | (go_simp; done) | (go_simp; rfl)); intro gb234 hg w7 hbox hb; have n0_ := Aside0.mk (blk_below (g := gb232) (o := .cells #[.int .i64 a0_0, .int .i64 a0_1, .slice A0_2 l0_2.length c0_2, .slice A0_3 l0_3.length c0_3, .int .i64 a0_4] 25 (0, 0)) (by (with_reducible repeat (first | refine blk_drewN ?_ _ | refine blk_drew ?_ | refine blk_alloc ?_ _)); exact BK232.out) hb); have n1_ := Aside0.mk (blk_below (g := gb233) (o := .cells #[.int .u32 a1_0, .int .i64 a1_1, .int .i64 a1_2, .int .i64 a1_3, .int .i64 a1_4, .int .i64 a1_5, .int .u16 a1_6] 31 (0, 0)) (by (with_reducible repeat (first | refine blk_drewN ?_ _ | refine blk_drew ?_ | refine blk_alloc ?_ _)); exact BK233.out) hb); have n2_ := Aside0.mk (below_step (by repeat (first | (with_reducible first | exact HB.out | apply below_alloc | apply pw_below_drewN | apply below_drew1 | refine below_set ?_ GE232.out | refine below_set ?_ GE233.out) | exact HB.out)) hb); have n3_ := Aside0.mk (hbox); have n4_ := Aside0.mk ((by rw [hg]; exact (below_size (by repeat (first | (with_reducible first | exact HB.out | apply below_alloc | apply pw_below_drewN | apply below_drew1 | refine below_set ?_ GE232.out | refine below_set ?_ GE233.out) | exact HB.out))) : w.heap.size ≤ gb234)); have n5_ := Aside0.mk ((by rw [hg]; exact (below_size (by repeat (first | (with_reducible first | exact HB.out | apply below_alloc | apply pw_below_drewN | apply below_drew1 | refine below_set ?_ GE232.out | refine below_set ?_ GE233.out) | exact HB.out))) : w.heap.size ≤ gb234)); have n6_ := Aside0.mk ((by rw [hg]; exact Nat.ne_of_lt (blk_lt (g := gb232) (o := .cells #[.int .i64 a0_0, .int .i64 a0_1, .slice A0_2 l0_2.length c0_2, .slice A0_3 l0_3.length c0_3, .int .i64 a0_4] 25 (0, 0)) (by (with_reducible repeat (first | refine blk_drewN ?_ _ | refine blk_drew ?_ | refine blk_alloc ?_ _)); exact BK232.out)) : gb232 ≠ gb234)); have n7_ := Aside0.mk ((by rw [hg]; exact Nat.ne_of_gt (blk_lt (g := gb232) (o := .cells #[.int .i64 a0_0, .int .i64 a0_1, .slice A0_2 l0_2.length c0_2, .slice A0_3 l0_3.length c0_3, .int .i64 a0_4] 25 (0, 0)) (by (with_reducible repeat (first | refine blk_drewN ?_ _ | refine blk_drew ?_ | refine blk_alloc ?_ _)); exact BK232.out)) : gb234 ≠ gb232)); have n8_ := Aside0.mk ((by rw [hg]; exact Nat.ne_of_lt (blk_lt (g := gb233) (o := .cells #[.int .u32 a1_0, .int .i64 a1_1, .int .i64 a1_2, .int .i64 a1_3, .int .i64 a1_4, .int .i64 a1_5, .int .u16 a1_6] 31 (0, 0)) (by (with_reducible repeat (first | refine blk_drewN ?_ _ | refine blk_drew ?_ | refine blk_alloc ?_ _)); exact BK233.out)) : gb233 ≠ gb234)); have n9_ := Aside0.mk ((by rw [hg]; exact Nat.ne_of_gt (blk_lt (g := gb233) (o := .cells #[.int .u32 a1_0, .int .i64 a1_1, .int .i64 a1_2, .int .i64 a1_3, .int .i64 a1_4, .int .i64 a1_5, .int .u16 a1_6] 31 (0, 0)) (by (with_reducible repeat (first | refine blk_drewN ?_ _ | refine blk_drew ?_ | refine blk_alloc ?_ _)); exact BK233.out)) : gb234 ≠ gb233)); clear BK232; clear BK233; clear HB; have BK232 := n0_; have BK233 := n1_; have HB := n2_; have BK234 := n3_; have GW234 := n4_; have GE234 := n5_; have NB232_234 := n6_; have NB234_232 := n7_; have NB233_234 := n8_; have NB234_233 := n9_; clear n0_ n1_ n2_ n3_ n4_ n5_ n6_ n7_ n8_ n9_; clear hb hbox hg) | ((with_reducible refine gate_dst (N := 6) rfl ?_); refine box_event ?hg (N := 6) ?hd (cs := #[.int .u32 0, .int .i64 0, .int .i64 0, .int .i64 0, .int .i64 0, .int .i64 0, .int .u16 0]) (t := 31) ?hr ?_; (case hd => rfl); (case hg => rfl); (case hr => first | (go_simp; done) | (go_simp; rfl)); intro gb235 hg w8 hbox hb; have n0_ := Aside0.mk (blk_below (g := gb232) (o := .cells #[.int .i64 a0_0, .int .i64 a0_1, .slice A0_2 l0_2.length c0_2, .slice A0_3 l0_3.length c0_3, .int .i64 a0_4] 25 (0, 0)) (by (with_reducible repeat (first | refine blk_drewN ?_ _ | refine blk_drew ?_ | refine blk_alloc ?_ _)); exact BK232.out) hb); have n1_ := Aside0.mk (blk_below (g := gb233) (o := .cells #[.int .u32 a1_0, .int .i64 a1_1, .int .i64 a1_2, .int .i64 a1_3, .int .i64 a1_4, .int .i64 a1_5, .int .u16 a1_6] 31 (0, 0)) (by (with_reducible repeat (first | refine blk_drewN ?_ _ | refine blk_drew ?_ | refine blk_alloc ?_ _)); exact BK233.out) hb); have n2_ := Aside0.mk (blk_below (g := gb234) (o := .cells #[.int .u32 0, .int .i64 0, .int .i64 0, .int .i64 0, .int .i64 0, .int .i64 0, .int .u16 0] 31 (0, 0)) (by (with_reducible repeat (first | refine blk_drewN ?_ _ | refine blk_drew ?_ | refine blk_alloc ?_ _)); exact BK234.out) hb); have n3_ := Aside0.mk (below_step (by repeat (first | (with_reducible first | exact HB.out | apply below_alloc | apply pw_below_drewN | apply below_drew1 | refine below_set ?_ GE232.out | refine below_set ?_ GE233.out | refine below_set ?_ GE234.out) | exact HB.out)) hb); have n4_ := Aside0.mk (hbox); have n5_ := Aside0.mk ((by rw [hg]; exact (below_size (by repeat (first | (with_reducible first | exact HB.out | apply below_alloc | apply pw_below_drewN | apply below_drew1 | refine below_set ?_ GE232.out | refine below_set ?_ GE233.out | refine below_set ?_ GE234.out) | exact HB.out))) : w.heap.size ≤ gb235)); have n6_ := Aside0.mk ((by rw [hg]; exact (below_size (by repeat (first | (with_reducible first | exact HB.out | apply below_alloc | apply pw_below_drewN | apply below_drew1 | refine below_set ?_ GE232.out | refine below_set ?_ GE233.out | refine below_set ?_ GE234.out) | exact HB.out))) : w.heap.size ≤ gb235)); have n7_ := Aside0.mk ((by rw [hg]; exact Nat.ne_of_lt (blk_lt (g := gb232) (o := .cells #[.int .i64 a0_0, .int .i64 a0_1, .slice A0_2 l0_2.length c0_2, .slice A0_3 l0_3.length c0_3, .int .i64 a0_4] 25 (0, 0)) (by (with_reducible repeat (first | refine blk_drewN ?_ _ | refine blk_drew ?_ | refine blk_alloc ?_ _)); exact BK232.out)) : gb232 ≠ gb235)); have n8_ := Aside0.mk ((by rw [hg]; exact Nat.ne_of_gt (blk_lt (g := gb232) (o := .cells #[.int .i64 a0_0, .int .i64 a0_1, .slice A0_2 l0_2.length c0_2, .slice A0_3 l0_3.length c0_3, .int .i64 a0_4] 25 (0, 0)) (by (with_reducible repeat (first | refine blk_drewN ?_ _ | refine blk_drew ?_ | refine blk_alloc ?_ _)); exact BK232.out)) : gb235 ≠ gb232)); have n9_ := Aside0.mk ((by rw [hg]; exact Nat.ne_of_lt (blk_lt (g := gb233) (o := .cells #[.int .u32 a1_0, .int .i64 a1_1, .int .i64 a1_2, .int .i64 a1_3, .int .i64 a1_4, .int .i64 a1_5, .int .u16 a1_6] 31 (0, 0)) (by (with_reducible repeat (first | refine blk_drewN ?_ _ | refine blk_drew ?_ | refine blk_alloc ?_ _)); exact BK233.out)) : gb233 ≠ gb235)); have n10_ := Aside0.mk ((by rw [hg]; exact Nat.ne_of_gt (blk_lt (g := gb233) (o := .cells #[.int .u32 a1_0, .int .i64 a1_1, .int .i64 a1_2, .int .i64 a1_3, .int .i64 a1_4, .int .i64 a1_5, .int .u16 a1_6] 31 (0, 0)) (by (with_reducible repeat (first | refine blk_drewN ?_ _ | refine blk_drew ?_ | refine blk_alloc ?_ _)); exact BK233.out)) : gb235 ≠ gb233)); have n11_ := Aside0.mk ((by rw [hg]; exact Nat.ne_of_lt (blk_lt (g := gb234) (o := .cells #[.int .u32 0, .int .i64 0, .int .i64 0, .int .i64 0, .int .i64 0, .int .i64 0, .int .u16 0] 31 (0, 0)) (by (with_reducible repeat (first | refine blk_drewN ?_ _ | refine blk_drew ?_ | refine blk_alloc ?_ _)); exact BK234.out)) : gb234 ≠ gb235)); have n12_ := Aside0.mk ((by rw [hg]; exact Nat.ne_of_gt (blk_lt (g := gb234) (o := .cells #[.int .u32 0, .int .i64 0, .int .i64 0, .int .i64 0, .int .i64 0, .int .i64 0, .int .u16 0] 31 (0, 0)) (by (with_reducible repeat (first | refine blk_drewN ?_ _ | refine blk_drew ?_ | refine blk_alloc ?_ _)); exact BK234.out)) : gb235 ≠ gb234)); clear BK232; clear BK233; clear BK234; clear HB; have BK232 := n0_; have BK233 := n1_; have BK234 := n2_; have HB := n3_; have BK235 := n4_; have GW235 := n5_; have GE235 := n6_; have NB232_235 := n7_; have NB235_232 := n8_; have NB233_235 := n9_; have NB235_233 := n10_; have NB234_235 := n11_; have NB235_234 := n12_; clear n0_ n1_ n2_ n3_ n4_ n5_ n6_ n7_ n8_ n9_ n10_ n11_ n12_; clear hb hbox hg; have hnb9 := NB235_232.out; have hnc9 := NB232_235.out; have hnb10 := NB235_233.out; have hnc10 := NB233_235.out; have hnb11 := NB235_234.out; have hnc11 := NB234_235.out; have hcz12_0 : w8.cell? ⟨gb235, 0, none⟩ = some (.int .u32 0) := (blk_cell BK235.out 0).trans rfl; have hcz12_1 : w8.cell? ⟨gb235, 1, none⟩ = some (.int .i64 0) := (blk_cell BK235.out 1).trans rfl; have hcz12_2 : w8.cell? ⟨gb235, 2, none⟩ = some (.int .i64 0) := (blk_cell BK235.out 2).trans rfl; have hcz12_3 : w8.cell? ⟨gb235, 3, none⟩ = some (.int .i64 0) := (blk_cell BK235.out 3).trans rfl; have hcz12_4 : w8.cell? ⟨gb235, 4, none⟩ = some (.int .i64 0) := (blk_cell BK235.out 4).trans rfl; have hcz12_5 : w8.cell? ⟨gb235, 5, none⟩ = some (.int .i64 0) := (blk_cell BK235.out 5).trans rfl; have hcz12_6 : w8.cell? ⟨gb235, 6, none⟩ = some (.int .u16 0) := (blk_cell BK235.out 6).trans rfl; have hfz12_0 := blk_frozen BK235.out 0; have hfz12_1 := blk_frozen BK235.out 1; have hfz12_2 := blk_frozen BK235.out 2; have hfz12_3 := blk_frozen BK235.out 3; have hfz12_4 := blk_frozen BK235.out 4; have hfz12_5 := blk_frozen BK235.out 5; have hfz12_6 := blk_frozen BK235.out 6; have hnb13 := NB232_233.out; have hnc13 := NB233_232.out; have hnb14 := NB232_234.out; have hnc14 := NB234_232.out; have hcz15_0 : w8.cell? ⟨gb232, 0, none⟩ = some (.int .i64 a0_0) := (blk_cell BK232.out 0).trans rfl; have hcz15_1 : w8.cell? ⟨gb232, 1, none⟩ = some (.int .i64 a0_1) := (blk_cell BK232.out 1).trans rfl; have hcz15_2 : w8.cell? ⟨gb232, 2, none⟩ = some (.slice A0_2 l0_2.length c0_2) := (blk_cell BK232.out 2).trans rfl; have hcz15_3 : w8.cell? ⟨gb232, 3, none⟩ = some (.slice A0_3 l0_3.length c0_3) := (blk_cell BK232.out 3).trans rfl; have hcz15_4 : w8.cell? ⟨gb232, 4, none⟩ = some (.int .i64 a0_4) := (blk_cell BK232.out 4).trans rfl; have hfz15_0 := blk_frozen BK232.out 0; have hfz15_1 := blk_frozen BK232.out 1; have hfz15_2 := blk_frozen BK232.out 2; have hfz15_3 := blk_frozen BK232.out 3; have hfz15_4 := blk_frozen BK232.out 4) | ((with_reducible refine gate_callee (f := 13) rfl ?_); refine goesL_ (some 18) rfl rfl Try.func13 (by kernel_rfl) rfl #[.agg #[.int .i64 a0_0, .int .i64 a0_1, .slice A0_2 l0_2.length c0_2, .slice A0_3 l0_3.length c0_3, .int .i64 a0_4]] rfl (by (try simp only [List.map_toArray, List.map_cons, List.map_nil]); first | done | rfl | (simp only [List.length_drop, List.length_take]; rfl)) ?_; (with_reducible refine (octroiref15_May.calls k a0_0 a0_1 _ _ l0_2 _ _ l0_3 a0_4 t236 _ ?side1 ?side2 ?side3 ?side4 A3.out).mono ?_); (case side1 => exact Kd.C_below HR0_2.out (by repeat (first | (with_reducible first | exact HB.out | apply below_alloc | apply pw_below_drewN | apply below_drew1 | refine below_set ?_ GE232.out | refine below_set ?_ GE233.out | refine below_set ?_ GE234.out | refine below_set ?_ GE235.out) | exact HB.out))); (case side2 => exact HC0_2.out); (case side3 => exact Kd.C_below HR0_3.out (by repeat (first | (with_reducible first | exact HB.out | apply below_alloc | apply pw_below_drewN | apply below_drew1 | refine below_set ?_ GE232.out | refine below_set ?_ GE233.out | refine below_set ?_ GE234.out | refine below_set ?_ GE235.out) | exact HB.out))); (case side4 => exact HC0_3.out); rintro e w16 ⟨rfl, hb⟩; refine ⟨_, rfl, ?_⟩; have n0_ := Aside0.mk (blk_below (g := gb232) (o := .cells #[.int .i64 a0_0, .int .i64 a0_1, .slice A0_2 l0_2.length c0_2, .slice A0_3 l0_3.length c0_3, .int .i64 a0_4] 25 (0, 0)) (by (with_reducible repeat (first | refine blk_drewN ?_ _ | refine blk_drew ?_ | refine blk_alloc ?_ _)); refine blk_far ?_ NB232_235.out _; (with_reducible repeat (first | refine blk_drewN ?_ _ | refine blk_drew ?_ | refine blk_alloc ?_ _)); refine blk_far ?_ NB232_235.out _; (with_reducible repeat (first | refine blk_drewN ?_ _ | refine blk_drew ?_ | refine blk_alloc ?_ _)); refine blk_far ?_ NB232_235.out _; (with_reducible repeat (first | refine blk_drewN ?_ _ | refine blk_drew ?_ | refine blk_alloc ?_ _)); refine blk_far ?_ NB232_235.out _; (with_reducible repeat (first | refine blk_drewN ?_ _ | refine blk_drew ?_ | refine blk_alloc ?_ _)); refine blk_far ?_ NB232_235.out _; (with_reducible repeat (first | refine blk_drewN ?_ _ | refine blk_drew ?_ | refine blk_alloc ?_ _)); refine blk_far ?_ NB232_235.out _; (with_reducible repeat (first | refine blk_drewN ?_ _ | refine blk_drew ?_ | refine blk_alloc ?_ _)); refine blk_far ?_ NB232_235.out _; (with_reducible repeat (first | refine blk_drewN ?_ _ | refine blk_drew ?_ | refine blk_alloc ?_ _)); exact BK232.out) hb); have n1_ := Aside0.mk (blk_below (g := gb233) (o := .cells #[.int .u32 a1_0, .int .i64 a1_1, .int .i64 a1_2, .int .i64 a1_3, .int .i64 a1_4, .int .i64 a1_5, .int .u16 a1_6] 31 (0, 0)) (by (with_reducible repeat (first | refine blk_drewN ?_ _ | refine blk_drew ?_ | refine blk_alloc ?_ _)); refine blk_far ?_ NB233_235.out _; (with_reducible repeat (first | refine blk_drewN ?_ _ | refine blk_drew ?_ | refine blk_alloc ?_ _)); refine blk_far ?_ NB233_235.out _; (with_reducible repeat (first | refine blk_drewN ?_ _ | refine blk_drew ?_ | refine blk_alloc ?_ _)); refine blk_far ?_ NB233_235.out _; (with_reducible repeat (first | refine blk_drewN ?_ _ | refine blk_drew ?_ | refine blk_alloc ?_ _)); refine blk_far ?_ NB233_235.out _; (with_reducible repeat (first | refine blk_drewN ?_ _ | refine blk_drew ?_ | refine blk_alloc ?_ _)); refine blk_far ?_ NB233_235.out _; (with_reducible repeat (first | refine blk_drewN ?_ _ | refine blk_drew ?_ | refine blk_alloc ?_ _)); refine blk_far ?_ NB233_235.out _; (with_reducible repeat (first | refine blk_drewN ?_ _ | refine blk_drew ?_ | refine blk_alloc ?_ _)); refine blk_far ?_ NB233_235.out _; (with_reducible repeat (first | refine blk_drewN ?_ _ | refine blk_drew ?_ | refine blk_alloc ?_ _)); exact BK233.out) hb); have n2_ := Aside0.mk (blk_below (g := gb234) (o := .cells #[.int .u32 0, .int .i64 0, .int .i64 0, .int .i64 0, .int .i64 0, .int .i64 0, .int .u16 0] 31 (0, 0)) (by (with_reducible repeat (first | refine blk_drewN ?_ _ | refine blk_drew ?_ | refine blk_alloc ?_ _)); refine blk_far ?_ NB234_235.out _; (with_reducible repeat (first | refine blk_drewN ?_ _ | refine blk_drew ?_ | refine blk_alloc ?_ _)); refine blk_far ?_ NB234_235.out _; (with_reducible repeat (first | refine blk_drewN ?_ _ | refine blk_drew ?_ | refine blk_alloc ?_ _)); refine blk_far ?_ NB234_235.out _; (with_reducible repeat (first | refine blk_drewN ?_ _ | refine blk_drew ?_ | refine blk_alloc ?_ _)); refine blk_far ?_ NB234_235.out _; (with_reducible repeat (first | refine blk_drewN ?_ _ | refine blk_drew ?_ | refine blk_alloc ?_ _)); refine blk_far ?_ NB234_235.out _; (with_reducible repeat (first | refine blk_drewN ?_ _ | refine blk_drew ?_ | refine blk_alloc ?_ _)); refine blk_far ?_ NB234_235.out _; (with_reducible repeat (first | refine blk_drewN ?_ _ | refine blk_drew ?_ | refine blk_alloc ?_ _)); refine blk_far ?_ NB234_235.out _; (with_reducible repeat (first | refine blk_drewN ?_ _ | refine blk_drew ?_ | refine blk_alloc ?_ _)); exact BK234.out) hb); have n3_ := Aside0.mk (blk_below (g := gb235) (o := .cells #[.int .u32 0, .int .i64 0, .int .i64 0, .int .i64 0, .int .i64 0, .int .i64 0, .int .u16 0] 31 (0, 0)) (by (with_reducible repeat (first | refine blk_drewN ?_ _ | refine blk_drew ?_ | refine blk_alloc ?_ _)); refine blk_put (cs := #[.int .u32 0, .int .i64 0, .int .i64 0, .int .i64 0, .int .i64 0, .int .i64 0, .int .u16 0]) ?_ 6 _ rfl; (with_reducible repeat (first | refine blk_drewN ?_ _ | refine blk_drew ?_ | refine blk_alloc ?_ _)); refine blk_put (cs := #[.int .u32 0, .int .i64 0, .int .i64 0, .int .i64 0, .int .i64 0, .int .i64 0, .int .u16 0]) ?_ 5 _ rfl; (with_reducible repeat (first | refine blk_drewN ?_ _ | refine blk_drew ?_ | refine blk_alloc ?_ _)); refine blk_put (cs := #[.int .u32 0, .int .i64 0, .int .i64 0, .int .i64 0, .int .i64 0, .int .i64 0, .int .u16 0]) ?_ 4 _ rfl; (with_reducible repeat (first | refine blk_drewN ?_ _ | refine blk_drew ?_ | refine blk_alloc ?_ _)); refine blk_put (cs := #[.int .u32 0, .int .i64 0, .int .i64 0, .int .i64 0, .int .i64 0, .int .i64 0, .int .u16 0]) ?_ 3 _ rfl; (with_reducible repeat (first | refine blk_drewN ?_ _ | refine blk_drew ?_ | refine blk_alloc ?_ _)); refine blk_put (cs := #[.int .u32 0, .int .i64 0, .int .i64 0, .int .i64 0, .int .i64 0, .int .i64 0, .int .u16 0]) ?_ 2 _ rfl; (with_reducible repeat (first | refine blk_drewN ?_ _ | refine blk_drew ?_ | refine blk_alloc ?_ _)); refine blk_put (cs := #[.int .u32 0, .int .i64 0, .int .i64 0, .int .i64 0, .int .i64 0, .int .i64 0, .int .u16 0]) ?_ 1 _ rfl; (with_reducible repeat (first | refine blk_drewN ?_ _ | refine blk_drew ?_ | refine blk_alloc ?_ _)); refine blk_put (cs := #[.int .u32 0, .int .i64 0, .int .i64 0, .int .i64 0, .int .i64 0, .int .i64 0, .int .u16 0]) ?_ 0 _ rfl; (with_reducible repeat (first | refine blk_drewN ?_ _ | refine blk_drew ?_ | refine blk_alloc ?_ _)); exact BK235.out) hb); have n4_ := Aside0.mk (below_step (by repeat (first | (with_reducible first | exact HB.out | apply below_alloc | apply pw_below_drewN | apply below_drew1 | refine below_set ?_ GE232.out | refine below_set ?_ GE233.out | refine below_set ?_ GE234.out | refine below_set ?_ GE235.out) | exact HB.out)) hb); clear BK232; clear BK233; clear BK234; clear BK235; clear HB; have BK232 := n0_; have BK233 := n1_; have BK234 := n2_; have BK235 := n3_; have HB := n4_; clear n0_ n1_ n2_ n3_ n4_; (try clear hb); (try clear hb2); (try clear hk); (try clear hi)))
 (try simp only [Act.put, List.setIfInBounds_toArray, List.set_cons_zero, List.set_cons_succ])
 go_cut [27] (fun v27 wc => ∃ (kq : Nat) (x27_3 : Bool), v27 = .bool x27_3 ∧ Aside0 (octroiref15_Pass.j0 kq x27_3 a0_0 a0_1 l0_2 l0_3 a0_4 a1_0 a1_1 a1_2 a1_3 a1_4 a1_5 a1_6 0 0 0 0 0 0 0 = some (r1, r2, r3, r4, r5, r6, r7, r8)) ∧ Aside0 (kq ≤ k) ∧ Aside0 (wc.heap[gb232]? = some (.cells #[.int .i64 a0_0, .int .i64 a0_1, (.slice A0_2 l0_2.length c0_2), (.slice A0_3 l0_3.length c0_3), .int .i64 a0_4] 25 (0, 0))) ∧ Aside0 (wc.heap[gb233]? = some (.cells #[.int .u32 a1_0, .int .i64 a1_1, .int .i64 a1_2, .int .i64 a1_3, .int .i64 a1_4, .int .i64 a1_5, .int .u16 a1_6] 31 (0, 0))) ∧ Aside0 (wc.heap[gb234]? = some (.cells #[.int .u32 0, .int .i64 0, .int .i64 0, .int .i64 0, .int .i64 0, .int .i64 0, .int .u16 0] 31 (0, 0))) ∧ Aside0 (wc.heap[gb235]? = some (.cells #[.int .u32 0, .int .i64 0, .int .i64 0, .int .i64 0, .int .i64 0, .int .i64 0, .int .u16 0] 31 (0, 0))) ∧ Aside0 (Below w.heap.size w wc))
 case first =>
  have H := HC4.out
  clear HC4
  by_cases c17 : t236 = true
  ·
   subst c17
   have H1 : (octroiref15_Pass.j0 k (a1_2 != a0_0) a0_0 a0_1 l0_2 l0_3 a0_4 a1_0 a1_1 a1_2 a1_3 a1_4 a1_5 a1_6 0 0 0 0 0 0 0) = some (r1, r2, r3, r4, r5, r6, r7, r8) := by rw [if_pos rfl] at H; exact H
   clear H
   have H := H1
   clear H1
   have H' := Aside0.mk H
   clear H
   have hnb18 := NB233_232.out
   have hnc18 := NB232_233.out
   have hnb19 := NB233_234.out
   have hnc19 := NB234_233.out
   have hnb20 := NB233_235.out
   have hnc20 := NB235_233.out
   have hcz21_0 : w16.cell? ⟨gb233, 0, none⟩ = some (.int .u32 a1_0) := (blk_cell BK233.out 0).trans rfl
   have hcz21_1 : w16.cell? ⟨gb233, 1, none⟩ = some (.int .i64 a1_1) := (blk_cell BK233.out 1).trans rfl
   have hcz21_2 : w16.cell? ⟨gb233, 2, none⟩ = some (.int .i64 a1_2) := (blk_cell BK233.out 2).trans rfl
   have hcz21_3 : w16.cell? ⟨gb233, 3, none⟩ = some (.int .i64 a1_3) := (blk_cell BK233.out 3).trans rfl
   have hcz21_4 : w16.cell? ⟨gb233, 4, none⟩ = some (.int .i64 a1_4) := (blk_cell BK233.out 4).trans rfl
   have hcz21_5 : w16.cell? ⟨gb233, 5, none⟩ = some (.int .i64 a1_5) := (blk_cell BK233.out 5).trans rfl
   have hcz21_6 : w16.cell? ⟨gb233, 6, none⟩ = some (.int .u16 a1_6) := (blk_cell BK233.out 6).trans rfl
   have hfz21_0 := blk_frozen BK233.out 0
   have hfz21_1 := blk_frozen BK233.out 1
   have hfz21_2 := blk_frozen BK233.out 2
   have hfz21_3 := blk_frozen BK233.out 3
   have hfz21_4 := blk_frozen BK233.out 4
   have hfz21_5 := blk_frozen BK233.out 5
   have hfz21_6 := blk_frozen BK233.out 6
   have hnb22 := NB232_234.out
   have hnc22 := NB234_232.out
   have hnb23 := NB232_235.out
   have hnc23 := NB235_232.out
   have hcz24_0 : w16.cell? ⟨gb232, 0, none⟩ = some (.int .i64 a0_0) := (blk_cell BK232.out 0).trans rfl
   have hcz24_1 : w16.cell? ⟨gb232, 1, none⟩ = some (.int .i64 a0_1) := (blk_cell BK232.out 1).trans rfl
   have hcz24_2 : w16.cell? ⟨gb232, 2, none⟩ = some (.slice A0_2 l0_2.length c0_2) := (blk_cell BK232.out 2).trans rfl
   have hcz24_3 : w16.cell? ⟨gb232, 3, none⟩ = some (.slice A0_3 l0_3.length c0_3) := (blk_cell BK232.out 3).trans rfl
   have hcz24_4 : w16.cell? ⟨gb232, 4, none⟩ = some (.int .i64 a0_4) := (blk_cell BK232.out 4).trans rfl
   have hfz24_0 := blk_frozen BK232.out 0
   have hfz24_1 := blk_frozen BK232.out 1
   have hfz24_2 := blk_frozen BK232.out 2
   have hfz24_3 := blk_frozen BK232.out 3
   have hfz24_4 := blk_frozen BK232.out 4
   go_wp2
   go_meet
   case rel => exact ⟨_, ((a1_2 != a0_0)), (by first | rfl | (simp; done) | (simp [*]; done)), H', ⟨by first | omega | exact Nat.le_refl _⟩, ⟨by (with_reducible repeat (first | refine blk_drewN ?_ _ | refine blk_drew ?_ | refine blk_alloc ?_ _)); exact BK232.out⟩, ⟨by (with_reducible repeat (first | refine blk_drewN ?_ _ | refine blk_drew ?_ | refine blk_alloc ?_ _)); exact BK233.out⟩, ⟨by (with_reducible repeat (first | refine blk_drewN ?_ _ | refine blk_drew ?_ | refine blk_alloc ?_ _)); exact BK234.out⟩, ⟨by (with_reducible repeat (first | refine blk_drewN ?_ _ | refine blk_drew ?_ | refine blk_alloc ?_ _)); exact BK235.out⟩, ⟨by repeat (first | (with_reducible first | exact HB.out | apply below_alloc | apply pw_below_drewN | apply below_drew1 | refine below_set ?_ GE232.out | refine below_set ?_ GE233.out | refine below_set ?_ GE234.out | refine below_set ?_ GE235.out) | exact HB.out)⟩⟩
  ·
   replace c17 := Bool.eq_false_iff.mpr c17
   subst c17
   have H1 : (octroiref15_Pass.j0 k true a0_0 a0_1 l0_2 l0_3 a0_4 a1_0 a1_1 a1_2 a1_3 a1_4 a1_5 a1_6 0 0 0 0 0 0 0) = some (r1, r2, r3, r4, r5, r6, r7, r8) := by rw [if_neg (show ¬ (false = true) by decide)] at H; exact H
   clear H
   have H := H1
   clear H1
   have H' := Aside0.mk H
   clear H
   go_wp2
   go_meet
   case rel => exact ⟨_, (true), (by first | rfl | (simp; done) | (simp [*]; done)), H', ⟨by first | omega | exact Nat.le_refl _⟩, ⟨by (with_reducible repeat (first | refine blk_drewN ?_ _ | refine blk_drew ?_ | refine blk_alloc ?_ _)); exact BK232.out⟩, ⟨by (with_reducible repeat (first | refine blk_drewN ?_ _ | refine blk_drew ?_ | refine blk_alloc ?_ _)); exact BK233.out⟩, ⟨by (with_reducible repeat (first | refine blk_drewN ?_ _ | refine blk_drew ?_ | refine blk_alloc ?_ _)); exact BK234.out⟩, ⟨by (with_reducible repeat (first | refine blk_drewN ?_ _ | refine blk_drew ?_ | refine blk_alloc ?_ _)); exact BK235.out⟩, ⟨by repeat (first | (with_reducible first | exact HB.out | apply below_alloc | apply pw_below_drewN | apply below_drew1 | refine below_set ?_ GE232.out | refine below_set ?_ GE233.out | refine below_set ?_ GE234.out | refine below_set ?_ GE235.out) | exact HB.out)⟩⟩
 case rest =>
  clear HC4
  try clear c1
  try clear c2
  try clear p2
  try clear c9
  try clear c10
  try clear c11
  try clear c13
  try clear c14
  try clear c17
  try clear c18
  try clear c19
  try clear c20
  try clear c22
  try clear c23
  try clear hcz12_0
  try clear hcz12_1
  try clear hcz12_2
  try clear hcz12_3
  try clear hcz12_4
  try clear hcz12_5
  try clear hcz12_6
  try clear hcz15_0
  try clear hcz15_1
  try clear hcz15_2
  try clear hcz15_3
  try clear hcz15_4
  try clear hcz21_0
  try clear hcz21_1
  try clear hcz21_2
  try clear hcz21_3
  try clear hcz21_4
  try clear hcz21_5
  try clear hcz21_6
  try clear hcz24_0
  try clear hcz24_1
  try clear hcz24_2
  try clear hcz24_3
  try clear hcz24_4
  try clear hfz12_0
  try clear hfz12_1
  try clear hfz12_2
  try clear hfz12_3
  try clear hfz12_4
  try clear hfz12_5
  try clear hfz12_6
  try clear hfz15_0
  try clear hfz15_1
  try clear hfz15_2
  try clear hfz15_3
  try clear hfz15_4
  try clear hfz21_0
  try clear hfz21_1
  try clear hfz21_2
  try clear hfz21_3
  try clear hfz21_4
  try clear hfz21_5
  try clear hfz21_6
  try clear hfz24_0
  try clear hfz24_1
  try clear hfz24_2
  try clear hfz24_3
  try clear hfz24_4
  obtain ⟨kq, x27_3, rfl, HA, HJ3, BK232, BK233, BK234, BK235, HB⟩ := hcut
  cases kq with
  | zero => exact absurd HA.out (by simp [octroiref15_Pass.j0])
  | succ kj3 =>
   have H := HA.out
   clear HA
   simp only [octroiref15_Pass.j0] at H
   by_cases c25 : x27_3 = true
   ·
    subst c25
    have H1 : (some (0, 0, 0, 0, 0, 0, 0, 1)) = some (r1, r2, r3, r4, r5, r6, r7, r8) := by rw [if_pos rfl] at H; exact H
    clear H
    have H := H1
    clear H1
    simp only [Option.some.injEq, Prod.mk.injEq] at H
    obtain ⟨rfl, rfl, rfl, rfl, rfl, rfl, rfl, rfl⟩ := H
    have hnb26 := NB235_232.out
    have hnc26 := NB232_235.out
    have hnb27 := NB235_233.out
    have hnc27 := NB233_235.out
    have hnb28 := NB235_234.out
    have hnc28 := NB234_235.out
    have hcz29_0 : wc.cell? ⟨gb235, 0, none⟩ = some (.int .u32 0) := (blk_cell BK235.out 0).trans rfl
    have hcz29_1 : wc.cell? ⟨gb235, 1, none⟩ = some (.int .i64 0) := (blk_cell BK235.out 1).trans rfl
    have hcz29_2 : wc.cell? ⟨gb235, 2, none⟩ = some (.int .i64 0) := (blk_cell BK235.out 2).trans rfl
    have hcz29_3 : wc.cell? ⟨gb235, 3, none⟩ = some (.int .i64 0) := (blk_cell BK235.out 3).trans rfl
    have hcz29_4 : wc.cell? ⟨gb235, 4, none⟩ = some (.int .i64 0) := (blk_cell BK235.out 4).trans rfl
    have hcz29_5 : wc.cell? ⟨gb235, 5, none⟩ = some (.int .i64 0) := (blk_cell BK235.out 5).trans rfl
    have hcz29_6 : wc.cell? ⟨gb235, 6, none⟩ = some (.int .u16 0) := (blk_cell BK235.out 6).trans rfl
    have hfz29_0 := blk_frozen BK235.out 0
    have hfz29_1 := blk_frozen BK235.out 1
    have hfz29_2 := blk_frozen BK235.out 2
    have hfz29_3 := blk_frozen BK235.out 3
    have hfz29_4 := blk_frozen BK235.out 4
    have hfz29_5 := blk_frozen BK235.out 5
    have hfz29_6 := blk_frozen BK235.out 6
    have hnb30 := NB234_232.out
    have hnc30 := NB232_234.out
    have hnb31 := NB234_233.out
    have hnc31 := NB233_234.out
    have hcz32_0 : wc.cell? ⟨gb234, 0, none⟩ = some (.int .u32 0) := (blk_cell BK234.out 0).trans rfl
    have hcz32_1 : wc.cell? ⟨gb234, 1, none⟩ = some (.int .i64 0) := (blk_cell BK234.out 1).trans rfl
    have hcz32_2 : wc.cell? ⟨gb234, 2, none⟩ = some (.int .i64 0) := (blk_cell BK234.out 2).trans rfl
    have hcz32_3 : wc.cell? ⟨gb234, 3, none⟩ = some (.int .i64 0) := (blk_cell BK234.out 3).trans rfl
    have hcz32_4 : wc.cell? ⟨gb234, 4, none⟩ = some (.int .i64 0) := (blk_cell BK234.out 4).trans rfl
    have hcz32_5 : wc.cell? ⟨gb234, 5, none⟩ = some (.int .i64 0) := (blk_cell BK234.out 5).trans rfl
    have hcz32_6 : wc.cell? ⟨gb234, 6, none⟩ = some (.int .u16 0) := (blk_cell BK234.out 6).trans rfl
    have hfz32_0 := blk_frozen BK234.out 0
    have hfz32_1 := blk_frozen BK234.out 1
    have hfz32_2 := blk_frozen BK234.out 2
    have hfz32_3 := blk_frozen BK234.out 3
    have hfz32_4 := blk_frozen BK234.out 4
    have hfz32_5 := blk_frozen BK234.out 5
    have hfz32_6 := blk_frozen BK234.out 6
    go_wp2
    refine bodyPost_ret (results_ct rfl _ _ gb234 31 #[.int .u32 0, .int .i64 0, .int .i64 0, .int .i64 0, .int .i64 0, .int .i64 0, .int .u16 0] (0, 0) _ rfl (by (with_reducible repeat (first | refine blk_drewN ?_ _ | refine blk_drew ?_ | refine blk_alloc ?_ _)); refine blk_put (cs := #[.int .u32 0, .int .i64 0, .int .i64 0, .int .i64 0, .int .i64 0, .int .i64 0, .int .u16 0]) ?_ 6 _ rfl; (with_reducible repeat (first | refine blk_drewN ?_ _ | refine blk_drew ?_ | refine blk_alloc ?_ _)); refine blk_put (cs := #[.int .u32 0, .int .i64 0, .int .i64 0, .int .i64 0, .int .i64 0, .int .i64 0, .int .u16 0]) ?_ 5 _ rfl; (with_reducible repeat (first | refine blk_drewN ?_ _ | refine blk_drew ?_ | refine blk_alloc ?_ _)); refine blk_put (cs := #[.int .u32 0, .int .i64 0, .int .i64 0, .int .i64 0, .int .i64 0, .int .i64 0, .int .u16 0]) ?_ 4 _ rfl; (with_reducible repeat (first | refine blk_drewN ?_ _ | refine blk_drew ?_ | refine blk_alloc ?_ _)); refine blk_put (cs := #[.int .u32 0, .int .i64 0, .int .i64 0, .int .i64 0, .int .i64 0, .int .i64 0, .int .u16 0]) ?_ 3 _ rfl; (with_reducible repeat (first | refine blk_drewN ?_ _ | refine blk_drew ?_ | refine blk_alloc ?_ _)); refine blk_put (cs := #[.int .u32 0, .int .i64 0, .int .i64 0, .int .i64 0, .int .i64 0, .int .i64 0, .int .u16 0]) ?_ 2 _ rfl; (with_reducible repeat (first | refine blk_drewN ?_ _ | refine blk_drew ?_ | refine blk_alloc ?_ _)); refine blk_put (cs := #[.int .u32 0, .int .i64 0, .int .i64 0, .int .i64 0, .int .i64 0, .int .i64 0, .int .u16 0]) ?_ 1 _ rfl; (with_reducible repeat (first | refine blk_drewN ?_ _ | refine blk_drew ?_ | refine blk_alloc ?_ _)); refine blk_put (cs := #[.int .u32 0, .int .i64 0, .int .i64 0, .int .i64 0, .int .i64 0, .int .i64 0, .int .u16 0]) ?_ 0 _ rfl; (with_reducible repeat (first | refine blk_drewN ?_ _ | refine blk_drew ?_ | refine blk_alloc ?_ _)); exact BK234.out) Try.underlying31 rfl (by kernel_rfl)) rfl ?_
    exact ⟨by first | rfl | (simp [errW_none, errW_some] <;> rfl) | (simp [*, errW_none, errW_some] <;> rfl), by repeat (first | (with_reducible first | exact HB.out | apply below_alloc | apply pw_below_drewN | apply below_drew1 | refine below_set ?_ GE232.out | refine below_set ?_ GE233.out | refine below_set ?_ GE234.out | refine below_set ?_ GE235.out) | exact HB.out)⟩
   ·
    replace c25 := Bool.eq_false_iff.mpr c25
    subst c25
    have H1 : ((octroiref03_Has.f kj3 a1_6 a0_0).bind fun t237 => ((octroiref03_Has.f kj3 a1_6 a0_1).bind fun t238 => (if t237 = true then (octroiref15_Pass.j1 kj3 true a0_0 a0_1 l0_2 l0_3 a0_4 a1_0 a1_1 a1_2 a1_3 a1_4 a1_5 a1_6 0 0 0 0 0 0 0) else (octroiref15_Pass.j1 kj3 t238 a0_0 a0_1 l0_2 l0_3 a0_4 a1_0 a1_1 a1_2 a1_3 a1_4 a1_5 a1_6 0 0 0 0 0 0 0)))) = some (r1, r2, r3, r4, r5, r6, r7, r8) := by rw [if_neg (show ¬ (false = true) by decide)] at H; exact H
    clear H
    have H := H1
    clear H1
    replace H := Option.bind_eq_some_iff.mp H
    obtain ⟨t237, A330, H⟩ := H
    replace H : ((octroiref03_Has.f kj3 a1_6 a0_1).bind fun t238 => (if t237 = true then (octroiref15_Pass.j1 kj3 true a0_0 a0_1 l0_2 l0_3 a0_4 a1_0 a1_1 a1_2 a1_3 a1_4 a1_5 a1_6 0 0 0 0 0 0 0) else (octroiref15_Pass.j1 kj3 t238 a0_0 a0_1 l0_2 l0_3 a0_4 a1_0 a1_1 a1_2 a1_3 a1_4 a1_5 a1_6 0 0 0 0 0 0 0))) = some (r1, r2, r3, r4, r5, r6, r7, r8) := H
    have A33 := Aside0.mk A330
    clear A330
    replace H := Option.bind_eq_some_iff.mp H
    obtain ⟨t238, A340, H⟩ := H
    replace H : (if t237 = true then (octroiref15_Pass.j1 kj3 true a0_0 a0_1 l0_2 l0_3 a0_4 a1_0 a1_1 a1_2 a1_3 a1_4 a1_5 a1_6 0 0 0 0 0 0 0) else (octroiref15_Pass.j1 kj3 t238 a0_0 a0_1 l0_2 l0_3 a0_4 a1_0 a1_1 a1_2 a1_3 a1_4 a1_5 a1_6 0 0 0 0 0 0 0)) = some (r1, r2, r3, r4, r5, r6, r7, r8) := H
    have A34 := Aside0.mk A340
    clear A340
    have HC35 := Aside0.mk H
    clear H
    have hnb36 := NB233_232.out
    have hnc36 := NB232_233.out
    have hnb37 := NB233_234.out
    have hnc37 := NB234_233.out
    have hnb38 := NB233_235.out
    have hnc38 := NB235_233.out
    have hcz39_0 : wc.cell? ⟨gb233, 0, none⟩ = some (.int .u32 a1_0) := (blk_cell BK233.out 0).trans rfl
    have hcz39_1 : wc.cell? ⟨gb233, 1, none⟩ = some (.int .i64 a1_1) := (blk_cell BK233.out 1).trans rfl
    have hcz39_2 : wc.cell? ⟨gb233, 2, none⟩ = some (.int .i64 a1_2) := (blk_cell BK233.out 2).trans rfl
    have hcz39_3 : wc.cell? ⟨gb233, 3, none⟩ = some (.int .i64 a1_3) := (blk_cell BK233.out 3).trans rfl
    have hcz39_4 : wc.cell? ⟨gb233, 4, none⟩ = some (.int .i64 a1_4) := (blk_cell BK233.out 4).trans rfl
    have hcz39_5 : wc.cell? ⟨gb233, 5, none⟩ = some (.int .i64 a1_5) := (blk_cell BK233.out 5).trans rfl
    have hcz39_6 : wc.cell? ⟨gb233, 6, none⟩ = some (.int .u16 a1_6) := (blk_cell BK233.out 6).trans rfl
    have hfz39_0 := blk_frozen BK233.out 0
    have hfz39_1 := blk_frozen BK233.out 1
    have hfz39_2 := blk_frozen BK233.out 2
    have hfz39_3 := blk_frozen BK233.out 3
    have hfz39_4 := blk_frozen BK233.out 4
    have hfz39_5 := blk_frozen BK233.out 5
    have hfz39_6 := blk_frozen BK233.out 6
    have hnb40 := NB232_234.out
    have hnc40 := NB234_232.out
    have hnb41 := NB232_235.out
    have hnc41 := NB235_232.out
    have hcz42_0 : wc.cell? ⟨gb232, 0, none⟩ = some (.int .i64 a0_0) := (blk_cell BK232.out 0).trans rfl
    have hcz42_1 : wc.cell? ⟨gb232, 1, none⟩ = some (.int .i64 a0_1) := (blk_cell BK232.out 1).trans rfl
    have hcz42_2 : wc.cell? ⟨gb232, 2, none⟩ = some (.slice A0_2 l0_2.length c0_2) := (blk_cell BK232.out 2).trans rfl
    have hcz42_3 : wc.cell? ⟨gb232, 3, none⟩ = some (.slice A0_3 l0_3.length c0_3) := (blk_cell BK232.out 3).trans rfl
    have hcz42_4 : wc.cell? ⟨gb232, 4, none⟩ = some (.int .i64 a0_4) := (blk_cell BK232.out 4).trans rfl
    have hfz42_0 := blk_frozen BK232.out 0
    have hfz42_1 := blk_frozen BK232.out 1
    have hfz42_2 := blk_frozen BK232.out 2
    have hfz42_3 := blk_frozen BK232.out 3
    have hfz42_4 := blk_frozen BK232.out 4
    go_upto_region 7 with (first | ((with_reducible refine gate_callee (f := 26) rfl ?_); refine goesL_ (some 33) rfl rfl Try.func26 (by kernel_rfl) rfl #[.int .u16 a1_6, .int .i64 a0_0] rfl (by (try simp only [List.map_toArray, List.map_cons, List.map_nil]); first | done | rfl | (simp only [List.length_drop, List.length_take]; rfl)) ?_; (with_reducible refine (octroiref03_Has.calls kj3 a1_6 a0_0 t237 _ A33.out).mono ?_); rintro e w' ⟨rfl, ⟨nd, rfl⟩⟩; refine ⟨_, rfl, ?_⟩) | ((with_reducible refine gate_callee (f := 26) rfl ?_); refine goesL_ (some 38) rfl rfl Try.func26 (by kernel_rfl) rfl #[.int .u16 a1_6, .int .i64 a0_1] rfl (by (try simp only [List.map_toArray, List.map_cons, List.map_nil]); first | done | rfl | (simp only [List.length_drop, List.length_take]; rfl)) ?_; (with_reducible refine (octroiref03_Has.calls kj3 a1_6 a0_1 t238 _ A34.out).mono ?_); rintro e w' ⟨rfl, ⟨nd, rfl⟩⟩; refine ⟨_, rfl, ?_⟩))
    (try simp only [Act.put, List.setIfInBounds_toArray, List.set_cons_zero, List.set_cons_succ])
    go_cut [42] (fun v42 wc => ∃ (kq : Nat) (x42_34 : Bool), v42 = .bool x42_34 ∧ Aside0 (octroiref15_Pass.j1 kq x42_34 a0_0 a0_1 l0_2 l0_3 a0_4 a1_0 a1_1 a1_2 a1_3 a1_4 a1_5 a1_6 0 0 0 0 0 0 0 = some (r1, r2, r3, r4, r5, r6, r7, r8)) ∧ Aside0 (kq ≤ kj3) ∧ Aside0 (wc.heap[gb232]? = some (.cells #[.int .i64 a0_0, .int .i64 a0_1, (.slice A0_2 l0_2.length c0_2), (.slice A0_3 l0_3.length c0_3), .int .i64 a0_4] 25 (0, 0))) ∧ Aside0 (wc.heap[gb233]? = some (.cells #[.int .u32 a1_0, .int .i64 a1_1, .int .i64 a1_2, .int .i64 a1_3, .int .i64 a1_4, .int .i64 a1_5, .int .u16 a1_6] 31 (0, 0))) ∧ Aside0 (wc.heap[gb234]? = some (.cells #[.int .u32 0, .int .i64 0, .int .i64 0, .int .i64 0, .int .i64 0, .int .i64 0, .int .u16 0] 31 (0, 0))) ∧ Aside0 (wc.heap[gb235]? = some (.cells #[.int .u32 0, .int .i64 0, .int .i64 0, .int .i64 0, .int .i64 0, .int .i64 0, .int .u16 0] 31 (0, 0))) ∧ Aside0 (Below w.heap.size w wc))
    case first =>
     have H := HC35.out
     clear HC35
     by_cases c43 : t237 = true
     ·
      subst c43
      have H1 : (octroiref15_Pass.j1 kj3 true a0_0 a0_1 l0_2 l0_3 a0_4 a1_0 a1_1 a1_2 a1_3 a1_4 a1_5 a1_6 0 0 0 0 0 0 0) = some (r1, r2, r3, r4, r5, r6, r7, r8) := by rw [if_pos rfl] at H; exact H
      clear H
      have H := H1
      clear H1
      have H' := Aside0.mk H
      clear H
      go_wp2
      go_meet
      case rel => exact ⟨_, (true), (by first | rfl | (simp; done) | (simp [*]; done)), H', ⟨by have := HJ3.out; first | omega | exact Nat.le_refl _⟩, ⟨by (with_reducible repeat (first | refine blk_drewN ?_ _ | refine blk_drew ?_ | refine blk_alloc ?_ _)); exact BK232.out⟩, ⟨by (with_reducible repeat (first | refine blk_drewN ?_ _ | refine blk_drew ?_ | refine blk_alloc ?_ _)); exact BK233.out⟩, ⟨by (with_reducible repeat (first | refine blk_drewN ?_ _ | refine blk_drew ?_ | refine blk_alloc ?_ _)); exact BK234.out⟩, ⟨by (with_reducible repeat (first | refine blk_drewN ?_ _ | refine blk_drew ?_ | refine blk_alloc ?_ _)); exact BK235.out⟩, ⟨by repeat (first | (with_reducible first | exact HB.out | apply below_alloc | apply pw_below_drewN | apply below_drew1 | refine below_set ?_ GE232.out | refine below_set ?_ GE233.out | refine below_set ?_ GE234.out | refine below_set ?_ GE235.out) | exact HB.out)⟩⟩
     ·
      replace c43 := Bool.eq_false_iff.mpr c43
      subst c43
      have H1 : (octroiref15_Pass.j1 kj3 t238 a0_0 a0_1 l0_2 l0_3 a0_4 a1_0 a1_1 a1_2 a1_3 a1_4 a1_5 a1_6 0 0 0 0 0 0 0) = some (r1, r2, r3, r4, r5, r6, r7, r8) := by rw [if_neg (show ¬ (false = true) by decide)] at H; exact H
      clear H
      have H := H1
      clear H1
      have H' := Aside0.mk H
      clear H
      go_wp2
      go_meet
      case rel => exact ⟨_, (t238), (by first | rfl | (simp; done) | (simp [*]; done)), H', ⟨by have := HJ3.out; first | omega | exact Nat.le_refl _⟩, ⟨by (with_reducible repeat (first | refine blk_drewN ?_ _ | refine blk_drew ?_ | refine blk_alloc ?_ _)); exact BK232.out⟩, ⟨by (with_reducible repeat (first | refine blk_drewN ?_ _ | refine blk_drew ?_ | refine blk_alloc ?_ _)); exact BK233.out⟩, ⟨by (with_reducible repeat (first | refine blk_drewN ?_ _ | refine blk_drew ?_ | refine blk_alloc ?_ _)); exact BK234.out⟩, ⟨by (with_reducible repeat (first | refine blk_drewN ?_ _ | refine blk_drew ?_ | refine blk_alloc ?_ _)); exact BK235.out⟩, ⟨by repeat (first | (with_reducible first | exact HB.out | apply below_alloc | apply pw_below_drewN | apply below_drew1 | refine below_set ?_ GE232.out | refine below_set ?_ GE233.out | refine below_set ?_ GE234.out | refine below_set ?_ GE235.out) | exact HB.out)⟩⟩
    case rest =>
     clear HC35
     try clear c1
     try clear c2
     try clear p2
     try clear c3
     try clear c4
     try clear c9
     try clear c10
     try clear c11
     try clear c13
     try clear c14
     try clear c17
     try clear c18
     try clear c19
     try clear c20
     try clear c22
     try clear c23
     try clear c25
     try clear c26
     try clear c27
     try clear c28
     try clear c30
     try clear c31
     try clear c36
     try clear c37
     try clear c38
     try clear c40
     try clear c41
     try clear c43
     try clear hcz12_0
     try clear hcz12_1
     try clear hcz12_2
     try clear hcz12_3
     try clear hcz12_4
     try clear hcz12_5
     try clear hcz12_6
     try clear hcz15_0
     try clear hcz15_1
     try clear hcz15_2
     try clear hcz15_3
     try clear hcz15_4
     try clear hcz21_0
     try clear hcz21_1
     try clear hcz21_2
     try clear hcz21_3
     try clear hcz21_4
     try clear hcz21_5
     try clear hcz21_6
     try clear hcz24_0
     try clear hcz24_1
     try clear hcz24_2
     try clear hcz24_3
     try clear hcz24_4
     try clear hcz29_0
     try clear hcz29_1
     try clear hcz29_2
     try clear hcz29_3
     try clear hcz29_4
     try clear hcz29_5
     try clear hcz29_6
     try clear hcz32_0
     try clear hcz32_1
     try clear hcz32_2
     try clear hcz32_3
     try clear hcz32_4
     try clear hcz32_5
     try clear hcz32_6
     try clear hcz39_0
     try clear hcz39_1
     try clear hcz39_2
     try clear hcz39_3
     try clear hcz39_4
     try clear hcz39_5
     try clear hcz39_6
     try clear hcz42_0
     try clear hcz42_1
     try clear hcz42_2
     try clear hcz42_3
     try clear hcz42_4
     try clear hfz12_0
     try clear hfz12_1
     try clear hfz12_2
     try clear hfz12_3
     try clear hfz12_4
     try clear hfz12_5
     try clear hfz12_6
     try clear hfz15_0
     try clear hfz15_1
     try clear hfz15_2
     try clear hfz15_3
     try clear hfz15_4
     try clear hfz21_0
     try clear hfz21_1
     try clear hfz21_2
     try clear hfz21_3
     try clear hfz21_4
     try clear hfz21_5
     try clear hfz21_6
     try clear hfz24_0
     try clear hfz24_1
     try clear hfz24_2
     try clear hfz24_3
     try clear hfz24_4
     try clear hfz29_0
     try clear hfz29_1
     try clear hfz29_2
     try clear hfz29_3
     try clear hfz29_4
     try clear hfz29_5
     try clear hfz29_6
     try clear hfz32_0
     try clear hfz32_1
     try clear hfz32_2
     try clear hfz32_3
     try clear hfz32_4
     try clear hfz32_5
     try clear hfz32_6
     try clear hfz39_0
     try clear hfz39_1
     try clear hfz39_2
     try clear hfz39_3
     try clear hfz39_4
     try clear hfz39_5
     try clear hfz39_6
     try clear hfz42_0
     try clear hfz42_1
     try clear hfz42_2
     try clear hfz42_3
     try clear hfz42_4
     try clear p2
     obtain ⟨kq, x42_34, rfl, HA, HJ34, BK232, BK233, BK234, BK235, HB⟩ := hcut
     cases kq with
     | zero => exact absurd HA.out (by simp [octroiref15_Pass.j1])
     | succ kj34 =>
      have H := HA.out
      clear HA
      simp only [octroiref15_Pass.j1] at H
      by_cases c44 : x42_34 = true
      ·
       subst c44
       have H1 : (some (0, 0, 0, 0, 0, 0, 0, 6)) = some (r1, r2, r3, r4, r5, r6, r7, r8) := by rw [if_pos rfl] at H; exact H
       clear H
       have H := H1
       clear H1
       simp only [Option.some.injEq, Prod.mk.injEq] at H
       obtain ⟨rfl, rfl, rfl, rfl, rfl, rfl, rfl, rfl⟩ := H
       have hnb45 := NB235_232.out
       have hnc45 := NB232_235.out
       have hnb46 := NB235_233.out
       have hnc46 := NB233_235.out
       have hnb47 := NB235_234.out
       have hnc47 := NB234_235.out
       have hcz48_0 : wc.cell? ⟨gb235, 0, none⟩ = some (.int .u32 0) := (blk_cell BK235.out 0).trans rfl
       have hcz48_1 : wc.cell? ⟨gb235, 1, none⟩ = some (.int .i64 0) := (blk_cell BK235.out 1).trans rfl
       have hcz48_2 : wc.cell? ⟨gb235, 2, none⟩ = some (.int .i64 0) := (blk_cell BK235.out 2).trans rfl
       have hcz48_3 : wc.cell? ⟨gb235, 3, none⟩ = some (.int .i64 0) := (blk_cell BK235.out 3).trans rfl
       have hcz48_4 : wc.cell? ⟨gb235, 4, none⟩ = some (.int .i64 0) := (blk_cell BK235.out 4).trans rfl
       have hcz48_5 : wc.cell? ⟨gb235, 5, none⟩ = some (.int .i64 0) := (blk_cell BK235.out 5).trans rfl
       have hcz48_6 : wc.cell? ⟨gb235, 6, none⟩ = some (.int .u16 0) := (blk_cell BK235.out 6).trans rfl
       have hfz48_0 := blk_frozen BK235.out 0
       have hfz48_1 := blk_frozen BK235.out 1
       have hfz48_2 := blk_frozen BK235.out 2
       have hfz48_3 := blk_frozen BK235.out 3
       have hfz48_4 := blk_frozen BK235.out 4
       have hfz48_5 := blk_frozen BK235.out 5
       have hfz48_6 := blk_frozen BK235.out 6
       have hnb49 := NB234_232.out
       have hnc49 := NB232_234.out
       have hnb50 := NB234_233.out
       have hnc50 := NB233_234.out
       have hcz51_0 : wc.cell? ⟨gb234, 0, none⟩ = some (.int .u32 0) := (blk_cell BK234.out 0).trans rfl
       have hcz51_1 : wc.cell? ⟨gb234, 1, none⟩ = some (.int .i64 0) := (blk_cell BK234.out 1).trans rfl
       have hcz51_2 : wc.cell? ⟨gb234, 2, none⟩ = some (.int .i64 0) := (blk_cell BK234.out 2).trans rfl
       have hcz51_3 : wc.cell? ⟨gb234, 3, none⟩ = some (.int .i64 0) := (blk_cell BK234.out 3).trans rfl
       have hcz51_4 : wc.cell? ⟨gb234, 4, none⟩ = some (.int .i64 0) := (blk_cell BK234.out 4).trans rfl
       have hcz51_5 : wc.cell? ⟨gb234, 5, none⟩ = some (.int .i64 0) := (blk_cell BK234.out 5).trans rfl
       have hcz51_6 : wc.cell? ⟨gb234, 6, none⟩ = some (.int .u16 0) := (blk_cell BK234.out 6).trans rfl
       have hfz51_0 := blk_frozen BK234.out 0
       have hfz51_1 := blk_frozen BK234.out 1
       have hfz51_2 := blk_frozen BK234.out 2
       have hfz51_3 := blk_frozen BK234.out 3
       have hfz51_4 := blk_frozen BK234.out 4
       have hfz51_5 := blk_frozen BK234.out 5
       have hfz51_6 := blk_frozen BK234.out 6
       go_wp2
       refine bodyPost_ret (results_ct rfl _ _ gb234 31 #[.int .u32 0, .int .i64 0, .int .i64 0, .int .i64 0, .int .i64 0, .int .i64 0, .int .u16 0] (0, 0) _ rfl (by (with_reducible repeat (first | refine blk_drewN ?_ _ | refine blk_drew ?_ | refine blk_alloc ?_ _)); refine blk_put (cs := #[.int .u32 0, .int .i64 0, .int .i64 0, .int .i64 0, .int .i64 0, .int .i64 0, .int .u16 0]) ?_ 6 _ rfl; (with_reducible repeat (first | refine blk_drewN ?_ _ | refine blk_drew ?_ | refine blk_alloc ?_ _)); refine blk_put (cs := #[.int .u32 0, .int .i64 0, .int .i64 0, .int .i64 0, .int .i64 0, .int .i64 0, .int .u16 0]) ?_ 5 _ rfl; (with_reducible repeat (first | refine blk_drewN ?_ _ | refine blk_drew ?_ | refine blk_alloc ?_ _)); refine blk_put (cs := #[.int .u32 0, .int .i64 0, .int .i64 0, .int .i64 0, .int .i64 0, .int .i64 0, .int .u16 0]) ?_ 4 _ rfl; (with_reducible repeat (first | refine blk_drewN ?_ _ | refine blk_drew ?_ | refine blk_alloc ?_ _)); refine blk_put (cs := #[.int .u32 0, .int .i64 0, .int .i64 0, .int .i64 0, .int .i64 0, .int .i64 0, .int .u16 0]) ?_ 3 _ rfl; (with_reducible repeat (first | refine blk_drewN ?_ _ | refine blk_drew ?_ | refine blk_alloc ?_ _)); refine blk_put (cs := #[.int .u32 0, .int .i64 0, .int .i64 0, .int .i64 0, .int .i64 0, .int .i64 0, .int .u16 0]) ?_ 2 _ rfl; (with_reducible repeat (first | refine blk_drewN ?_ _ | refine blk_drew ?_ | refine blk_alloc ?_ _)); refine blk_put (cs := #[.int .u32 0, .int .i64 0, .int .i64 0, .int .i64 0, .int .i64 0, .int .i64 0, .int .u16 0]) ?_ 1 _ rfl; (with_reducible repeat (first | refine blk_drewN ?_ _ | refine blk_drew ?_ | refine blk_alloc ?_ _)); refine blk_put (cs := #[.int .u32 0, .int .i64 0, .int .i64 0, .int .i64 0, .int .i64 0, .int .i64 0, .int .u16 0]) ?_ 0 _ rfl; (with_reducible repeat (first | refine blk_drewN ?_ _ | refine blk_drew ?_ | refine blk_alloc ?_ _)); exact BK234.out) Try.underlying31 rfl (by kernel_rfl)) rfl ?_
       exact ⟨by first | rfl | (simp [errW_none, errW_some] <;> rfl) | (simp [*, errW_none, errW_some] <;> rfl), by repeat (first | (with_reducible first | exact HB.out | apply below_alloc | apply pw_below_drewN | apply below_drew1 | refine below_set ?_ GE232.out | refine below_set ?_ GE233.out | refine below_set ?_ GE234.out | refine below_set ?_ GE235.out) | exact HB.out)⟩
      ·
       replace c44 := Bool.eq_false_iff.mpr c44
       subst c44
       have H1 : ((octroiref13_Permits.f kj34 l0_2 a1_0 a1_1 a1_6).bind fun bt239 => (if bt239.1 = true then ((octroiref14_To.f kj34 l0_3 a0_4 a1_4).bind fun bt241 => (if bt241.2 = true then ((octroiref03_Add.f kj34 a1_6 a0_0).bind fun bt243 => (some (a1_0, a1_1, a0_1, a1_3, bt241.1, 0, bt243.1, 0))) else (some (0, 0, 0, 0, 0, 0, 0, 7)))) else (some (0, 0, 0, 0, 0, 0, 0, 7)))) = some (r1, r2, r3, r4, r5, r6, r7, r8) := by rw [if_neg (show ¬ (false = true) by decide)] at H; exact H
       clear H
       have H := H1
       clear H1
       replace H := Option.bind_eq_some_iff.mp H
       obtain ⟨⟨t239, t240⟩, A520, H⟩ := H
       replace H : (if t239 = true then ((octroiref14_To.f kj34 l0_3 a0_4 a1_4).bind fun bt241 => (if bt241.2 = true then ((octroiref03_Add.f kj34 a1_6 a0_0).bind fun bt243 => (some (a1_0, a1_1, a0_1, a1_3, bt241.1, 0, bt243.1, 0))) else (some (0, 0, 0, 0, 0, 0, 0, 7)))) else (some (0, 0, 0, 0, 0, 0, 0, 7))) = some (r1, r2, r3, r4, r5, r6, r7, r8) := H
       have A52 := Aside0.mk A520
       clear A520
       by_cases c53 : t239 = true
       ·
        subst c53
        have H1 : ((octroiref14_To.f kj34 l0_3 a0_4 a1_4).bind fun bt241 => (if bt241.2 = true then ((octroiref03_Add.f kj34 a1_6 a0_0).bind fun bt243 => (some (a1_0, a1_1, a0_1, a1_3, bt241.1, 0, bt243.1, 0))) else (some (0, 0, 0, 0, 0, 0, 0, 7)))) = some (r1, r2, r3, r4, r5, r6, r7, r8) := by rw [if_pos rfl] at H; exact H
        clear H
        have H := H1
        clear H1
        replace H := Option.bind_eq_some_iff.mp H
        obtain ⟨⟨t241, t242⟩, A540, H⟩ := H
        replace H : (if t242 = true then ((octroiref03_Add.f kj34 a1_6 a0_0).bind fun bt243 => (some (a1_0, a1_1, a0_1, a1_3, t241, 0, bt243.1, 0))) else (some (0, 0, 0, 0, 0, 0, 0, 7))) = some (r1, r2, r3, r4, r5, r6, r7, r8) := H
        have A54 := Aside0.mk A540
        clear A540
        by_cases c55 : t242 = true
        ·
         subst c55
         have H1 : ((octroiref03_Add.f kj34 a1_6 a0_0).bind fun bt243 => (some (a1_0, a1_1, a0_1, a1_3, t241, 0, bt243.1, 0))) = some (r1, r2, r3, r4, r5, r6, r7, r8) := by rw [if_pos rfl] at H; exact H
         clear H
         have H := H1
         clear H1
         replace H := Option.bind_eq_some_iff.mp H
         obtain ⟨⟨t243, t244⟩, A560, H⟩ := H
         replace H : (some (a1_0, a1_1, a0_1, a1_3, t241, 0, t243, 0)) = some (r1, r2, r3, r4, r5, r6, r7, r8) := H
         have A56 := Aside0.mk A560
         clear A560
         simp only [Option.some.injEq, Prod.mk.injEq] at H
         obtain ⟨rfl, rfl, rfl, rfl, rfl, rfl, rfl, rfl⟩ := H
         have hnb57 := NB232_233.out
         have hnc57 := NB233_232.out
         have hnb58 := NB232_234.out
         have hnc58 := NB234_232.out
         have hnb59 := NB232_235.out
         have hnc59 := NB235_232.out
         have hcz60_0 : wc.cell? ⟨gb232, 0, none⟩ = some (.int .i64 a0_0) := (blk_cell BK232.out 0).trans rfl
         have hcz60_1 : wc.cell? ⟨gb232, 1, none⟩ = some (.int .i64 a0_1) := (blk_cell BK232.out 1).trans rfl
         have hcz60_2 : wc.cell? ⟨gb232, 2, none⟩ = some (.slice A0_2 l0_2.length c0_2) := (blk_cell BK232.out 2).trans rfl
         have hcz60_3 : wc.cell? ⟨gb232, 3, none⟩ = some (.slice A0_3 l0_3.length c0_3) := (blk_cell BK232.out 3).trans rfl
         have hcz60_4 : wc.cell? ⟨gb232, 4, none⟩ = some (.int .i64 a0_4) := (blk_cell BK232.out 4).trans rfl
         have hfz60_0 := blk_frozen BK232.out 0
         have hfz60_1 := blk_frozen BK232.out 1
         have hfz60_2 := blk_frozen BK232.out 2
         have hfz60_3 := blk_frozen BK232.out 3
         have hfz60_4 := blk_frozen BK232.out 4
         have hnb61 := NB233_234.out
         have hnc61 := NB234_233.out
         have hnb62 := NB233_235.out
         have hnc62 := NB235_233.out
         have hcz63_0 : wc.cell? ⟨gb233, 0, none⟩ = some (.int .u32 a1_0) := (blk_cell BK233.out 0).trans rfl
         have hcz63_1 : wc.cell? ⟨gb233, 1, none⟩ = some (.int .i64 a1_1) := (blk_cell BK233.out 1).trans rfl
         have hcz63_2 : wc.cell? ⟨gb233, 2, none⟩ = some (.int .i64 a1_2) := (blk_cell BK233.out 2).trans rfl
         have hcz63_3 : wc.cell? ⟨gb233, 3, none⟩ = some (.int .i64 a1_3) := (blk_cell BK233.out 3).trans rfl
         have hcz63_4 : wc.cell? ⟨gb233, 4, none⟩ = some (.int .i64 a1_4) := (blk_cell BK233.out 4).trans rfl
         have hcz63_5 : wc.cell? ⟨gb233, 5, none⟩ = some (.int .i64 a1_5) := (blk_cell BK233.out 5).trans rfl
         have hcz63_6 : wc.cell? ⟨gb233, 6, none⟩ = some (.int .u16 a1_6) := (blk_cell BK233.out 6).trans rfl
         have hfz63_0 := blk_frozen BK233.out 0
         have hfz63_1 := blk_frozen BK233.out 1
         have hfz63_2 := blk_frozen BK233.out 2
         have hfz63_3 := blk_frozen BK233.out 3
         have hfz63_4 := blk_frozen BK233.out 4
         have hfz63_5 := blk_frozen BK233.out 5
         have hfz63_6 := blk_frozen BK233.out 6
         go_wp2_with (first | ((with_reducible refine gate_callee (f := 27) rfl ?_); refine goesL_ (some 51) rfl rfl Try.func27 (by kernel_rfl) rfl #[.slice A0_2 l0_2.length c0_2, .agg #[.int .u32 a1_0, .int .i64 a1_1], .int .u16 a1_6] rfl (by (try simp only [List.map_toArray, List.map_cons, List.map_nil]); first | done | rfl | (simp only [List.length_drop, List.length_take]; rfl)) ?_; (with_reducible refine (octroiref13_Permits.calls kj34 _ _ l0_2 a1_0 a1_1 a1_6 true t240 _ ?side1 ?side2 A52.out).mono ?_); (case side1 => repeat (first | exact (Kd.C_below HR0_2.out HB.out) | (with_reducible refine Kd.C_alloc ?_ _) | (with_reducible refine Kd.C_drewN ?_ _) | (with_reducible refine Kd.C_drew ?_))); (case side2 => exact HC0_2.out); rintro e w64 ⟨rfl, hb⟩; refine ⟨_, rfl, ?_⟩; have n0_ := Aside0.mk (blk_below (g := gb232) (o := .cells #[.int .i64 a0_0, .int .i64 a0_1, .slice A0_2 l0_2.length c0_2, .slice A0_3 l0_3.length c0_3, .int .i64 a0_4] 25 (0, 0)) (by (with_reducible repeat (first | refine blk_drewN ?_ _ | refine blk_drew ?_ | refine blk_alloc ?_ _)); exact BK232.out) hb); have n1_ := Aside0.mk (blk_below (g := gb233) (o := .cells #[.int .u32 a1_0, .int .i64 a1_1, .int .i64 a1_2, .int .i64 a1_3, .int .i64 a1_4, .int .i64 a1_5, .int .u16 a1_6] 31 (0, 0)) (by (with_reducible repeat (first | refine blk_drewN ?_ _ | refine blk_drew ?_ | refine blk_alloc ?_ _)); exact BK233.out) hb); have n2_ := Aside0.mk (blk_below (g := gb234) (o := .cells #[.int .u32 0, .int .i64 0, .int .i64 0, .int .i64 0, .int .i64 0, .int .i64 0, .int .u16 0] 31 (0, 0)) (by (with_reducible repeat (first | refine blk_drewN ?_ _ | refine blk_drew ?_ | refine blk_alloc ?_ _)); exact BK234.out) hb); have n3_ := Aside0.mk (blk_below (g := gb235) (o := .cells #[.int .u32 0, .int .i64 0, .int .i64 0, .int .i64 0, .int .i64 0, .int .i64 0, .int .u16 0] 31 (0, 0)) (by (with_reducible repeat (first | refine blk_drewN ?_ _ | refine blk_drew ?_ | refine blk_alloc ?_ _)); exact BK235.out) hb); have n4_ := Aside0.mk (below_step (by repeat (first | (with_reducible first | exact HB.out | apply below_alloc | apply pw_below_drewN | apply below_drew1 | refine below_set ?_ GE232.out | refine below_set ?_ GE233.out | refine below_set ?_ GE234.out | refine below_set ?_ GE235.out) | exact HB.out)) hb); clear BK232; clear BK233; clear BK234; clear BK235; clear HB; have BK232 := n0_; have BK233 := n1_; have BK234 := n2_; have BK235 := n3_; have HB := n4_; clear n0_ n1_ n2_ n3_ n4_; (try clear hb); (try clear hb2); (try clear hk); (try clear hi); have hcz65_0 : w64.cell? ⟨gb232, 0, none⟩ = some (.int .i64 a0_0) := (blk_cell BK232.out 0).trans rfl; have hcz65_1 : w64.cell? ⟨gb232, 1, none⟩ = some (.int .i64 a0_1) := (blk_cell BK232.out 1).trans rfl; have hcz65_2 : w64.cell? ⟨gb232, 2, none⟩ = some (.slice A0_2 l0_2.length c0_2) := (blk_cell BK232.out 2).trans rfl; have hcz65_3 : w64.cell? ⟨gb232, 3, none⟩ = some (.slice A0_3 l0_3.length c0_3) := (blk_cell BK232.out 3).trans rfl; have hcz65_4 : w64.cell? ⟨gb232, 4, none⟩ = some (.int .i64 a0_4) := (blk_cell BK232.out 4).trans rfl; have hfz65_0 := blk_frozen BK232.out 0; have hfz65_1 := blk_frozen BK232.out 1; have hfz65_2 := blk_frozen BK232.out 2; have hfz65_3 := blk_frozen BK232.out 3; have hfz65_4 := blk_frozen BK232.out 4; have hcz66_0 : w64.cell? ⟨gb233, 0, none⟩ = some (.int .u32 a1_0) := (blk_cell BK233.out 0).trans rfl; have hcz66_1 : w64.cell? ⟨gb233, 1, none⟩ = some (.int .i64 a1_1) := (blk_cell BK233.out 1).trans rfl; have hcz66_2 : w64.cell? ⟨gb233, 2, none⟩ = some (.int .i64 a1_2) := (blk_cell BK233.out 2).trans rfl; have hcz66_3 : w64.cell? ⟨gb233, 3, none⟩ = some (.int .i64 a1_3) := (blk_cell BK233.out 3).trans rfl; have hcz66_4 : w64.cell? ⟨gb233, 4, none⟩ = some (.int .i64 a1_4) := (blk_cell BK233.out 4).trans rfl; have hcz66_5 : w64.cell? ⟨gb233, 5, none⟩ = some (.int .i64 a1_5) := (blk_cell BK233.out 5).trans rfl; have hcz66_6 : w64.cell? ⟨gb233, 6, none⟩ = some (.int .u16 a1_6) := (blk_cell BK233.out 6).trans rfl; have hfz66_0 := blk_frozen BK233.out 0; have hfz66_1 := blk_frozen BK233.out 1; have hfz66_2 := blk_frozen BK233.out 2; have hfz66_3 := blk_frozen BK233.out 3; have hfz66_4 := blk_frozen BK233.out 4; have hfz66_5 := blk_frozen BK233.out 5; have hfz66_6 := blk_frozen BK233.out 6) | ((with_reducible refine gate_callee (f := 28) rfl ?_); refine goesL_ (some 64) rfl rfl Try.func28 (by kernel_rfl) rfl #[.slice A0_3 l0_3.length c0_3, .int .i64 a0_4, .int .i64 a1_4] rfl (by (try simp only [List.map_toArray, List.map_cons, List.map_nil]); first | done | rfl | (simp only [List.length_drop, List.length_take]; rfl)) ?_; (with_reducible refine (octroiref14_To.calls kj34 _ _ l0_3 a0_4 a1_4 t241 true _ ?side1 ?side2 A54.out).mono ?_); (case side1 => repeat (first | exact (Kd.C_below HR0_3.out HB.out) | (with_reducible refine Kd.C_alloc ?_ _) | (with_reducible refine Kd.C_drewN ?_ _) | (with_reducible refine Kd.C_drew ?_))); (case side2 => exact HC0_3.out); rintro e w' ⟨rfl, ⟨nd, rfl⟩⟩; refine ⟨_, rfl, ?_⟩) | ((with_reducible refine gate_callee (f := 29) rfl ?_); refine goesL_ (some 75) rfl rfl Try.func29 (by kernel_rfl) rfl #[.int .u16 a1_6, .int .i64 a0_0] rfl (by (try simp only [List.map_toArray, List.map_cons, List.map_nil]); first | done | rfl | (simp only [List.length_drop, List.length_take]; rfl)) ?_; (with_reducible refine (octroiref03_Add.calls kj34 a1_6 a0_0 t243 t244 _ A56.out).mono ?_); rintro e w' ⟨rfl, ⟨nd, rfl⟩⟩; refine ⟨_, rfl, ?_⟩; have hnb67 := NB234_235.out; have hnc67 := NB235_234.out; have hcz68_0 : w64.cell? ⟨gb234, 0, none⟩ = some (.int .u32 0) := (blk_cell BK234.out 0).trans rfl; have hcz68_1 : w64.cell? ⟨gb234, 1, none⟩ = some (.int .i64 0) := (blk_cell BK234.out 1).trans rfl; have hcz68_2 : w64.cell? ⟨gb234, 2, none⟩ = some (.int .i64 0) := (blk_cell BK234.out 2).trans rfl; have hcz68_3 : w64.cell? ⟨gb234, 3, none⟩ = some (.int .i64 0) := (blk_cell BK234.out 3).trans rfl; have hcz68_4 : w64.cell? ⟨gb234, 4, none⟩ = some (.int .i64 0) := (blk_cell BK234.out 4).trans rfl; have hcz68_5 : w64.cell? ⟨gb234, 5, none⟩ = some (.int .i64 0) := (blk_cell BK234.out 5).trans rfl; have hcz68_6 : w64.cell? ⟨gb234, 6, none⟩ = some (.int .u16 0) := (blk_cell BK234.out 6).trans rfl; have hfz68_0 := blk_frozen BK234.out 0; have hfz68_1 := blk_frozen BK234.out 1; have hfz68_2 := blk_frozen BK234.out 2; have hfz68_3 := blk_frozen BK234.out 3; have hfz68_4 := blk_frozen BK234.out 4; have hfz68_5 := blk_frozen BK234.out 5; have hfz68_6 := blk_frozen BK234.out 6))
         refine bodyPost_ret (results_ct rfl _ _ gb234 31 #[.int .u32 a1_0, .int .i64 a1_1, .int .i64 a0_1, .int .i64 a1_3, .int .i64 t241, .int .i64 0, .int .u16 t243] (0, 0) _ rfl (by (with_reducible repeat (first | refine blk_drewN ?_ _ | refine blk_drew ?_ | refine blk_alloc ?_ _)); refine blk_put (cs := #[.int .u32 a1_0, .int .i64 a1_1, .int .i64 a0_1, .int .i64 a1_3, .int .i64 t241, .int .i64 0, .int .u16 0]) ?_ 6 _ rfl; (with_reducible repeat (first | refine blk_drewN ?_ _ | refine blk_drew ?_ | refine blk_alloc ?_ _)); refine blk_put (cs := #[.int .u32 a1_0, .int .i64 a1_1, .int .i64 a0_1, .int .i64 a1_3, .int .i64 t241, .int .i64 0, .int .u16 0]) ?_ 5 _ rfl; (with_reducible repeat (first | refine blk_drewN ?_ _ | refine blk_drew ?_ | refine blk_alloc ?_ _)); refine blk_put (cs := #[.int .u32 a1_0, .int .i64 a1_1, .int .i64 a0_1, .int .i64 a1_3, .int .i64 0, .int .i64 0, .int .u16 0]) ?_ 4 _ rfl; (with_reducible repeat (first | refine blk_drewN ?_ _ | refine blk_drew ?_ | refine blk_alloc ?_ _)); refine blk_put (cs := #[.int .u32 a1_0, .int .i64 a1_1, .int .i64 a0_1, .int .i64 0, .int .i64 0, .int .i64 0, .int .u16 0]) ?_ 3 _ rfl; (with_reducible repeat (first | refine blk_drewN ?_ _ | refine blk_drew ?_ | refine blk_alloc ?_ _)); refine blk_put (cs := #[.int .u32 a1_0, .int .i64 a1_1, .int .i64 0, .int .i64 0, .int .i64 0, .int .i64 0, .int .u16 0]) ?_ 2 _ rfl; (with_reducible repeat (first | refine blk_drewN ?_ _ | refine blk_drew ?_ | refine blk_alloc ?_ _)); refine blk_put (cs := #[.int .u32 a1_0, .int .i64 0, .int .i64 0, .int .i64 0, .int .i64 0, .int .i64 0, .int .u16 0]) ?_ 1 _ rfl; (with_reducible repeat (first | refine blk_drewN ?_ _ | refine blk_drew ?_ | refine blk_alloc ?_ _)); refine blk_put (cs := #[.int .u32 0, .int .i64 0, .int .i64 0, .int .i64 0, .int .i64 0, .int .i64 0, .int .u16 0]) ?_ 0 _ rfl; (with_reducible repeat (first | refine blk_drewN ?_ _ | refine blk_drew ?_ | refine blk_alloc ?_ _)); exact BK234.out) Try.underlying31 rfl (by kernel_rfl)) rfl ?_
         exact ⟨by first | rfl | (simp [errW_none, errW_some] <;> rfl) | (simp [*, errW_none, errW_some] <;> rfl), by repeat (first | (with_reducible first | exact HB.out | apply below_alloc | apply pw_below_drewN | apply below_drew1 | refine below_set ?_ GE232.out | refine below_set ?_ GE233.out | refine below_set ?_ GE234.out | refine below_set ?_ GE235.out) | exact HB.out)⟩
        ·
         replace c55 := Bool.eq_false_iff.mpr c55
         subst c55
         have H1 : (some (0, 0, 0, 0, 0, 0, 0, 7)) = some (r1, r2, r3, r4, r5, r6, r7, r8) := by rw [if_neg (show ¬ (false = true) by decide)] at H; exact H
         clear H
         have H := H1
         clear H1
         simp only [Option.some.injEq, Prod.mk.injEq] at H
         obtain ⟨rfl, rfl, rfl, rfl, rfl, rfl, rfl, rfl⟩ := H
         have hnb69 := NB232_233.out
         have hnc69 := NB233_232.out
         have hnb70 := NB232_234.out
         have hnc70 := NB234_232.out
         have hnb71 := NB232_235.out
         have hnc71 := NB235_232.out
         have hcz72_0 : wc.cell? ⟨gb232, 0, none⟩ = some (.int .i64 a0_0) := (blk_cell BK232.out 0).trans rfl
         have hcz72_1 : wc.cell? ⟨gb232, 1, none⟩ = some (.int .i64 a0_1) := (blk_cell BK232.out 1).trans rfl
         have hcz72_2 : wc.cell? ⟨gb232, 2, none⟩ = some (.slice A0_2 l0_2.length c0_2) := (blk_cell BK232.out 2).trans rfl
         have hcz72_3 : wc.cell? ⟨gb232, 3, none⟩ = some (.slice A0_3 l0_3.length c0_3) := (blk_cell BK232.out 3).trans rfl
         have hcz72_4 : wc.cell? ⟨gb232, 4, none⟩ = some (.int .i64 a0_4) := (blk_cell BK232.out 4).trans rfl
         have hfz72_0 := blk_frozen BK232.out 0
         have hfz72_1 := blk_frozen BK232.out 1
         have hfz72_2 := blk_frozen BK232.out 2
         have hfz72_3 := blk_frozen BK232.out 3
         have hfz72_4 := blk_frozen BK232.out 4
         have hnb73 := NB233_234.out
         have hnc73 := NB234_233.out
         have hnb74 := NB233_235.out
         have hnc74 := NB235_233.out
         have hcz75_0 : wc.cell? ⟨gb233, 0, none⟩ = some (.int .u32 a1_0) := (blk_cell BK233.out 0).trans rfl
         have hcz75_1 : wc.cell? ⟨gb233, 1, none⟩ = some (.int .i64 a1_1) := (blk_cell BK233.out 1).trans rfl
         have hcz75_2 : wc.cell? ⟨gb233, 2, none⟩ = some (.int .i64 a1_2) := (blk_cell BK233.out 2).trans rfl
         have hcz75_3 : wc.cell? ⟨gb233, 3, none⟩ = some (.int .i64 a1_3) := (blk_cell BK233.out 3).trans rfl
         have hcz75_4 : wc.cell? ⟨gb233, 4, none⟩ = some (.int .i64 a1_4) := (blk_cell BK233.out 4).trans rfl
         have hcz75_5 : wc.cell? ⟨gb233, 5, none⟩ = some (.int .i64 a1_5) := (blk_cell BK233.out 5).trans rfl
         have hcz75_6 : wc.cell? ⟨gb233, 6, none⟩ = some (.int .u16 a1_6) := (blk_cell BK233.out 6).trans rfl
         have hfz75_0 := blk_frozen BK233.out 0
         have hfz75_1 := blk_frozen BK233.out 1
         have hfz75_2 := blk_frozen BK233.out 2
         have hfz75_3 := blk_frozen BK233.out 3
         have hfz75_4 := blk_frozen BK233.out 4
         have hfz75_5 := blk_frozen BK233.out 5
         have hfz75_6 := blk_frozen BK233.out 6
         go_wp2_with (first | ((with_reducible refine gate_callee (f := 27) rfl ?_); refine goesL_ (some 51) rfl rfl Try.func27 (by kernel_rfl) rfl #[.slice A0_2 l0_2.length c0_2, .agg #[.int .u32 a1_0, .int .i64 a1_1], .int .u16 a1_6] rfl (by (try simp only [List.map_toArray, List.map_cons, List.map_nil]); first | done | rfl | (simp only [List.length_drop, List.length_take]; rfl)) ?_; (with_reducible refine (octroiref13_Permits.calls kj34 _ _ l0_2 a1_0 a1_1 a1_6 true t240 _ ?side1 ?side2 A52.out).mono ?_); (case side1 => repeat (first | exact (Kd.C_below HR0_2.out HB.out) | (with_reducible refine Kd.C_alloc ?_ _) | (with_reducible refine Kd.C_drewN ?_ _) | (with_reducible refine Kd.C_drew ?_))); (case side2 => exact HC0_2.out); rintro e w76 ⟨rfl, hb⟩; refine ⟨_, rfl, ?_⟩; have n0_ := Aside0.mk (blk_below (g := gb232) (o := .cells #[.int .i64 a0_0, .int .i64 a0_1, .slice A0_2 l0_2.length c0_2, .slice A0_3 l0_3.length c0_3, .int .i64 a0_4] 25 (0, 0)) (by (with_reducible repeat (first | refine blk_drewN ?_ _ | refine blk_drew ?_ | refine blk_alloc ?_ _)); exact BK232.out) hb); have n1_ := Aside0.mk (blk_below (g := gb233) (o := .cells #[.int .u32 a1_0, .int .i64 a1_1, .int .i64 a1_2, .int .i64 a1_3, .int .i64 a1_4, .int .i64 a1_5, .int .u16 a1_6] 31 (0, 0)) (by (with_reducible repeat (first | refine blk_drewN ?_ _ | refine blk_drew ?_ | refine blk_alloc ?_ _)); exact BK233.out) hb); have n2_ := Aside0.mk (blk_below (g := gb234) (o := .cells #[.int .u32 0, .int .i64 0, .int .i64 0, .int .i64 0, .int .i64 0, .int .i64 0, .int .u16 0] 31 (0, 0)) (by (with_reducible repeat (first | refine blk_drewN ?_ _ | refine blk_drew ?_ | refine blk_alloc ?_ _)); exact BK234.out) hb); have n3_ := Aside0.mk (blk_below (g := gb235) (o := .cells #[.int .u32 0, .int .i64 0, .int .i64 0, .int .i64 0, .int .i64 0, .int .i64 0, .int .u16 0] 31 (0, 0)) (by (with_reducible repeat (first | refine blk_drewN ?_ _ | refine blk_drew ?_ | refine blk_alloc ?_ _)); exact BK235.out) hb); have n4_ := Aside0.mk (below_step (by repeat (first | (with_reducible first | exact HB.out | apply below_alloc | apply pw_below_drewN | apply below_drew1 | refine below_set ?_ GE232.out | refine below_set ?_ GE233.out | refine below_set ?_ GE234.out | refine below_set ?_ GE235.out) | exact HB.out)) hb); clear BK232; clear BK233; clear BK234; clear BK235; clear HB; have BK232 := n0_; have BK233 := n1_; have BK234 := n2_; have BK235 := n3_; have HB := n4_; clear n0_ n1_ n2_ n3_ n4_; (try clear hb); (try clear hb2); (try clear hk); (try clear hi); have hcz77_0 : w76.cell? ⟨gb232, 0, none⟩ = some (.int .i64 a0_0) := (blk_cell BK232.out 0).trans rfl; have hcz77_1 : w76.cell? ⟨gb232, 1, none⟩ = some (.int .i64 a0_1) := (blk_cell BK232.out 1).trans rfl; have hcz77_2 : w76.cell? ⟨gb232, 2, none⟩ = some (.slice A0_2 l0_2.length c0_2) := (blk_cell BK232.out 2).trans rfl; have hcz77_3 : w76.cell? ⟨gb232, 3, none⟩ = some (.slice A0_3 l0_3.length c0_3) := (blk_cell BK232.out 3).trans rfl; have hcz77_4 : w76.cell? ⟨gb232, 4, none⟩ = some (.int .i64 a0_4) := (blk_cell BK232.out 4).trans rfl; have hfz77_0 := blk_frozen BK232.out 0; have hfz77_1 := blk_frozen BK232.out 1; have hfz77_2 := blk_frozen BK232.out 2; have hfz77_3 := blk_frozen BK232.out 3; have hfz77_4 := blk_frozen BK232.out 4; have hcz78_0 : w76.cell? ⟨gb233, 0, none⟩ = some (.int .u32 a1_0) := (blk_cell BK233.out 0).trans rfl; have hcz78_1 : w76.cell? ⟨gb233, 1, none⟩ = some (.int .i64 a1_1) := (blk_cell BK233.out 1).trans rfl; have hcz78_2 : w76.cell? ⟨gb233, 2, none⟩ = some (.int .i64 a1_2) := (blk_cell BK233.out 2).trans rfl; have hcz78_3 : w76.cell? ⟨gb233, 3, none⟩ = some (.int .i64 a1_3) := (blk_cell BK233.out 3).trans rfl; have hcz78_4 : w76.cell? ⟨gb233, 4, none⟩ = some (.int .i64 a1_4) := (blk_cell BK233.out 4).trans rfl; have hcz78_5 : w76.cell? ⟨gb233, 5, none⟩ = some (.int .i64 a1_5) := (blk_cell BK233.out 5).trans rfl; have hcz78_6 : w76.cell? ⟨gb233, 6, none⟩ = some (.int .u16 a1_6) := (blk_cell BK233.out 6).trans rfl; have hfz78_0 := blk_frozen BK233.out 0; have hfz78_1 := blk_frozen BK233.out 1; have hfz78_2 := blk_frozen BK233.out 2; have hfz78_3 := blk_frozen BK233.out 3; have hfz78_4 := blk_frozen BK233.out 4; have hfz78_5 := blk_frozen BK233.out 5; have hfz78_6 := blk_frozen BK233.out 6) | ((with_reducible refine gate_callee (f := 28) rfl ?_); refine goesL_ (some 64) rfl rfl Try.func28 (by kernel_rfl) rfl #[.slice A0_3 l0_3.length c0_3, .int .i64 a0_4, .int .i64 a1_4] rfl (by (try simp only [List.map_toArray, List.map_cons, List.map_nil]); first | done | rfl | (simp only [List.length_drop, List.length_take]; rfl)) ?_; (with_reducible refine (octroiref14_To.calls kj34 _ _ l0_3 a0_4 a1_4 t241 false _ ?side1 ?side2 A54.out).mono ?_); (case side1 => repeat (first | exact (Kd.C_below HR0_3.out HB.out) | (with_reducible refine Kd.C_alloc ?_ _) | (with_reducible refine Kd.C_drewN ?_ _) | (with_reducible refine Kd.C_drew ?_))); (case side2 => exact HC0_3.out); rintro e w' ⟨rfl, ⟨nd, rfl⟩⟩; refine ⟨_, rfl, ?_⟩; have hnb79 := NB235_234.out; have hnc79 := NB234_235.out; have hcz80_0 : w76.cell? ⟨gb235, 0, none⟩ = some (.int .u32 0) := (blk_cell BK235.out 0).trans rfl; have hcz80_1 : w76.cell? ⟨gb235, 1, none⟩ = some (.int .i64 0) := (blk_cell BK235.out 1).trans rfl; have hcz80_2 : w76.cell? ⟨gb235, 2, none⟩ = some (.int .i64 0) := (blk_cell BK235.out 2).trans rfl; have hcz80_3 : w76.cell? ⟨gb235, 3, none⟩ = some (.int .i64 0) := (blk_cell BK235.out 3).trans rfl; have hcz80_4 : w76.cell? ⟨gb235, 4, none⟩ = some (.int .i64 0) := (blk_cell BK235.out 4).trans rfl; have hcz80_5 : w76.cell? ⟨gb235, 5, none⟩ = some (.int .i64 0) := (blk_cell BK235.out 5).trans rfl; have hcz80_6 : w76.cell? ⟨gb235, 6, none⟩ = some (.int .u16 0) := (blk_cell BK235.out 6).trans rfl; have hfz80_0 := blk_frozen BK235.out 0; have hfz80_1 := blk_frozen BK235.out 1; have hfz80_2 := blk_frozen BK235.out 2; have hfz80_3 := blk_frozen BK235.out 3; have hfz80_4 := blk_frozen BK235.out 4; have hfz80_5 := blk_frozen BK235.out 5; have hfz80_6 := blk_frozen BK235.out 6; have hcz81_0 : w76.cell? ⟨gb234, 0, none⟩ = some (.int .u32 0) := (blk_cell BK234.out 0).trans rfl; have hcz81_1 : w76.cell? ⟨gb234, 1, none⟩ = some (.int .i64 0) := (blk_cell BK234.out 1).trans rfl; have hcz81_2 : w76.cell? ⟨gb234, 2, none⟩ = some (.int .i64 0) := (blk_cell BK234.out 2).trans rfl; have hcz81_3 : w76.cell? ⟨gb234, 3, none⟩ = some (.int .i64 0) := (blk_cell BK234.out 3).trans rfl; have hcz81_4 : w76.cell? ⟨gb234, 4, none⟩ = some (.int .i64 0) := (blk_cell BK234.out 4).trans rfl; have hcz81_5 : w76.cell? ⟨gb234, 5, none⟩ = some (.int .i64 0) := (blk_cell BK234.out 5).trans rfl; have hcz81_6 : w76.cell? ⟨gb234, 6, none⟩ = some (.int .u16 0) := (blk_cell BK234.out 6).trans rfl; have hfz81_0 := blk_frozen BK234.out 0; have hfz81_1 := blk_frozen BK234.out 1; have hfz81_2 := blk_frozen BK234.out 2; have hfz81_3 := blk_frozen BK234.out 3; have hfz81_4 := blk_frozen BK234.out 4; have hfz81_5 := blk_frozen BK234.out 5; have hfz81_6 := blk_frozen BK234.out 6))
         refine bodyPost_ret (results_ct rfl _ _ gb234 31 #[.int .u32 0, .int .i64 0, .int .i64 0, .int .i64 0, .int .i64 0, .int .i64 0, .int .u16 0] (0, 0) _ rfl (by (with_reducible repeat (first | refine blk_drewN ?_ _ | refine blk_drew ?_ | refine blk_alloc ?_ _)); refine blk_put (cs := #[.int .u32 0, .int .i64 0, .int .i64 0, .int .i64 0, .int .i64 0, .int .i64 0, .int .u16 0]) ?_ 6 _ rfl; (with_reducible repeat (first | refine blk_drewN ?_ _ | refine blk_drew ?_ | refine blk_alloc ?_ _)); refine blk_put (cs := #[.int .u32 0, .int .i64 0, .int .i64 0, .int .i64 0, .int .i64 0, .int .i64 0, .int .u16 0]) ?_ 5 _ rfl; (with_reducible repeat (first | refine blk_drewN ?_ _ | refine blk_drew ?_ | refine blk_alloc ?_ _)); refine blk_put (cs := #[.int .u32 0, .int .i64 0, .int .i64 0, .int .i64 0, .int .i64 0, .int .i64 0, .int .u16 0]) ?_ 4 _ rfl; (with_reducible repeat (first | refine blk_drewN ?_ _ | refine blk_drew ?_ | refine blk_alloc ?_ _)); refine blk_put (cs := #[.int .u32 0, .int .i64 0, .int .i64 0, .int .i64 0, .int .i64 0, .int .i64 0, .int .u16 0]) ?_ 3 _ rfl; (with_reducible repeat (first | refine blk_drewN ?_ _ | refine blk_drew ?_ | refine blk_alloc ?_ _)); refine blk_put (cs := #[.int .u32 0, .int .i64 0, .int .i64 0, .int .i64 0, .int .i64 0, .int .i64 0, .int .u16 0]) ?_ 2 _ rfl; (with_reducible repeat (first | refine blk_drewN ?_ _ | refine blk_drew ?_ | refine blk_alloc ?_ _)); refine blk_put (cs := #[.int .u32 0, .int .i64 0, .int .i64 0, .int .i64 0, .int .i64 0, .int .i64 0, .int .u16 0]) ?_ 1 _ rfl; (with_reducible repeat (first | refine blk_drewN ?_ _ | refine blk_drew ?_ | refine blk_alloc ?_ _)); refine blk_put (cs := #[.int .u32 0, .int .i64 0, .int .i64 0, .int .i64 0, .int .i64 0, .int .i64 0, .int .u16 0]) ?_ 0 _ rfl; (with_reducible repeat (first | refine blk_drewN ?_ _ | refine blk_drew ?_ | refine blk_alloc ?_ _)); exact BK234.out) Try.underlying31 rfl (by kernel_rfl)) rfl ?_
         exact ⟨by first | rfl | (simp [errW_none, errW_some] <;> rfl) | (simp [*, errW_none, errW_some] <;> rfl), by repeat (first | (with_reducible first | exact HB.out | apply below_alloc | apply pw_below_drewN | apply below_drew1 | refine below_set ?_ GE232.out | refine below_set ?_ GE233.out | refine below_set ?_ GE234.out | refine below_set ?_ GE235.out) | exact HB.out)⟩
       ·
        replace c53 := Bool.eq_false_iff.mpr c53
        subst c53
        have H1 : (some (0, 0, 0, 0, 0, 0, 0, 7)) = some (r1, r2, r3, r4, r5, r6, r7, r8) := by rw [if_neg (show ¬ (false = true) by decide)] at H; exact H
        clear H
        have H := H1
        clear H1
        simp only [Option.some.injEq, Prod.mk.injEq] at H
        obtain ⟨rfl, rfl, rfl, rfl, rfl, rfl, rfl, rfl⟩ := H
        have hnb82 := NB232_233.out
        have hnc82 := NB233_232.out
        have hnb83 := NB232_234.out
        have hnc83 := NB234_232.out
        have hnb84 := NB232_235.out
        have hnc84 := NB235_232.out
        have hcz85_0 : wc.cell? ⟨gb232, 0, none⟩ = some (.int .i64 a0_0) := (blk_cell BK232.out 0).trans rfl
        have hcz85_1 : wc.cell? ⟨gb232, 1, none⟩ = some (.int .i64 a0_1) := (blk_cell BK232.out 1).trans rfl
        have hcz85_2 : wc.cell? ⟨gb232, 2, none⟩ = some (.slice A0_2 l0_2.length c0_2) := (blk_cell BK232.out 2).trans rfl
        have hcz85_3 : wc.cell? ⟨gb232, 3, none⟩ = some (.slice A0_3 l0_3.length c0_3) := (blk_cell BK232.out 3).trans rfl
        have hcz85_4 : wc.cell? ⟨gb232, 4, none⟩ = some (.int .i64 a0_4) := (blk_cell BK232.out 4).trans rfl
        have hfz85_0 := blk_frozen BK232.out 0
        have hfz85_1 := blk_frozen BK232.out 1
        have hfz85_2 := blk_frozen BK232.out 2
        have hfz85_3 := blk_frozen BK232.out 3
        have hfz85_4 := blk_frozen BK232.out 4
        have hnb86 := NB233_234.out
        have hnc86 := NB234_233.out
        have hnb87 := NB233_235.out
        have hnc87 := NB235_233.out
        have hcz88_0 : wc.cell? ⟨gb233, 0, none⟩ = some (.int .u32 a1_0) := (blk_cell BK233.out 0).trans rfl
        have hcz88_1 : wc.cell? ⟨gb233, 1, none⟩ = some (.int .i64 a1_1) := (blk_cell BK233.out 1).trans rfl
        have hcz88_2 : wc.cell? ⟨gb233, 2, none⟩ = some (.int .i64 a1_2) := (blk_cell BK233.out 2).trans rfl
        have hcz88_3 : wc.cell? ⟨gb233, 3, none⟩ = some (.int .i64 a1_3) := (blk_cell BK233.out 3).trans rfl
        have hcz88_4 : wc.cell? ⟨gb233, 4, none⟩ = some (.int .i64 a1_4) := (blk_cell BK233.out 4).trans rfl
        have hcz88_5 : wc.cell? ⟨gb233, 5, none⟩ = some (.int .i64 a1_5) := (blk_cell BK233.out 5).trans rfl
        have hcz88_6 : wc.cell? ⟨gb233, 6, none⟩ = some (.int .u16 a1_6) := (blk_cell BK233.out 6).trans rfl
        have hfz88_0 := blk_frozen BK233.out 0
        have hfz88_1 := blk_frozen BK233.out 1
        have hfz88_2 := blk_frozen BK233.out 2
        have hfz88_3 := blk_frozen BK233.out 3
        have hfz88_4 := blk_frozen BK233.out 4
        have hfz88_5 := blk_frozen BK233.out 5
        have hfz88_6 := blk_frozen BK233.out 6
        go_wp2_with (first | ((with_reducible refine gate_callee (f := 27) rfl ?_); refine goesL_ (some 51) rfl rfl Try.func27 (by kernel_rfl) rfl #[.slice A0_2 l0_2.length c0_2, .agg #[.int .u32 a1_0, .int .i64 a1_1], .int .u16 a1_6] rfl (by (try simp only [List.map_toArray, List.map_cons, List.map_nil]); first | done | rfl | (simp only [List.length_drop, List.length_take]; rfl)) ?_; (with_reducible refine (octroiref13_Permits.calls kj34 _ _ l0_2 a1_0 a1_1 a1_6 false t240 _ ?side1 ?side2 A52.out).mono ?_); (case side1 => repeat (first | exact (Kd.C_below HR0_2.out HB.out) | (with_reducible refine Kd.C_alloc ?_ _) | (with_reducible refine Kd.C_drewN ?_ _) | (with_reducible refine Kd.C_drew ?_))); (case side2 => exact HC0_2.out); rintro e w89 ⟨rfl, hb⟩; refine ⟨_, rfl, ?_⟩; have n0_ := Aside0.mk (blk_below (g := gb232) (o := .cells #[.int .i64 a0_0, .int .i64 a0_1, .slice A0_2 l0_2.length c0_2, .slice A0_3 l0_3.length c0_3, .int .i64 a0_4] 25 (0, 0)) (by (with_reducible repeat (first | refine blk_drewN ?_ _ | refine blk_drew ?_ | refine blk_alloc ?_ _)); exact BK232.out) hb); have n1_ := Aside0.mk (blk_below (g := gb233) (o := .cells #[.int .u32 a1_0, .int .i64 a1_1, .int .i64 a1_2, .int .i64 a1_3, .int .i64 a1_4, .int .i64 a1_5, .int .u16 a1_6] 31 (0, 0)) (by (with_reducible repeat (first | refine blk_drewN ?_ _ | refine blk_drew ?_ | refine blk_alloc ?_ _)); exact BK233.out) hb); have n2_ := Aside0.mk (blk_below (g := gb234) (o := .cells #[.int .u32 0, .int .i64 0, .int .i64 0, .int .i64 0, .int .i64 0, .int .i64 0, .int .u16 0] 31 (0, 0)) (by (with_reducible repeat (first | refine blk_drewN ?_ _ | refine blk_drew ?_ | refine blk_alloc ?_ _)); exact BK234.out) hb); have n3_ := Aside0.mk (blk_below (g := gb235) (o := .cells #[.int .u32 0, .int .i64 0, .int .i64 0, .int .i64 0, .int .i64 0, .int .i64 0, .int .u16 0] 31 (0, 0)) (by (with_reducible repeat (first | refine blk_drewN ?_ _ | refine blk_drew ?_ | refine blk_alloc ?_ _)); exact BK235.out) hb); have n4_ := Aside0.mk (below_step (by repeat (first | (with_reducible first | exact HB.out | apply below_alloc | apply pw_below_drewN | apply below_drew1 | refine below_set ?_ GE232.out | refine below_set ?_ GE233.out | refine below_set ?_ GE234.out | refine below_set ?_ GE235.out) | exact HB.out)) hb); clear BK232; clear BK233; clear BK234; clear BK235; clear HB; have BK232 := n0_; have BK233 := n1_; have BK234 := n2_; have BK235 := n3_; have HB := n4_; clear n0_ n1_ n2_ n3_ n4_; (try clear hb); (try clear hb2); (try clear hk); (try clear hi); have hnb90 := NB235_234.out; have hnc90 := NB234_235.out; have hcz91_0 : w89.cell? ⟨gb235, 0, none⟩ = some (.int .u32 0) := (blk_cell BK235.out 0).trans rfl; have hcz91_1 : w89.cell? ⟨gb235, 1, none⟩ = some (.int .i64 0) := (blk_cell BK235.out 1).trans rfl; have hcz91_2 : w89.cell? ⟨gb235, 2, none⟩ = some (.int .i64 0) := (blk_cell BK235.out 2).trans rfl; have hcz91_3 : w89.cell? ⟨gb235, 3, none⟩ = some (.int .i64 0) := (blk_cell BK235.out 3).trans rfl; have hcz91_4 : w89.cell? ⟨gb235, 4, none⟩ = some (.int .i64 0) := (blk_cell BK235.out 4).trans rfl; have hcz91_5 : w89.cell? ⟨gb235, 5, none⟩ = some (.int .i64 0) := (blk_cell BK235.out 5).trans rfl; have hcz91_6 : w89.cell? ⟨gb235, 6, none⟩ = some (.int .u16 0) := (blk_cell BK235.out 6).trans rfl; have hfz91_0 := blk_frozen BK235.out 0; have hfz91_1 := blk_frozen BK235.out 1; have hfz91_2 := blk_frozen BK235.out 2; have hfz91_3 := blk_frozen BK235.out 3; have hfz91_4 := blk_frozen BK235.out 4; have hfz91_5 := blk_frozen BK235.out 5; have hfz91_6 := blk_frozen BK235.out 6; have hcz92_0 : w89.cell? ⟨gb234, 0, none⟩ = some (.int .u32 0) := (blk_cell BK234.out 0).trans rfl; have hcz92_1 : w89.cell? ⟨gb234, 1, none⟩ = some (.int .i64 0) := (blk_cell BK234.out 1).trans rfl; have hcz92_2 : w89.cell? ⟨gb234, 2, none⟩ = some (.int .i64 0) := (blk_cell BK234.out 2).trans rfl; have hcz92_3 : w89.cell? ⟨gb234, 3, none⟩ = some (.int .i64 0) := (blk_cell BK234.out 3).trans rfl; have hcz92_4 : w89.cell? ⟨gb234, 4, none⟩ = some (.int .i64 0) := (blk_cell BK234.out 4).trans rfl; have hcz92_5 : w89.cell? ⟨gb234, 5, none⟩ = some (.int .i64 0) := (blk_cell BK234.out 5).trans rfl; have hcz92_6 : w89.cell? ⟨gb234, 6, none⟩ = some (.int .u16 0) := (blk_cell BK234.out 6).trans rfl; have hfz92_0 := blk_frozen BK234.out 0; have hfz92_1 := blk_frozen BK234.out 1; have hfz92_2 := blk_frozen BK234.out 2; have hfz92_3 := blk_frozen BK234.out 3; have hfz92_4 := blk_frozen BK234.out 4; have hfz92_5 := blk_frozen BK234.out 5; have hfz92_6 := blk_frozen BK234.out 6))
        refine bodyPost_ret (results_ct rfl _ _ gb234 31 #[.int .u32 0, .int .i64 0, .int .i64 0, .int .i64 0, .int .i64 0, .int .i64 0, .int .u16 0] (0, 0) _ rfl (by (with_reducible repeat (first | refine blk_drewN ?_ _ | refine blk_drew ?_ | refine blk_alloc ?_ _)); refine blk_put (cs := #[.int .u32 0, .int .i64 0, .int .i64 0, .int .i64 0, .int .i64 0, .int .i64 0, .int .u16 0]) ?_ 6 _ rfl; (with_reducible repeat (first | refine blk_drewN ?_ _ | refine blk_drew ?_ | refine blk_alloc ?_ _)); refine blk_put (cs := #[.int .u32 0, .int .i64 0, .int .i64 0, .int .i64 0, .int .i64 0, .int .i64 0, .int .u16 0]) ?_ 5 _ rfl; (with_reducible repeat (first | refine blk_drewN ?_ _ | refine blk_drew ?_ | refine blk_alloc ?_ _)); refine blk_put (cs := #[.int .u32 0, .int .i64 0, .int .i64 0, .int .i64 0, .int .i64 0, .int .i64 0, .int .u16 0]) ?_ 4 _ rfl; (with_reducible repeat (first | refine blk_drewN ?_ _ | refine blk_drew ?_ | refine blk_alloc ?_ _)); refine blk_put (cs := #[.int .u32 0, .int .i64 0, .int .i64 0, .int .i64 0, .int .i64 0, .int .i64 0, .int .u16 0]) ?_ 3 _ rfl; (with_reducible repeat (first | refine blk_drewN ?_ _ | refine blk_drew ?_ | refine blk_alloc ?_ _)); refine blk_put (cs := #[.int .u32 0, .int .i64 0, .int .i64 0, .int .i64 0, .int .i64 0, .int .i64 0, .int .u16 0]) ?_ 2 _ rfl; (with_reducible repeat (first | refine blk_drewN ?_ _ | refine blk_drew ?_ | refine blk_alloc ?_ _)); refine blk_put (cs := #[.int .u32 0, .int .i64 0, .int .i64 0, .int .i64 0, .int .i64 0, .int .i64 0, .int .u16 0]) ?_ 1 _ rfl; (with_reducible repeat (first | refine blk_drewN ?_ _ | refine blk_drew ?_ | refine blk_alloc ?_ _)); refine blk_put (cs := #[.int .u32 0, .int .i64 0, .int .i64 0, .int .i64 0, .int .i64 0, .int .i64 0, .int .u16 0]) ?_ 0 _ rfl; (with_reducible repeat (first | refine blk_drewN ?_ _ | refine blk_drew ?_ | refine blk_alloc ?_ _)); exact BK234.out) Try.underlying31 rfl (by kernel_rfl)) rfl ?_
        exact ⟨by first | rfl | (simp [errW_none, errW_some] <;> rfl) | (simp [*, errW_none, errW_some] <;> rfl), by repeat (first | (with_reducible first | exact HB.out | apply below_alloc | apply pw_below_drewN | apply below_drew1 | refine below_set ?_ GE232.out | refine below_set ?_ GE233.out | refine below_set ?_ GE234.out | refine below_set ?_ GE235.out) | exact HB.out)⟩

end Go.Proofs.Ytdhejpjggmikiaa.L
