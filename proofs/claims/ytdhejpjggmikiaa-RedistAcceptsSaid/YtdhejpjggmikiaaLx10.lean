/- Printed by the session's own program out of the translation: for each Go function a Lean function with the same answers, and the proof that the code comes to them. No conditions. -/
import Derived.Test.YtdhejpjggmikiaaLx0
import Derived.Test.YtdhejpjggmikiaaLx8
import Derived.Test.YtdhejpjggmikiaaLx9
namespace Go.Proofs.Ytdhejpjggmikiaa.L
open Go.Proofs.YtdhejpjggmikiaaLab
open Go.RowKit Go.Proofs.YtdhejpjggmikiaaW.PrintWords Go.Proofs.YtdhejpjggmikiaaW.PrintLast Go.Proofs.YtdhejpjggmikiaaW.PrintMore
attribute [local go_sem] max2_int min2_int max_two min_two max_three min_three max_four min_four   -- for this text's walks alone
set_option linter.unusedVariables false
set_option linter.unusedSimpArgs false

/-! ### octroiref13_Permits: function 27 -/
def octroiref13_Permits.l0 : Nat → List (S61) → Int → Int → Int → Int → Option (Bool × Int)
 | 0, _, _, _, _, _ => none
 | k + 1, x0, x2, x8, x224000, x224001 => if x8 < (x0.length : Int) then (if 0 ≤ x8 then ((octroiref13_fits.f k ((rd_T61 x0 x8).f0) ((rd_T61 x0 x8).f1.f0) ((rd_T61 x0 x8).f1.f1) ((rd_T61 x0 x8).f2) ((rd_T61 x0 x8).f3) ((rd_T61 x0 x8).f4) ((rd_T61 x0 x8).f5) x224000 x224001 x2).bind fun t225 => (if t225 = true then (some ((rd_T61 x0 x8).f0, x8)) else (octroiref13_Permits.l0 k x0 x2 (wrap64 (x8 + 1)) x224000 x224001))) else (none)) else (some (false, (-1)))
def octroiref13_Permits.f (k : Nat) (l0 : List (S61)) (a1_0 : Int) (a1_1 : Int) (a2 : Int) : Option (Bool × Int) := octroiref13_Permits.l0 k l0 a2 0 a1_0 a1_1
theorem octroiref13_Permits.mono_l : ∀ k, (∀ y0 y1 y2 y3 y4, LeO (octroiref13_Permits.l0 k y0 y1 y2 y3 y4) (octroiref13_Permits.l0 (k + 1) y0 y1 y2 y3 y4))
 | 0 => fun _ _ _ _ _ r h => by simp [octroiref13_Permits.l0] at h
 | k + 1 => by
  have ih0 := octroiref13_Permits.mono_l k
  ·
   intro y0 y1 y2 y3 y4
   unfold octroiref13_Permits.l0
   repeat' first
   | (with_reducible exact ih0 _ _ _ _ _)
   | (with_reducible exact octroiref13_fits.mono _ _ _ _ _ _ _ _ _ _ _)
   | (with_reducible exact LeO.refl _)
   | (with_reducible exact LeO.none _)
   | (with_reducible refine LeO.ite ?_ ?_)
   | (with_reducible refine LeO.bind ?_ (fun _ => ?_))
   | exact ih0 _ _ _ _ _
   | exact octroiref13_fits.mono _ _ _ _ _ _ _ _ _ _ _
   | exact LeO.none _
   | refine LeO.ite ?_ ?_
   | refine LeO.bind ?_ (fun _ => ?_)
theorem octroiref13_Permits.mono : ∀ a0 a1 a2 a3 k, LeO (octroiref13_Permits.f k a0 a1 a2 a3) (octroiref13_Permits.f (k + 1) a0 a1 a2 a3) := by
 intro a0 a1 a2 a3 k
 have ih0 := octroiref13_Permits.mono_l k
 unfold octroiref13_Permits.f
 repeat' first
   | (with_reducible exact ih0 _ _ _ _ _)
   | (with_reducible exact octroiref13_fits.mono _ _ _ _ _ _ _ _ _ _ _)
   | (with_reducible exact LeO.refl _)
   | (with_reducible exact LeO.none _)
   | (with_reducible refine LeO.ite ?_ ?_)
   | (with_reducible refine LeO.bind ?_ (fun _ => ?_))
   | exact ih0 _ _ _ _ _
   | exact octroiref13_fits.mono _ _ _ _ _ _ _ _ _ _ _
   | exact LeO.none _
   | refine LeO.ite ?_ ?_
   | refine LeO.bind ?_ (fun _ => ?_)
def octroiref13_Permits.T4 : Bool × List (List Nat × List Nat) := (true, [([], []), ([], []), ([0, 1], [0, 1]), ([2], [2]), ([], []), ([], []), ([3, 4, 5], [3, 4, 5]), ([6, 6, 0, 1, 2, 3, 4, 5, 6], [6])])
def octroiref13_Permits.B4 : List Nat := [0, 0, 3, 7, 0, 0, 63, 127]
theorem octroiref13_Permits.tab4 : rtab .any (opsOf Try.f27 4) = octroiref13_Permits.T4 := by kernel_rfl
theorem octroiref13_Permits.bits4 : waitsOk octroiref13_Permits.T4.2 octroiref13_Permits.B4 = true := by kernel_rfl
set_option maxHeartbeats 8000000 in
set_option maxRecDepth 100000 in
theorem octroiref13_Permits.calls (k : Nat) (A0 : Option Addr) (c0 : Nat) (l0 : List (S61)) (a1_0 : Int) (a1_1 : Int) (a2 : Int) (r1 : Bool) (r2 : Int) (w : World) (hr0 : Kd.C k61 w A0 l0.length l0) (hc0 : l0.length ≤ c0) (h : octroiref13_Permits.f k l0 a1_0 a1_1 a2 = some (r1, r2)) :
  Calls Try.prog 27 #[.slice A0 l0.length c0, .agg #[.int .u32 a1_0, .int .i64 a1_1], .int .u16 a2] w fun e w' => e = .returned (.tuple #[.bool r1, .int .i64 r2]) ∧ Below w.heap.size w w' := by
 have hu28 := Try.underlying28
 have hu61 := Try.underlying61
 have HR0 := Aside0.mk hr0
 have HC0 := Aside0.mk hc0
 clear hr0 hc0
 have HB := Aside0.mk (Below.refl w.heap.size w)
 have H : (octroiref13_Permits.l0 k l0 a2 0 a1_0 a1_1) = some (r1, r2) := h
 clear h
 have H' := Aside0.mk H
 clear H
 go_enter Try.func27, Try.ntmps27
 go_wp2_with (first | ((with_reducible refine gate_dst (N := 4) rfl ?_); refine box_event ?hg (N := 4) ?hd (cs := #[.int .u32 a1_0, .int .i64 a1_1]) (t := 28) ?hr ?_; (case hd => rfl); (case hg => rfl); (case hr => first | (go_simp; done) | (go_simp; rfl)); intro gb223 hg w4 hbox hb; have n0_ := Aside0.mk (below_step (by repeat (first | (with_reducible first | exact HB.out | apply below_alloc | apply pw_below_drewN | apply below_drew1) | exact HB.out)) hb); have n1_ := Aside0.mk (hbox); have n2_ := Aside0.mk ((by rw [hg]; exact (below_size (by repeat (first | (with_reducible first | exact HB.out | apply below_alloc | apply pw_below_drewN | apply below_drew1) | exact HB.out))) : w.heap.size ≤ gb223)); have n3_ := Aside0.mk ((by rw [hg]; exact (below_size (by repeat (first | (with_reducible first | exact HB.out | apply below_alloc | apply pw_below_drewN | apply below_drew1) | exact HB.out))) : w.heap.size ≤ gb223)); clear HB; have HB := n0_; have BK223 := n1_; have GW223 := n2_; have GE223 := n3_; clear n0_ n1_ n2_ n3_; clear hb hbox hg))
 go_loopg [8] k (fun kq v8 w' => ∃ (x8_1 : Int), v8 = .int .i64 x8_1 ∧ Aside0 (octroiref13_Permits.l0 kq l0 a2 x8_1 a1_0 a1_1 = some (r1, r2)) ∧ Aside0 (kq ≤ k) ∧ Aside0 (w'.heap[gb223]? = some (.cells #[.int .u32 a1_0, .int .i64 a1_1] 28 (0, 0))) ∧ Aside0 (Below w.heap.size w w'))
 case atStart => exact ⟨(0), (by first | rfl | (simp; done) | (simp [*]; done)), H', ⟨Nat.le_refl _⟩, ⟨by (with_reducible repeat (first | refine blk_drewN ?_ _ | refine blk_drew ?_ | refine blk_alloc ?_ _)); exact BK223.out⟩, ⟨by repeat (first | (with_reducible first | exact HB.out | apply below_alloc | apply pw_below_drewN | apply below_drew1 | refine below_set ?_ GE223.out) | exact HB.out)⟩⟩
 case round =>
  clear H'
  try clear c2
  try clear p2
  obtain ⟨x8_1, rfl, HA, HK1, BK223, HB⟩ := hrel
  cases gk with
  | zero => exact absurd HA.out (by simp [octroiref13_Permits.l0])
  | succ k1 =>
   have H := HA.out
   clear HA
   simp only [octroiref13_Permits.l0] at H
   by_cases c5 : x8_1 < (l0.length : Int)
   ·
    rw [if_pos c5] at H
    have c5b0 : decide (x8_1 < (l0.length : Int)) = true := decide_eq_true c5
    clear c5
    by_cases c6 : 0 ≤ x8_1
    ·
     rw [if_pos c6] at H
     have c6b0 : decide (0 ≤ x8_1) = true := decide_eq_true c6
     clear c6
     replace H := Option.bind_eq_some_iff.mp H
     obtain ⟨t225, A70, H⟩ := H
     replace H : (if t225 = true then (some ((rd_T61 l0 x8_1).f0, x8_1)) else (octroiref13_Permits.l0 k1 l0 a2 (wrap64 (x8_1 + 1)) a1_0 a1_1)) = some (r1, r2) := H
     have A7 := Aside0.mk A70
     clear A70
     by_cases c8 : t225 = true
     ·
      subst c8
      have H1 : (some ((rd_T61 l0 x8_1).f0, x8_1)) = some (r1, r2) := by rw [if_pos rfl] at H; exact H
      clear H
      have H := H1
      clear H1
      simp only [Option.some.injEq, Prod.mk.injEq] at H
      obtain ⟨rfl, rfl⟩ := H
      try go_wp2
      have n0_ := Aside0.mk (blk_drew BK223.out)
      have n1_ := Aside0.mk (below_drew1 HB.out)
      clear BK223
      clear HB
      have BK223 := n0_
      have HB := n1_
      clear n0_ n1_
      have p224 : 0 ≤ (x8_1 : Int) := of_decide_eq_true (by first | (with_reducible assumption) | assumption)
      have q224 : x8_1 < (l0.length : Int) := of_decide_eq_true (by first | (with_reducible assumption) | assumption)
      obtain ⟨ad224, e224, hx224_0, hx224_1, hx224_2, hx224_3, hx224_4, hx224_5, hx224_6⟩ := at_T61 HR0.out x8_1 p224 q224
      have hw224_6 := hx224_6
      have hw224_5 := hx224_5
      have hw224_4 := hx224_4
      have hw224_3 := hx224_3
      have hw224_2 := hx224_2
      have hw224_1 := hx224_1
      have hw224_0 := hx224_0
      cases e224
      replace hx224_0 := (HB.out.cell (World.block_lt_of_cell? w _ hx224_0)).trans hx224_0
      replace hx224_1 := (HB.out.cell (World.block_lt_of_cell? w _ hx224_1)).trans hx224_1
      replace hx224_2 := (HB.out.cell (World.block_lt_of_cell? w _ hx224_2)).trans hx224_2
      replace hx224_3 := (HB.out.cell (World.block_lt_of_cell? w _ hx224_3)).trans hx224_3
      replace hx224_4 := (HB.out.cell (World.block_lt_of_cell? w _ hx224_4)).trans hx224_4
      replace hx224_5 := (HB.out.cell (World.block_lt_of_cell? w _ hx224_5)).trans hx224_5
      replace hx224_6 := (HB.out.cell (World.block_lt_of_cell? w _ hx224_6)).trans hx224_6
      replace p224 := eq_true p224
      replace q224 := eq_true q224
      refine start_ (n := 8) (S := fun w' => w'.cell? ⟨gb223, 0, none⟩ = some (.int .u32 a1_0) ∧ w'.cell? ⟨gb223, 1, none⟩ = some (.int .i64 a1_1) ∧ w'.cell? (ad224.add ((x8_1).toNat * 7)) = some (.bool ((rd_T61 l0 x8_1).f0)) ∧ w'.cell? ⟨(ad224.add ((x8_1).toNat * 7)).block, (ad224.add ((x8_1).toNat * 7)).off + 1, none⟩ = some (.int .u32 ((rd_T61 l0 x8_1).f1.f0)) ∧ w'.cell? ⟨(ad224.add ((x8_1).toNat * 7)).block, (ad224.add ((x8_1).toNat * 7)).off + 2, none⟩ = some (.int .i64 ((rd_T61 l0 x8_1).f1.f1)) ∧ w'.cell? ⟨(ad224.add ((x8_1).toNat * 7)).block, (ad224.add ((x8_1).toNat * 7)).off + 3, none⟩ = some (.int .i64 ((rd_T61 l0 x8_1).f2)) ∧ w'.cell? ⟨(ad224.add ((x8_1).toNat * 7)).block, (ad224.add ((x8_1).toNat * 7)).off + 4, none⟩ = some (.int .i64 ((rd_T61 l0 x8_1).f3)) ∧ w'.cell? ⟨(ad224.add ((x8_1).toNat * 7)).block, (ad224.add ((x8_1).toNat * 7)).off + 5, none⟩ = some (.int .u16 ((rd_T61 l0 x8_1).f4)) ∧ w'.cell? ⟨(ad224.add ((x8_1).toNat * 7)).block, (ad224.add ((x8_1).toNat * 7)).off + 6, none⟩ = some (.int .u16 ((rd_T61 l0 x8_1).f5))) (ds := []) #[false, false, false, false, false, false, false, false] (by kernel_rfl) rfl rfl ⟨(blk_cell BK223.out 0).trans rfl, (blk_cell BK223.out 1).trans rfl, ((HB.out.cell (World.block_lt_of_cell? w _ hw224_0)).trans hw224_0), ((HB.out.cell (World.block_lt_of_cell? w _ hw224_1)).trans hw224_1), ((HB.out.cell (World.block_lt_of_cell? w _ hw224_2)).trans hw224_2), ((HB.out.cell (World.block_lt_of_cell? w _ hw224_3)).trans hw224_3), ((HB.out.cell (World.block_lt_of_cell? w _ hw224_4)).trans hw224_4), ((HB.out.cell (World.block_lt_of_cell? w _ hw224_5)).trans hw224_5), ((HB.out.cell (World.block_lt_of_cell? w _ hw224_6)).trans hw224_6)⟩ (fun hHeld => ?_); refine with_tabW octroiref13_Permits.tab4 octroiref13_Permits.bits4 (fun HT_ HW_ => ?_)
      generalize wr.drew = w9 at BK223 HB hx224_0 hx224_1 hx224_2 hx224_3 hx224_4 hx224_5 hx224_6 hHeld ⊢
      refine pure_ (i := 0) (N := some 16) (v := ?_) (a' := ?_) #[true, false, false, false, false, false, false, false] rfl rfl (any_of HT_.out (by kernel_rfl)) (fun _ _ _ h => h) (Or.inl ⟨by rfl, ?_⟩) ?_ ?_
      rotate_left
      ·
       intro w'
       go_simp
       with_reducible rfl
      rotate_left
      ·
       simp only [Act.put, List.setIfInBounds_toArray, List.set_cons_zero, List.set_cons_succ, i64_w, i32_w]
       rfl
      refine pure_ (i := 1) (N := some 17) (v := ?_) (a' := ?_) #[true, true, false, false, false, false, false, false] rfl rfl (any_of HT_.out (by kernel_rfl)) (fun _ _ _ h => h) (Or.inl ⟨by rfl, ?_⟩) ?_ ?_
      rotate_left
      ·
       intro w'
       go_simp
       with_reducible rfl
      rotate_left
      ·
       simp only [Act.put, List.setIfInBounds_toArray, List.set_cons_zero, List.set_cons_succ, i64_w, i32_w]
       rfl
      refine pure_ (i := 2) (N := some 18) (v := ?_) (a' := ?_) #[true, true, true, false, false, false, false, false] rfl rfl (any_of HT_.out (by kernel_rfl)) (fun _ _ _ h => h) (Or.inl ⟨by rfl, ?_⟩) ?_ ?_
      rotate_left
      ·
       intro w'
       go_simp
       with_reducible rfl
      rotate_left
      ·
       simp only [Act.put, List.setIfInBounds_toArray, List.set_cons_zero, List.set_cons_succ, i64_w, i32_w]
       rfl
      refine pure_ (i := 5) (N := some 21) (v := ?_) (a' := ?_) #[true, true, true, false, false, true, false, false] rfl rfl (any_of HT_.out (by kernel_rfl)) (fun _ _ _ h => h) (Or.inl ⟨by rfl, ?_⟩) ?_ ?_
      rotate_left
      ·
       intro w'
       go_simp
       with_reducible rfl
      rotate_left
      ·
       simp only [Act.put, List.setIfInBounds_toArray, List.set_cons_zero, List.set_cons_succ, i64_w, i32_w]
       rfl
      refine take_ (i := 3) (N := some 19) (v := ?_) (a' := ?_) #[true, true, true, true, false, true, false, false] rfl rfl (take_ofW HT_.out HW_.out (by kernel_rfl)) (fun _ _ _ h => h) (Or.inl ⟨by rfl, ?_⟩) hHeld ?_ ?_
      rotate_left
      ·
       rintro w' ⟨s0, s1, s2, s3, s4, s5, s6, s7, s8⟩
       go_simp
       with_reducible rfl
      rotate_left
      ·
       simp only [Act.put, List.setIfInBounds_toArray, List.set_cons_zero, List.set_cons_succ, i64_w, i32_w]
       rfl
      refine take_ (i := 4) (N := some 20) (v := ?_) (a' := ?_) #[true, true, true, true, true, true, false, false] rfl rfl (take_ofW HT_.out HW_.out (by kernel_rfl)) (fun _ _ _ h => h) (Or.inl ⟨by rfl, ?_⟩) hHeld ?_ ?_
      rotate_left
      ·
       rintro w' ⟨s0, s1, s2, s3, s4, s5, s6, s7, s8⟩
       go_simp
       with_reducible rfl
      rotate_left
      ·
       simp only [Act.put, List.setIfInBounds_toArray, List.set_cons_zero, List.set_cons_succ, i64_w, i32_w]
       rfl
      refine one_ (i := 6) (N := some 22) #[true, true, true, true, true, true, true, false] rfl rfl (one_of HT_.out (by kernel_rfl)) (by decide) (fun K hK => ?_)
      refine goes_ Try.func41 (by kernel_rfl) rfl #[.agg #[.bool ((rd_T61 l0 x8_1).f0), .int .u32 ((rd_T61 l0 x8_1).f1.f0), .int .i64 ((rd_T61 l0 x8_1).f1.f1), .int .i64 ((rd_T61 l0 x8_1).f2), .int .i64 ((rd_T61 l0 x8_1).f3), .int .u16 ((rd_T61 l0 x8_1).f4), .int .u16 ((rd_T61 l0 x8_1).f5)], .agg #[.int .u32 a1_0, .int .i64 a1_1], .int .u16 a2] (by rfl) rfl rfl (by (try simp only [List.map_toArray, List.map_cons, List.map_nil]); first | done | rfl | (simp only [List.length_drop, List.length_take]; rfl)) ?_
      with_reducible refine (octroiref13_fits.calls k1 ((rd_T61 l0 x8_1).f0) ((rd_T61 l0 x8_1).f1.f0) ((rd_T61 l0 x8_1).f1.f1) ((rd_T61 l0 x8_1).f2) ((rd_T61 l0 x8_1).f3) ((rd_T61 l0 x8_1).f4) ((rd_T61 l0 x8_1).f5) a1_0 a1_1 a2 true _ A7.out).mono ?_
      rintro e w10 ⟨rfl, hb⟩
      refine ⟨_, rfl, ?_⟩
      have n0_ := Aside0.mk (blk_below (g := gb223) (o := .cells #[.int .u32 a1_0, .int .i64 a1_1] 28 (0, 0)) (by (with_reducible repeat (first | refine blk_drewN ?_ _ | refine blk_drew ?_ | refine blk_alloc ?_ _)); exact BK223.out) hb)
      have n1_ := Aside0.mk (below_step (by repeat (first | (with_reducible first | exact HB.out | apply below_alloc | apply pw_below_drewN | apply below_drew1 | refine below_set ?_ GE223.out) | exact HB.out)) hb)
      clear BK223
      clear HB
      have BK223 := n0_
      have HB := n1_
      clear n0_ n1_
      (try clear hb)
      (try clear hb2)
      (try clear hk)
      (try clear hi)
      refine hK.out _ _ ⟨(blk_cell BK223.out 0).trans rfl, (blk_cell BK223.out 1).trans rfl, ((HB.out.cell (World.block_lt_of_cell? w _ hw224_0)).trans hw224_0), ((HB.out.cell (World.block_lt_of_cell? w _ hw224_1)).trans hw224_1), ((HB.out.cell (World.block_lt_of_cell? w _ hw224_2)).trans hw224_2), ((HB.out.cell (World.block_lt_of_cell? w _ hw224_3)).trans hw224_3), ((HB.out.cell (World.block_lt_of_cell? w _ hw224_4)).trans hw224_4), ((HB.out.cell (World.block_lt_of_cell? w _ hw224_5)).trans hw224_5), ((HB.out.cell (World.block_lt_of_cell? w _ hw224_6)).trans hw224_6)⟩ (fun hHeld => ?_)
      clear hK K
      refine norm_ (a' := ?_) ?_ ?_
      rotate_left
      ·
       show Act.put _ (some 22) _ = _
       simp only [Act.put, List.setIfInBounds_toArray, List.set_cons_zero, List.set_cons_succ, i64_w, i32_w]
       rfl
      refine pure_ (i := 7) (N := some 9) (v := ?_) (a' := ?_) #[true, true, true, true, true, true, true, true] rfl rfl (any_of HT_.out (by kernel_rfl)) (fun _ _ _ h => h) (Or.inl ⟨by rfl, ?_⟩) ?_ ?_
      rotate_left
      ·
       intro w'
       go_simp
       with_reducible rfl
      rotate_left
      ·
       simp only [Act.put, List.setIfInBounds_toArray, List.set_cons_zero, List.set_cons_succ, i64_w, i32_w]
       rfl
      refine done_ (done_of HT_.out (by kernel_rfl)) ?_
      have p226 : 0 ≤ (x8_1 : Int) := of_decide_eq_true (by first | (with_reducible assumption) | assumption)
      have q226 : x8_1 < (l0.length : Int) := of_decide_eq_true (by first | (with_reducible assumption) | assumption)
      obtain ⟨ad226, e226, hx226_0, hx226_1, hx226_2, hx226_3, hx226_4, hx226_5, hx226_6⟩ := at_T61 HR0.out x8_1 p226 q226
      obtain rfl : ad224 = ad226 := (by injection e226)
      replace hx226_0 := (HB.out.cell (World.block_lt_of_cell? w _ hx226_0)).trans hx226_0
      replace hx226_1 := (HB.out.cell (World.block_lt_of_cell? w _ hx226_1)).trans hx226_1
      replace hx226_2 := (HB.out.cell (World.block_lt_of_cell? w _ hx226_2)).trans hx226_2
      replace hx226_3 := (HB.out.cell (World.block_lt_of_cell? w _ hx226_3)).trans hx226_3
      replace hx226_4 := (HB.out.cell (World.block_lt_of_cell? w _ hx226_4)).trans hx226_4
      replace hx226_5 := (HB.out.cell (World.block_lt_of_cell? w _ hx226_5)).trans hx226_5
      replace hx226_6 := (HB.out.cell (World.block_lt_of_cell? w _ hx226_6)).trans hx226_6
      replace p226 := eq_true p226
      replace q226 := eq_true q226
      try go_wp2
      go_ret2
      exact ⟨by first | rfl | (simp [errW_none, errW_some] <;> rfl) | (simp [*, errW_none, errW_some] <;> rfl), by repeat (first | (with_reducible first | exact HB.out | apply below_alloc | apply pw_below_drewN | apply below_drew1 | refine below_set ?_ GE223.out) | exact HB.out)⟩
     ·
      replace c8 := Bool.eq_false_iff.mpr c8
      subst c8
      have H1 : (octroiref13_Permits.l0 k1 l0 a2 (wrap64 (x8_1 + 1)) a1_0 a1_1) = some (r1, r2) := by rw [if_neg (show ¬ (false = true) by decide)] at H; exact H
      clear H
      have H := H1
      clear H1
      have H' := Aside0.mk H
      clear H
      try go_wp2
      have n0_ := Aside0.mk (blk_drew BK223.out)
      have n1_ := Aside0.mk (below_drew1 HB.out)
      clear BK223
      clear HB
      have BK223 := n0_
      have HB := n1_
      clear n0_ n1_
      have p224 : 0 ≤ (x8_1 : Int) := of_decide_eq_true (by first | (with_reducible assumption) | assumption)
      have q224 : x8_1 < (l0.length : Int) := of_decide_eq_true (by first | (with_reducible assumption) | assumption)
      obtain ⟨ad224, e224, hx224_0, hx224_1, hx224_2, hx224_3, hx224_4, hx224_5, hx224_6⟩ := at_T61 HR0.out x8_1 p224 q224
      have hw224_6 := hx224_6
      have hw224_5 := hx224_5
      have hw224_4 := hx224_4
      have hw224_3 := hx224_3
      have hw224_2 := hx224_2
      have hw224_1 := hx224_1
      have hw224_0 := hx224_0
      cases e224
      replace hx224_0 := (HB.out.cell (World.block_lt_of_cell? w _ hx224_0)).trans hx224_0
      replace hx224_1 := (HB.out.cell (World.block_lt_of_cell? w _ hx224_1)).trans hx224_1
      replace hx224_2 := (HB.out.cell (World.block_lt_of_cell? w _ hx224_2)).trans hx224_2
      replace hx224_3 := (HB.out.cell (World.block_lt_of_cell? w _ hx224_3)).trans hx224_3
      replace hx224_4 := (HB.out.cell (World.block_lt_of_cell? w _ hx224_4)).trans hx224_4
      replace hx224_5 := (HB.out.cell (World.block_lt_of_cell? w _ hx224_5)).trans hx224_5
      replace hx224_6 := (HB.out.cell (World.block_lt_of_cell? w _ hx224_6)).trans hx224_6
      replace p224 := eq_true p224
      replace q224 := eq_true q224
      refine start_ (n := 8) (S := fun w' => w'.cell? ⟨gb223, 0, none⟩ = some (.int .u32 a1_0) ∧ w'.cell? ⟨gb223, 1, none⟩ = some (.int .i64 a1_1) ∧ w'.cell? (ad224.add ((x8_1).toNat * 7)) = some (.bool ((rd_T61 l0 x8_1).f0)) ∧ w'.cell? ⟨(ad224.add ((x8_1).toNat * 7)).block, (ad224.add ((x8_1).toNat * 7)).off + 1, none⟩ = some (.int .u32 ((rd_T61 l0 x8_1).f1.f0)) ∧ w'.cell? ⟨(ad224.add ((x8_1).toNat * 7)).block, (ad224.add ((x8_1).toNat * 7)).off + 2, none⟩ = some (.int .i64 ((rd_T61 l0 x8_1).f1.f1)) ∧ w'.cell? ⟨(ad224.add ((x8_1).toNat * 7)).block, (ad224.add ((x8_1).toNat * 7)).off + 3, none⟩ = some (.int .i64 ((rd_T61 l0 x8_1).f2)) ∧ w'.cell? ⟨(ad224.add ((x8_1).toNat * 7)).block, (ad224.add ((x8_1).toNat * 7)).off + 4, none⟩ = some (.int .i64 ((rd_T61 l0 x8_1).f3)) ∧ w'.cell? ⟨(ad224.add ((x8_1).toNat * 7)).block, (ad224.add ((x8_1).toNat * 7)).off + 5, none⟩ = some (.int .u16 ((rd_T61 l0 x8_1).f4)) ∧ w'.cell? ⟨(ad224.add ((x8_1).toNat * 7)).block, (ad224.add ((x8_1).toNat * 7)).off + 6, none⟩ = some (.int .u16 ((rd_T61 l0 x8_1).f5))) (ds := []) #[false, false, false, false, false, false, false, false] (by kernel_rfl) rfl rfl ⟨(blk_cell BK223.out 0).trans rfl, (blk_cell BK223.out 1).trans rfl, ((HB.out.cell (World.block_lt_of_cell? w _ hw224_0)).trans hw224_0), ((HB.out.cell (World.block_lt_of_cell? w _ hw224_1)).trans hw224_1), ((HB.out.cell (World.block_lt_of_cell? w _ hw224_2)).trans hw224_2), ((HB.out.cell (World.block_lt_of_cell? w _ hw224_3)).trans hw224_3), ((HB.out.cell (World.block_lt_of_cell? w _ hw224_4)).trans hw224_4), ((HB.out.cell (World.block_lt_of_cell? w _ hw224_5)).trans hw224_5), ((HB.out.cell (World.block_lt_of_cell? w _ hw224_6)).trans hw224_6)⟩ (fun hHeld => ?_); refine with_tabW octroiref13_Permits.tab4 octroiref13_Permits.bits4 (fun HT_ HW_ => ?_)
      generalize wr.drew = w11 at BK223 HB hx224_0 hx224_1 hx224_2 hx224_3 hx224_4 hx224_5 hx224_6 hHeld ⊢
      refine pure_ (i := 0) (N := some 16) (v := ?_) (a' := ?_) #[true, false, false, false, false, false, false, false] rfl rfl (any_of HT_.out (by kernel_rfl)) (fun _ _ _ h => h) (Or.inl ⟨by rfl, ?_⟩) ?_ ?_
      rotate_left
      ·
       intro w'
       go_simp
       with_reducible rfl
      rotate_left
      ·
       simp only [Act.put, List.setIfInBounds_toArray, List.set_cons_zero, List.set_cons_succ, i64_w, i32_w]
       rfl
      refine pure_ (i := 1) (N := some 17) (v := ?_) (a' := ?_) #[true, true, false, false, false, false, false, false] rfl rfl (any_of HT_.out (by kernel_rfl)) (fun _ _ _ h => h) (Or.inl ⟨by rfl, ?_⟩) ?_ ?_
      rotate_left
      ·
       intro w'
       go_simp
       with_reducible rfl
      rotate_left
      ·
       simp only [Act.put, List.setIfInBounds_toArray, List.set_cons_zero, List.set_cons_succ, i64_w, i32_w]
       rfl
      refine pure_ (i := 2) (N := some 18) (v := ?_) (a' := ?_) #[true, true, true, false, false, false, false, false] rfl rfl (any_of HT_.out (by kernel_rfl)) (fun _ _ _ h => h) (Or.inl ⟨by rfl, ?_⟩) ?_ ?_
      rotate_left
      ·
       intro w'
       go_simp
       with_reducible rfl
      rotate_left
      ·
       simp only [Act.put, List.setIfInBounds_toArray, List.set_cons_zero, List.set_cons_succ, i64_w, i32_w]
       rfl
      refine pure_ (i := 5) (N := some 21) (v := ?_) (a' := ?_) #[true, true, true, false, false, true, false, false] rfl rfl (any_of HT_.out (by kernel_rfl)) (fun _ _ _ h => h) (Or.inl ⟨by rfl, ?_⟩) ?_ ?_
      rotate_left
      ·
       intro w'
       go_simp
       with_reducible rfl
      rotate_left
      ·
       simp only [Act.put, List.setIfInBounds_toArray, List.set_cons_zero, List.set_cons_succ, i64_w, i32_w]
       rfl
      refine take_ (i := 3) (N := some 19) (v := ?_) (a' := ?_) #[true, true, true, true, false, true, false, false] rfl rfl (take_ofW HT_.out HW_.out (by kernel_rfl)) (fun _ _ _ h => h) (Or.inl ⟨by rfl, ?_⟩) hHeld ?_ ?_
      rotate_left
      ·
       rintro w' ⟨s0, s1, s2, s3, s4, s5, s6, s7, s8⟩
       go_simp
       with_reducible rfl
      rotate_left
      ·
       simp only [Act.put, List.setIfInBounds_toArray, List.set_cons_zero, List.set_cons_succ, i64_w, i32_w]
       rfl
      refine take_ (i := 4) (N := some 20) (v := ?_) (a' := ?_) #[true, true, true, true, true, true, false, false] rfl rfl (take_ofW HT_.out HW_.out (by kernel_rfl)) (fun _ _ _ h => h) (Or.inl ⟨by rfl, ?_⟩) hHeld ?_ ?_
      rotate_left
      ·
       rintro w' ⟨s0, s1, s2, s3, s4, s5, s6, s7, s8⟩
       go_simp
       with_reducible rfl
      rotate_left
      ·
       simp only [Act.put, List.setIfInBounds_toArray, List.set_cons_zero, List.set_cons_succ, i64_w, i32_w]
       rfl
      refine one_ (i := 6) (N := some 22) #[true, true, true, true, true, true, true, false] rfl rfl (one_of HT_.out (by kernel_rfl)) (by decide) (fun K hK => ?_)
      refine goes_ Try.func41 (by kernel_rfl) rfl #[.agg #[.bool ((rd_T61 l0 x8_1).f0), .int .u32 ((rd_T61 l0 x8_1).f1.f0), .int .i64 ((rd_T61 l0 x8_1).f1.f1), .int .i64 ((rd_T61 l0 x8_1).f2), .int .i64 ((rd_T61 l0 x8_1).f3), .int .u16 ((rd_T61 l0 x8_1).f4), .int .u16 ((rd_T61 l0 x8_1).f5)], .agg #[.int .u32 a1_0, .int .i64 a1_1], .int .u16 a2] (by rfl) rfl rfl (by (try simp only [List.map_toArray, List.map_cons, List.map_nil]); first | done | rfl | (simp only [List.length_drop, List.length_take]; rfl)) ?_
      with_reducible refine (octroiref13_fits.calls k1 ((rd_T61 l0 x8_1).f0) ((rd_T61 l0 x8_1).f1.f0) ((rd_T61 l0 x8_1).f1.f1) ((rd_T61 l0 x8_1).f2) ((rd_T61 l0 x8_1).f3) ((rd_T61 l0 x8_1).f4) ((rd_T61 l0 x8_1).f5) a1_0 a1_1 a2 false _ A7.out).mono ?_
      rintro e w12 ⟨rfl, hb⟩
      refine ⟨_, rfl, ?_⟩
      have n0_ := Aside0.mk (blk_below (g := gb223) (o := .cells #[.int .u32 a1_0, .int .i64 a1_1] 28 (0, 0)) (by (with_reducible repeat (first | refine blk_drewN ?_ _ | refine blk_drew ?_ | refine blk_alloc ?_ _)); exact BK223.out) hb)
      have n1_ := Aside0.mk (below_step (by repeat (first | (with_reducible first | exact HB.out | apply below_alloc | apply pw_below_drewN | apply below_drew1 | refine below_set ?_ GE223.out) | exact HB.out)) hb)
      clear BK223
      clear HB
      have BK223 := n0_
      have HB := n1_
      clear n0_ n1_
      (try clear hb)
      (try clear hb2)
      (try clear hk)
      (try clear hi)
      refine hK.out _ _ ⟨(blk_cell BK223.out 0).trans rfl, (blk_cell BK223.out 1).trans rfl, ((HB.out.cell (World.block_lt_of_cell? w _ hw224_0)).trans hw224_0), ((HB.out.cell (World.block_lt_of_cell? w _ hw224_1)).trans hw224_1), ((HB.out.cell (World.block_lt_of_cell? w _ hw224_2)).trans hw224_2), ((HB.out.cell (World.block_lt_of_cell? w _ hw224_3)).trans hw224_3), ((HB.out.cell (World.block_lt_of_cell? w _ hw224_4)).trans hw224_4), ((HB.out.cell (World.block_lt_of_cell? w _ hw224_5)).trans hw224_5), ((HB.out.cell (World.block_lt_of_cell? w _ hw224_6)).trans hw224_6)⟩ (fun hHeld => ?_)
      clear hK K
      refine norm_ (a' := ?_) ?_ ?_
      rotate_left
      ·
       show Act.put _ (some 22) _ = _
       simp only [Act.put, List.setIfInBounds_toArray, List.set_cons_zero, List.set_cons_succ, i64_w, i32_w]
       rfl
      refine pure_ (i := 7) (N := some 9) (v := ?_) (a' := ?_) #[true, true, true, true, true, true, true, true] rfl rfl (any_of HT_.out (by kernel_rfl)) (fun _ _ _ h => h) (Or.inl ⟨by rfl, ?_⟩) ?_ ?_
      rotate_left
      ·
       intro w'
       go_simp
       with_reducible rfl
      rotate_left
      ·
       simp only [Act.put, List.setIfInBounds_toArray, List.set_cons_zero, List.set_cons_succ, i64_w, i32_w]
       rfl
      refine done_ (done_of HT_.out (by kernel_rfl)) ?_
      try go_wp2
      go_roundg k1
      case measure => have := HK1.out; omega
      case rel => exact ⟨(wrap64 (x8_1 + 1)), (by first | rfl | (simp; done) | (simp [*]; done)), H', ⟨by have := HK1.out; omega⟩, ⟨by (with_reducible repeat (first | refine blk_drewN ?_ _ | refine blk_drew ?_ | refine blk_alloc ?_ _)); exact BK223.out⟩, ⟨by repeat (first | (with_reducible first | exact HB.out | apply below_alloc | apply pw_below_drewN | apply below_drew1 | refine below_set ?_ GE223.out) | exact HB.out)⟩⟩
    ·
     rw [if_neg c6] at H
     exact absurd H (by simp)
   ·
    rw [if_neg c5] at H
    have c5b0 : decide (x8_1 < (l0.length : Int)) = false := decide_eq_false c5
    clear c5
    simp only [Option.some.injEq, Prod.mk.injEq] at H
    obtain ⟨rfl, rfl⟩ := H
    go_wp2
    go_ret2
    exact ⟨by first | rfl | (simp [errW_none, errW_some] <;> rfl) | (simp [*, errW_none, errW_some] <;> rfl), by repeat (first | (with_reducible first | exact HB.out | apply below_alloc | apply pw_below_drewN | apply below_drew1 | refine below_set ?_ GE223.out) | exact HB.out)⟩

/-! ### octroiref14_To: function 28 -/
def octroiref14_To.l0 : Nat → List (S64) → Int → Int → Int → Option (Int × Bool)
 | 0, _, _, _, _ => none
 | k + 1, x0, x1, x2, x8 => if x8 < (x0.length : Int) then (if 0 ≤ x8 then (if ((rd_T64 x0 x8).f0) ≥ x2 then (some ((rd_T64 x0 x8).f1, true)) else (octroiref14_To.l0 k x0 x1 x2 (wrap64 (x8 + 1)))) else (none)) else (if x1 < 1 then (some (0, false)) else (if x1 ≥ 4294967295 then (some (0, false)) else (some (x1, true))))
def octroiref14_To.f (k : Nat) (l0 : List (S64)) (a1 : Int) (a2 : Int) : Option (Int × Bool) := if a2 < 0 then (some (0, false)) else (octroiref14_To.l0 k l0 a1 a2 0)
theorem octroiref14_To.mono_l : ∀ k, (∀ y0 y1 y2 y3, LeO (octroiref14_To.l0 k y0 y1 y2 y3) (octroiref14_To.l0 (k + 1) y0 y1 y2 y3))
 | 0 => fun _ _ _ _ r h => by simp [octroiref14_To.l0] at h
 | k + 1 => by
  have ih0 := octroiref14_To.mono_l k
  ·
   intro y0 y1 y2 y3
   unfold octroiref14_To.l0
   repeat' first
   | (with_reducible exact ih0 _ _ _ _)
   | (with_reducible exact LeO.refl _)
   | (with_reducible exact LeO.none _)
   | (with_reducible refine LeO.ite ?_ ?_)
   | (with_reducible refine LeO.bind ?_ (fun _ => ?_))
   | exact ih0 _ _ _ _
   | exact LeO.none _
   | refine LeO.ite ?_ ?_
   | refine LeO.bind ?_ (fun _ => ?_)
theorem octroiref14_To.mono : ∀ a0 a1 a2 k, LeO (octroiref14_To.f k a0 a1 a2) (octroiref14_To.f (k + 1) a0 a1 a2) := by
 intro a0 a1 a2 k
 have ih0 := octroiref14_To.mono_l k
 unfold octroiref14_To.f
 repeat' first
   | (with_reducible exact ih0 _ _ _ _)
   | (with_reducible exact LeO.refl _)
   | (with_reducible exact LeO.none _)
   | (with_reducible refine LeO.ite ?_ ?_)
   | (with_reducible refine LeO.bind ?_ (fun _ => ?_))
   | exact ih0 _ _ _ _
   | exact LeO.none _
   | refine LeO.ite ?_ ?_
   | refine LeO.bind ?_ (fun _ => ?_)
set_option maxHeartbeats 8000000 in
set_option maxRecDepth 100000 in
theorem octroiref14_To.calls (k : Nat) (A0 : Option Addr) (c0 : Nat) (l0 : List (S64)) (a1 : Int) (a2 : Int) (r1 : Int) (r2 : Bool) (w : World) (hr0 : Kd.C k64 w A0 l0.length l0) (hc0 : l0.length ≤ c0) (h : octroiref14_To.f k l0 a1 a2 = some (r1, r2)) :
  Calls Try.prog 28 #[.slice A0 l0.length c0, .int .i64 a1, .int .i64 a2] w fun e w' => e = .returned (.tuple #[.int .i64 r1, .bool r2]) ∧ Drawn0 w w' := by
 have HR0 := Aside0.mk hr0
 have HC0 := Aside0.mk hc0
 clear hr0 hc0
 have H : (if a2 < 0 then (some (0, false)) else (octroiref14_To.l0 k l0 a1 a2 0)) = some (r1, r2) := h
 clear h
 by_cases c4 : a2 < 0
 ·
  rw [if_pos c4] at H
  have c4b0 : decide (a2 < 0) = true := decide_eq_true c4
  clear c4
  simp only [Option.some.injEq, Prod.mk.injEq] at H
  obtain ⟨rfl, rfl⟩ := H
  go_enter Try.func28, Try.ntmps28
  go_wp2
  go_ret2
  exact ⟨by first | rfl | (simp; done) | (simp [*]; done), by repeat (first | exact Drawn0.refl _ | apply Drawn0.step)⟩
 ·
  rw [if_neg c4] at H
  have c4b0 : decide (a2 < 0) = false := decide_eq_false c4
  clear c4
  have H' := Aside0.mk H
  clear H
  go_enter Try.func28, Try.ntmps28
  go_wp2
  go_loopg [8] k (fun kq v8 w' => ∃ (x8_1 : Int), v8 = .int .i64 x8_1 ∧ Aside0 (octroiref14_To.l0 kq l0 a1 a2 x8_1 = some (r1, r2)) ∧ Aside0 (kq ≤ k) ∧ Drawn0 w w')
  case atStart => exact ⟨(0), (by first | rfl | (simp; done) | (simp [*]; done)), H', ⟨Nat.le_refl _⟩, by repeat (first | exact Drawn0.refl _ | apply Drawn0.step)⟩
  case round =>
   clear H'
   try clear c2
   try clear p2
   try clear c4
   try clear c4b0
   obtain ⟨x8_1, rfl, HA, HK1, ⟨m1, rfl⟩⟩ := hrel
   cases gk with
   | zero => exact absurd HA.out (by simp [octroiref14_To.l0])
   | succ k1 =>
    have H := HA.out
    clear HA
    simp only [octroiref14_To.l0] at H
    by_cases c5 : x8_1 < (l0.length : Int)
    ·
     rw [if_pos c5] at H
     have c5b0 : decide (x8_1 < (l0.length : Int)) = true := decide_eq_true c5
     clear c5
     by_cases c6 : 0 ≤ x8_1
     ·
      rw [if_pos c6] at H
      have c6b0 : decide (0 ≤ x8_1) = true := decide_eq_true c6
      clear c6
      by_cases c7 : ((rd_T64 l0 x8_1).f0) ≥ a2
      ·
       rw [if_pos c7] at H
       have c7b0 : decide (a2 ≤ ((rd_T64 l0 x8_1).f0)) = true := decide_eq_true c7
       clear c7
       simp only [Option.some.injEq, Prod.mk.injEq] at H
       obtain ⟨rfl, rfl⟩ := H
       have p227 : 0 ≤ (x8_1 : Int) := of_decide_eq_true (by first | (with_reducible assumption) | assumption)
       have q227 : x8_1 < (l0.length : Int) := of_decide_eq_true (by first | (with_reducible assumption) | assumption)
       obtain ⟨ad227, e227, hx227_0, hx227_1⟩ := at_T64 HR0.out x8_1 p227 q227
       cases e227
       replace p227 := eq_true p227
       replace q227 := eq_true q227
       have p228 : 0 ≤ (x8_1 : Int) := of_decide_eq_true (by first | (with_reducible assumption) | assumption)
       have q228 : x8_1 < (l0.length : Int) := of_decide_eq_true (by first | (with_reducible assumption) | assumption)
       obtain ⟨ad228, e228, hx228_0, hx228_1⟩ := at_T64 HR0.out x8_1 p228 q228
       obtain rfl : ad227 = ad228 := (by injection e228)
       replace p228 := eq_true p228
       replace q228 := eq_true q228
       go_wp2
       go_ret2
       exact ⟨by first | rfl | (simp; done) | (simp [*]; done), by repeat (first | exact Drawn0.refl _ | apply Drawn0.step)⟩
      ·
       rw [if_neg c7] at H
       have c7b0 : decide (a2 ≤ ((rd_T64 l0 x8_1).f0)) = false := decide_eq_false c7
       clear c7
       have H' := Aside0.mk H
       clear H
       have p227 : 0 ≤ (x8_1 : Int) := of_decide_eq_true (by first | (with_reducible assumption) | assumption)
       have q227 : x8_1 < (l0.length : Int) := of_decide_eq_true (by first | (with_reducible assumption) | assumption)
       obtain ⟨ad227, e227, hx227_0, hx227_1⟩ := at_T64 HR0.out x8_1 p227 q227
       cases e227
       replace p227 := eq_true p227
       replace q227 := eq_true q227
       go_wp2
       go_roundg k1
       case measure => have := HK1.out; omega
       case rel => exact ⟨(wrap64 (x8_1 + 1)), (by first | rfl | (simp; done) | (simp [*]; done)), H', ⟨by have := HK1.out; omega⟩, by repeat (first | exact Drawn0.refl _ | apply Drawn0.step)⟩
     ·
      rw [if_neg c6] at H
      exact absurd H (by simp)
    ·
     rw [if_neg c5] at H
     have c5b0 : decide (x8_1 < (l0.length : Int)) = false := decide_eq_false c5
     clear c5
     by_cases c8 : a1 < 1
     ·
      rw [if_pos c8] at H
      have c8b0 : decide (a1 < 1) = true := decide_eq_true c8
      clear c8
      simp only [Option.some.injEq, Prod.mk.injEq] at H
      obtain ⟨rfl, rfl⟩ := H
      go_wp2
      go_ret2
      exact ⟨by first | rfl | (simp; done) | (simp [*]; done), by repeat (first | exact Drawn0.refl _ | apply Drawn0.step)⟩
     ·
      rw [if_neg c8] at H
      have c8b0 : decide (a1 < 1) = false := decide_eq_false c8
      clear c8
      by_cases c9 : a1 ≥ 4294967295
      ·
       rw [if_pos c9] at H
       have c9b0 : decide (4294967295 ≤ a1) = true := decide_eq_true c9
       clear c9
       simp only [Option.some.injEq, Prod.mk.injEq] at H
       obtain ⟨rfl, rfl⟩ := H
       go_wp2
       go_ret2
       exact ⟨by first | rfl | (simp; done) | (simp [*]; done), by repeat (first | exact Drawn0.refl _ | apply Drawn0.step)⟩
      ·
       rw [if_neg c9] at H
       have c9b0 : decide (4294967295 ≤ a1) = false := decide_eq_false c9
       clear c9
       simp only [Option.some.injEq, Prod.mk.injEq] at H
       obtain ⟨rfl, rfl⟩ := H
       go_wp2
       go_ret2
       exact ⟨by first | rfl | (simp; done) | (simp [*]; done), by repeat (first | exact Drawn0.refl _ | apply Drawn0.step)⟩

/-! ### octroiref03_Add: function 29 -/
def octroiref03_Add.f (k : Nat) (a0 : Int) (a1 : Int) : Option (Int × Int) := (octroiref03_is.f a1).bind fun t229 => (if t229 = true then ((octroiref03_Has.f k a0 a1).bind fun t230 => (if t230 = true then (some (0, 6)) else ((octroiref03_bit.f k a1).bind fun t231 => (some (IntKind.u16.wrap (wrap64 ((wrap64 (a0)) + t231)), 0))))) else (some (0, 1)))
theorem octroiref03_Add.mono : ∀ a0 a1 k, LeO (octroiref03_Add.f k a0 a1) (octroiref03_Add.f (k + 1) a0 a1) := by
 intro a0 a1 k
 unfold octroiref03_Add.f
 repeat' first
   | (with_reducible exact octroiref03_Has.mono _ _ _)
   | (with_reducible exact octroiref03_bit.mono _ _)
   | (with_reducible exact LeO.refl _)
   | (with_reducible exact LeO.none _)
   | (with_reducible refine LeO.ite ?_ ?_)
   | (with_reducible refine LeO.bind ?_ (fun _ => ?_))
   | exact octroiref03_Has.mono _ _ _
   | exact octroiref03_bit.mono _ _
   | exact LeO.none _
   | refine LeO.ite ?_ ?_
   | refine LeO.bind ?_ (fun _ => ?_)
set_option maxHeartbeats 8000000 in
set_option maxRecDepth 100000 in
theorem octroiref03_Add.calls (k : Nat) (a0 : Int) (a1 : Int) (r1 : Int) (r2 : Int) (w : World) (h : octroiref03_Add.f k a0 a1 = some (r1, r2)) :
  Calls Try.prog 29 #[.int .u16 a0, .int .i64 a1] w fun e w' => e = .returned (.tuple #[.int .u16 r1, .int .i64 r2]) ∧ Drawn0 w w' := by
 have H : ((octroiref03_is.f a1).bind fun t229 => (if t229 = true then ((octroiref03_Has.f k a0 a1).bind fun t230 => (if t230 = true then (some (0, 6)) else ((octroiref03_bit.f k a1).bind fun t231 => (some (IntKind.u16.wrap (wrap64 ((wrap64 (a0)) + t231)), 0))))) else (some (0, 1)))) = some (r1, r2) := h
 clear h
 replace H := Option.bind_eq_some_iff.mp H
 obtain ⟨t229, A30, H⟩ := H
 replace H : (if t229 = true then ((octroiref03_Has.f k a0 a1).bind fun t230 => (if t230 = true then (some (0, 6)) else ((octroiref03_bit.f k a1).bind fun t231 => (some (IntKind.u16.wrap (wrap64 ((wrap64 (a0)) + t231)), 0))))) else (some (0, 1))) = some (r1, r2) := H
 have A3 := Aside0.mk A30
 clear A30
 by_cases c4 : t229 = true
 ·
  subst c4
  have H1 : ((octroiref03_Has.f k a0 a1).bind fun t230 => (if t230 = true then (some (0, 6)) else ((octroiref03_bit.f k a1).bind fun t231 => (some (IntKind.u16.wrap (wrap64 ((wrap64 (a0)) + t231)), 0))))) = some (r1, r2) := by rw [if_pos rfl] at H; exact H
  clear H
  have H := H1
  clear H1
  replace H := Option.bind_eq_some_iff.mp H
  obtain ⟨t230, A50, H⟩ := H
  replace H : (if t230 = true then (some (0, 6)) else ((octroiref03_bit.f k a1).bind fun t231 => (some (IntKind.u16.wrap (wrap64 ((wrap64 (a0)) + t231)), 0)))) = some (r1, r2) := H
  have A5 := Aside0.mk A50
  clear A50
  by_cases c6 : t230 = true
  ·
   subst c6
   have H1 : (some (0, 6)) = some (r1, r2) := by rw [if_pos rfl] at H; exact H
   clear H
   have H := H1
   clear H1
   simp only [Option.some.injEq, Prod.mk.injEq] at H
   obtain ⟨rfl, rfl⟩ := H
   go_enter Try.func29, Try.ntmps29
   go_wp2_with (first | ((with_reducible refine gate_callee (f := 39) rfl ?_); refine goesL_ (some 9) rfl rfl Try.func39 (by kernel_rfl) rfl #[.int .i64 a1] rfl (by (try simp only [List.map_toArray, List.map_cons, List.map_nil]); first | done | rfl | (simp only [List.length_drop, List.length_take]; rfl)) ?_; (with_reducible refine (octroiref03_is.calls a1 true _ A3.out).mono ?_); rintro e w' ⟨rfl, ⟨nd, rfl⟩⟩; refine ⟨_, rfl, ?_⟩) | ((with_reducible refine gate_callee (f := 26) rfl ?_); refine goesL_ (some 14) rfl rfl Try.func26 (by kernel_rfl) rfl #[.int .u16 a0, .int .i64 a1] rfl (by (try simp only [List.map_toArray, List.map_cons, List.map_nil]); first | done | rfl | (simp only [List.length_drop, List.length_take]; rfl)) ?_; (with_reducible refine (octroiref03_Has.calls k a0 a1 true _ A5.out).mono ?_); rintro e w' ⟨rfl, ⟨nd, rfl⟩⟩; refine ⟨_, rfl, ?_⟩))
   go_ret2
   exact ⟨by first | rfl | (simp; done) | (simp [*]; done), by repeat (first | exact Drawn0.refl _ | apply Drawn0.step)⟩
  ·
   replace c6 := Bool.eq_false_iff.mpr c6
   subst c6
   have H1 : ((octroiref03_bit.f k a1).bind fun t231 => (some (IntKind.u16.wrap (wrap64 ((wrap64 (a0)) + t231)), 0))) = some (r1, r2) := by rw [if_neg (show ¬ (false = true) by decide)] at H; exact H
   clear H
   have H := H1
   clear H1
   replace H := Option.bind_eq_some_iff.mp H
   obtain ⟨t231, A70, H⟩ := H
   replace H : (some (IntKind.u16.wrap (wrap64 ((wrap64 (a0)) + t231)), 0)) = some (r1, r2) := H
   have A7 := Aside0.mk A70
   clear A70
   simp only [Option.some.injEq, Prod.mk.injEq] at H
   obtain ⟨rfl, rfl⟩ := H
   go_enter Try.func29, Try.ntmps29
   go_wp2_with (first | ((with_reducible refine gate_callee (f := 39) rfl ?_); refine goesL_ (some 9) rfl rfl Try.func39 (by kernel_rfl) rfl #[.int .i64 a1] rfl (by (try simp only [List.map_toArray, List.map_cons, List.map_nil]); first | done | rfl | (simp only [List.length_drop, List.length_take]; rfl)) ?_; (with_reducible refine (octroiref03_is.calls a1 true _ A3.out).mono ?_); rintro e w' ⟨rfl, ⟨nd, rfl⟩⟩; refine ⟨_, rfl, ?_⟩) | ((with_reducible refine gate_callee (f := 26) rfl ?_); refine goesL_ (some 14) rfl rfl Try.func26 (by kernel_rfl) rfl #[.int .u16 a0, .int .i64 a1] rfl (by (try simp only [List.map_toArray, List.map_cons, List.map_nil]); first | done | rfl | (simp only [List.length_drop, List.length_take]; rfl)) ?_; (with_reducible refine (octroiref03_Has.calls k a0 a1 false _ A5.out).mono ?_); rintro e w' ⟨rfl, ⟨nd, rfl⟩⟩; refine ⟨_, rfl, ?_⟩) | ((with_reducible refine gate_callee (f := 40) rfl ?_); refine goesL_ (some 19) rfl rfl Try.func40 (by kernel_rfl) rfl #[.int .i64 a1] rfl (by (try simp only [List.map_toArray, List.map_cons, List.map_nil]); first | done | rfl | (simp only [List.length_drop, List.length_take]; rfl)) ?_; (with_reducible refine (octroiref03_bit.calls k a1 t231 _ A7.out).mono ?_); rintro e w' ⟨rfl, ⟨nd, rfl⟩⟩; refine ⟨_, rfl, ?_⟩))
   go_ret2
   exact ⟨by first | rfl | (simp; done) | (simp [*]; done), by repeat (first | exact Drawn0.refl _ | apply Drawn0.step)⟩
 ·
  replace c4 := Bool.eq_false_iff.mpr c4
  subst c4
  have H1 : (some (0, 1)) = some (r1, r2) := by rw [if_neg (show ¬ (false = true) by decide)] at H; exact H
  clear H
  have H := H1
  clear H1
  simp only [Option.some.injEq, Prod.mk.injEq] at H
  obtain ⟨rfl, rfl⟩ := H
  go_enter Try.func29, Try.ntmps29
  go_wp2_with (first | ((with_reducible refine gate_callee (f := 39) rfl ?_); refine goesL_ (some 9) rfl rfl Try.func39 (by kernel_rfl) rfl #[.int .i64 a1] rfl (by (try simp only [List.map_toArray, List.map_cons, List.map_nil]); first | done | rfl | (simp only [List.length_drop, List.length_take]; rfl)) ?_; (with_reducible refine (octroiref03_is.calls a1 false _ A3.out).mono ?_); rintro e w' ⟨rfl, ⟨nd, rfl⟩⟩; refine ⟨_, rfl, ?_⟩))
  go_ret2
  exact ⟨by first | rfl | (simp; done) | (simp [*]; done), by repeat (first | exact Drawn0.refl _ | apply Drawn0.step)⟩

end Go.Proofs.Ytdhejpjggmikiaa.L
