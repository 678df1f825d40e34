/- Printed by the session's own program out of the translation: for each Go function a Lean function with the same answers, and the proof that the code comes to them. No conditions. -/
import Derived.Test.YtchmcmioilmnpaaLx0
import Derived.Test.YtchmcmioilmnpaaLx1
namespace Go.Proofs.Ytchmcmioilmnpaa.L
open Go.Proofs.YtchmcmioilmnpaaLab
open Go.RowKit Go.Proofs.YtchmcmioilmnpaaW.PrintWords Go.Proofs.YtchmcmioilmnpaaW.PrintLast Go.Proofs.YtchmcmioilmnpaaW.PrintMore
attribute [local go_sem] max2_int min2_int max_two min_two max_three min_three max_four min_four   -- for this text's walks alone
set_option linter.unusedVariables false
set_option linter.unusedSimpArgs false

/-! ### octroilaw11_NeighFar: function 8 -/
mutual
def octroilaw11_NeighFar.j0 : Nat → List (S29) → Int → Bool → Bool → Int → Int → Bool → Int → Option (Bool)
  | 0, _, _, _, _, _, _, _, _ => none
  | k + 1, x0, x1, x5, x21, x366000, x366001, x366002, x366003 => if x21 = true then (if x5 = true then (some true) else (none)) else (octroilaw11_NeighFar.l0 k x0 x1 0 x366000 x366001 x366002 x366003)
def octroilaw11_NeighFar.l0 : Nat → List (S29) → Int → Int → Int → Int → Bool → Int → Option (Bool)
  | 0, _, _, _, _, _, _, _ => none
  | k + 1, x0, x1, x7, x366000, x366001, x366002, x366003 => if x7 < (x0.length : Int) then (if 0 ≤ x7 then (if ((rd_T29 x0 x7).f0) = 0 then ((neigh_Neigh_Hello.f k x366000 x366001 x366002 x366003 (IntKind.u16.wrap ((rd_T29 x0 x7).f1))).bind fun bt368 => (octroilaw11_NeighFar.l0 k x0 x1 (wrap64 (x7 + 1)) bt368.1 bt368.2.1 bt368.2.2.1 bt368.2.2.2)) else (octroilaw11_NeighFar.l0 k x0 x1 (wrap64 (x7 + 1)) x366000 x366001 x366002 x366003)) else (none)) else ((neigh_Neigh_Hello.f k x366000 x366001 x366002 x366003 x1).bind fun bt372 => ((neigh_Neigh_Hello.f k bt372.1 bt372.2.1 bt372.2.2.1 bt372.2.2.2 (IntKind.u16.wrap (x1 + 32768))).bind fun bt376 => ((neigh_Neigh_History.f bt376.1 bt376.2.1 bt376.2.2.1 bt376.2.2.2).bind fun bt380 => (if bt380.1 = 32768 then ((neigh_Neigh_Rx.f bt380.2.1 bt380.2.2.1 bt380.2.2.2.1 bt380.2.2.2.2).bind fun bt385 => (some (bt385.1 == 65535))) else (none)))))
end
def octroilaw11_NeighFar.f (k : Nat) (l0 : List (S29)) (a1 : Int) : Option (Bool) := (octroilaw11_awake.f k).bind fun t360 => ((neigh_New.f).bind fun bt361 => (if t360 = true then (octroilaw11_NeighFar.j0 k l0 a1 t360 (decide ((l0.length : Int) > 200)) bt361.1 bt361.2.1 bt361.2.2.1 bt361.2.2.2) else (octroilaw11_NeighFar.j0 k l0 a1 t360 true bt361.1 bt361.2.1 bt361.2.2.1 bt361.2.2.2)))
theorem octroilaw11_NeighFar.mono_l : ∀ k, (∀ y0 y1 y2 y3 y4 y5 y6 y7, LeO (octroilaw11_NeighFar.j0 k y0 y1 y2 y3 y4 y5 y6 y7) (octroilaw11_NeighFar.j0 (k + 1) y0 y1 y2 y3 y4 y5 y6 y7)) ∧ (∀ y0 y1 y2 y3 y4 y5 y6, LeO (octroilaw11_NeighFar.l0 k y0 y1 y2 y3 y4 y5 y6) (octroilaw11_NeighFar.l0 (k + 1) y0 y1 y2 y3 y4 y5 y6))
  | 0 => ⟨fun _ _ _ _ _ _ _ _ r h => by simp [octroilaw11_NeighFar.j0] at h, fun _ _ _ _ _ _ _ r h => by simp [octroilaw11_NeighFar.l0] at h⟩
  | k + 1 => by
    obtain ⟨ih0, ih1⟩ := octroilaw11_NeighFar.mono_l k
    refine ⟨?_, ?_⟩
    · intro y0 y1 y2 y3 y4 y5 y6 y7
      unfold octroilaw11_NeighFar.j0
      repeat' first
      | (with_reducible exact ih0 _ _ _ _ _ _ _ _)
      | (with_reducible exact ih1 _ _ _ _ _ _ _)
      | (with_reducible exact neigh_Neigh_Hello.mono _ _ _ _ _ _)
      | (with_reducible exact octroilaw11_awake.mono _)
      | (with_reducible exact LeO.refl _)
      | (with_reducible exact LeO.none _)
      | (with_reducible refine LeO.ite ?_ ?_)
      | (with_reducible refine LeO.bind ?_ (fun _ => ?_))
      | exact ih0 _ _ _ _ _ _ _ _
      | exact ih1 _ _ _ _ _ _ _
      | exact neigh_Neigh_Hello.mono _ _ _ _ _ _
      | exact octroilaw11_awake.mono _
      | exact LeO.none _
      | refine LeO.ite ?_ ?_
      | refine LeO.bind ?_ (fun _ => ?_)
    · intro y0 y1 y2 y3 y4 y5 y6
      unfold octroilaw11_NeighFar.l0
      repeat' first
      | (with_reducible exact ih0 _ _ _ _ _ _ _ _)
      | (with_reducible exact ih1 _ _ _ _ _ _ _)
      | (with_reducible exact neigh_Neigh_Hello.mono _ _ _ _ _ _)
      | (with_reducible exact octroilaw11_awake.mono _)
      | (with_reducible exact LeO.refl _)
      | (with_reducible exact LeO.none _)
      | (with_reducible refine LeO.ite ?_ ?_)
      | (with_reducible refine LeO.bind ?_ (fun _ => ?_))
      | exact ih0 _ _ _ _ _ _ _ _
      | exact ih1 _ _ _ _ _ _ _
      | exact neigh_Neigh_Hello.mono _ _ _ _ _ _
      | exact octroilaw11_awake.mono _
      | exact LeO.none _
      | refine LeO.ite ?_ ?_
      | refine LeO.bind ?_ (fun _ => ?_)
theorem octroilaw11_NeighFar.mono : ∀ a0 a1 k, LeO (octroilaw11_NeighFar.f k a0 a1) (octroilaw11_NeighFar.f (k + 1) a0 a1) := by
  intro a0 a1 k
  obtain ⟨ih0, ih1⟩ := octroilaw11_NeighFar.mono_l k
  unfold octroilaw11_NeighFar.f
  repeat' first
      | (with_reducible exact ih0 _ _ _ _ _ _ _ _)
      | (with_reducible exact ih1 _ _ _ _ _ _ _)
      | (with_reducible exact neigh_Neigh_Hello.mono _ _ _ _ _ _)
      | (with_reducible exact octroilaw11_awake.mono _)
      | (with_reducible exact LeO.refl _)
      | (with_reducible exact LeO.none _)
      | (with_reducible refine LeO.ite ?_ ?_)
      | (with_reducible refine LeO.bind ?_ (fun _ => ?_))
      | exact ih0 _ _ _ _ _ _ _ _
      | exact ih1 _ _ _ _ _ _ _
      | exact neigh_Neigh_Hello.mono _ _ _ _ _ _
      | exact octroilaw11_awake.mono _
      | exact LeO.none _
      | refine LeO.ite ?_ ?_
      | refine LeO.bind ?_ (fun _ => ?_)
set_option maxHeartbeats 8000000 in
set_option maxRecDepth 100000 in
theorem octroilaw11_NeighFar.calls (k : Nat) (A0 : Option Addr) (c0 : Nat) (l0 : List (S29)) (a1 : Int) (r : Bool) (w : World) (hr0 : Kd.C k29 w A0 l0.length l0) (hc0 : l0.length ≤ c0) (h : octroilaw11_NeighFar.f k l0 a1 = some r) :
    Calls Try.prog 8 #[.slice A0 l0.length c0, .int .u16 a1] w fun e w' => e = .returned (.bool r) ∧ Below w.heap.size w w' := by
  have hup24 : Try.prog.underlying 24 = some (.pointer 40) := by kernel_rfl
  have HR0 := Aside0.mk hr0
  have HC0 := Aside0.mk hc0
  clear hr0 hc0
  have HB := Aside0.mk (Below.refl w.heap.size w)
  have H : ((octroilaw11_awake.f k).bind fun t360 => ((neigh_New.f).bind fun bt361 => (if t360 = true then (octroilaw11_NeighFar.j0 k l0 a1 t360 (decide ((l0.length : Int) > 200)) bt361.1 bt361.2.1 bt361.2.2.1 bt361.2.2.2) else (octroilaw11_NeighFar.j0 k l0 a1 t360 true bt361.1 bt361.2.1 bt361.2.2.1 bt361.2.2.2)))) = some r := h
  clear h
  replace H := Option.bind_eq_some_iff.mp H
  obtain ⟨t360, A30, H⟩ := H
  replace H : ((neigh_New.f).bind fun bt361 => (if t360 = true then (octroilaw11_NeighFar.j0 k l0 a1 t360 (decide ((l0.length : Int) > 200)) bt361.1 bt361.2.1 bt361.2.2.1 bt361.2.2.2) else (octroilaw11_NeighFar.j0 k l0 a1 t360 true bt361.1 bt361.2.1 bt361.2.2.1 bt361.2.2.2))) = some r := H
  have A3 := Aside0.mk A30
  clear A30
  replace H := Option.bind_eq_some_iff.mp H
  obtain ⟨⟨t361, t362, t363, t364⟩, A40, H⟩ := H
  replace H : (if t360 = true then (octroilaw11_NeighFar.j0 k l0 a1 t360 (decide ((l0.length : Int) > 200)) t361 t362 t363 t364) else (octroilaw11_NeighFar.j0 k l0 a1 t360 true t361 t362 t363 t364)) = some r := H
  have A4 := Aside0.mk A40
  clear A40
  have HC5 := Aside0.mk H
  clear H
  go_enter Try.func8, Try.ntmps8
  go_upto_region 3 with (first | ((with_reducible refine gate_callee (f := 9) rfl ?_); refine goesL_ (some 9) rfl rfl Try.func9 (by kernel_rfl) rfl #[] rfl (by (try simp only [List.map_toArray, List.map_cons, List.map_nil]); first | done | rfl | (simp only [List.length_drop, List.length_take]; rfl)) ?_; (with_reducible refine (octroilaw11_awake.calls k  t360 _ A3.out).mono ?_); rintro e w6 ⟨rfl, hb⟩; refine ⟨_, rfl, ?_⟩; have n0_ := Aside0.mk (below_step (by repeat (first | (with_reducible first | exact HB.out | apply below_alloc | apply pw_below_drewN | apply below_drew1) | exact HB.out)) hb); clear HB; have HB := n0_; clear n0_; (try clear hb); (try clear hb2); (try clear hk); (try clear hi)) | ((with_reducible refine gate_callee (f := 10) rfl ?_); refine goesL_ (some 10) rfl rfl Try.func10 (by kernel_rfl) rfl #[] rfl (by (try simp only [List.map_toArray, List.map_cons, List.map_nil]); first | done | rfl | (simp only [List.length_drop, List.length_take]; rfl)) ?_; (with_reducible refine (neigh_New.calls  t361 t362 t363 t364 w _ ?side1 A4.out).mono ?_); (case side1 => repeat (first | (with_reducible first | exact HB.out | apply below_alloc | apply pw_below_drewN | apply below_drew1) | exact HB.out)); rintro e w7 ⟨g365, rfl, hi, hb, hb2⟩; refine ⟨_, rfl, ?_⟩; have n0_ := Aside0.mk (hb); have n1_ := Aside0.mk (hi); clear HB; have HB := n0_; have HI365 := n1_; clear n0_ n1_; (try clear hb); (try clear hb2); (try clear hk); (try clear hi)))
  (try simp only [Act.put, List.setIfInBounds_toArray, List.set_cons_zero, List.set_cons_succ])
  go_cut [21] (fun v21 wc => ∃ (kq : Nat) (x21_4 : Bool), v21 = .bool x21_4 ∧ Aside0 (octroilaw11_NeighFar.j0 kq l0 a1 t360 x21_4 t361 t362 t363 t364 = some r) ∧ Aside0 (kq ≤ k) ∧ Aside0 (IsS40 w wc g365 t361 t362 t363 t364) ∧ Aside0 (Below w.heap.size w wc))
  case first =>
    have H := HC5.out
    clear HC5
    by_cases c8 : t360 = true
    · subst c8
      have H1 : (octroilaw11_NeighFar.j0 k l0 a1 true (decide ((l0.length : Int) > 200)) t361 t362 t363 t364) = some r := by rw [if_pos rfl] at H; exact H
      clear H
      have H := H1
      clear H1
      have H' := Aside0.mk H
      clear H
      go_wp2
      go_meet
      case rel => exact ⟨_, (decide ((l0.length : Int) > 200)), (by first | rfl | (simp; done) | (simp [*]; done)), H', ⟨by first | omega | exact Nat.le_refl _⟩, ⟨by repeat (first | (with_reducible first | exact HI365.out | apply IsS40.alloc | apply IsS40.drewN | apply IsS40.drew | apply IsS40.set_0 | apply IsS40.set_1 | apply IsS40.set_2 | apply IsS40.set_3) | exact HI365.out)⟩, ⟨by repeat (first | (with_reducible first | exact HB.out | apply below_alloc | apply pw_below_drewN | apply below_drew1 | refine below_set ?_ (IsS40.ge HI365.out)) | exact HB.out)⟩⟩
    · replace c8 := Bool.eq_false_iff.mpr c8
      subst c8
      have H1 : (octroilaw11_NeighFar.j0 k l0 a1 false true t361 t362 t363 t364) = some r := by rw [if_neg (show ¬ (false = true) by decide)] at H; exact H
      clear H
      have H := H1
      clear H1
      have H' := Aside0.mk H
      clear H
      go_wp2
      go_meet
      case rel => exact ⟨_, (true), (by first | rfl | (simp; done) | (simp [*]; done)), H', ⟨by first | omega | exact Nat.le_refl _⟩, ⟨by repeat (first | (with_reducible first | exact HI365.out | apply IsS40.alloc | apply IsS40.drewN | apply IsS40.drew | apply IsS40.set_0 | apply IsS40.set_1 | apply IsS40.set_2 | apply IsS40.set_3) | exact HI365.out)⟩, ⟨by repeat (first | (with_reducible first | exact HB.out | apply below_alloc | apply pw_below_drewN | apply below_drew1 | refine below_set ?_ (IsS40.ge HI365.out)) | exact HB.out)⟩⟩
  case rest =>
    clear HC5
    try clear c1
    try clear p2
    try clear c8
    obtain ⟨kq, x21_4, rfl, HA, HJ4, HI365, HB⟩ := hcut
    cases kq with
    | zero => exact absurd HA.out (by simp [octroilaw11_NeighFar.j0])
    | succ kj4 =>
      have H := HA.out
      clear HA
      simp only [octroilaw11_NeighFar.j0] at H
      by_cases c9 : x21_4 = true
      · subst c9
        have H1 : (if t360 = true then (some true) else (none)) = some r := by rw [if_pos rfl] at H; exact H
        clear H
        have H := H1
        clear H1
        by_cases c10 : t360 = true
        · subst c10
          have H1 : (some true) = some r := by rw [if_pos rfl] at H; exact H
          clear H
          have H := H1
          clear H1
          obtain rfl := Option.some.inj H
          go_wp2
          go_ret
          exact ⟨by first | rfl | (simp [errW_none, errW_some] <;> rfl) | (simp [*, errW_none, errW_some] <;> rfl), by repeat (first | (with_reducible first | exact HB.out | apply below_alloc | apply pw_below_drewN | apply below_drew1 | refine below_set ?_ (IsS40.ge HI365.out)) | exact HB.out)⟩
        · replace c10 := Bool.eq_false_iff.mpr c10
          subst c10
          have H1 : (none) = some r := by rw [if_neg (show ¬ (false = true) by decide)] at H; exact H
          clear H
          have H := H1
          clear H1
          exact absurd H (by simp)
      · replace c9 := Bool.eq_false_iff.mpr c9
        subst c9
        have H1 : (octroilaw11_NeighFar.l0 kj4 l0 a1 0 t361 t362 t363 t364) = some r := by rw [if_neg (show ¬ (false = true) by decide)] at H; exact H
        clear H
        have H := H1
        clear H1
        have H' := Aside0.mk H
        clear H
        go_wp2
        go_loopg [7] kj4 (fun kq v7 w' => ∃ (x7_2 : Int) (x366000_2 : Int) (x366001_2 : Int) (x366002_2 : Bool) (x366003_2 : Int), v7 = .int .i64 x7_2 ∧ Aside0 (octroilaw11_NeighFar.l0 kq l0 a1 x7_2 x366000_2 x366001_2 x366002_2 x366003_2 = some r) ∧ Aside0 (kq ≤ kj4) ∧ Aside0 (IsS40 w w' g365 x366000_2 x366001_2 x366002_2 x366003_2) ∧ Aside0 (Below w.heap.size w w'))
        case atStart => exact ⟨(0), (t361), (t362), (t363), (t364), (by first | rfl | (simp; done) | (simp [*]; done)), H', ⟨Nat.le_refl _⟩, ⟨by repeat (first | (with_reducible first | exact HI365.out | apply IsS40.alloc | apply IsS40.drewN | apply IsS40.drew | apply IsS40.set_0 | apply IsS40.set_1 | apply IsS40.set_2 | apply IsS40.set_3) | exact HI365.out)⟩, ⟨by repeat (first | (with_reducible first | exact HB.out | apply below_alloc | apply pw_below_drewN | apply below_drew1 | refine below_set ?_ (IsS40.ge HI365.out)) | exact HB.out)⟩⟩
        case round =>
          clear H'
          try clear c1
          try clear p2
          try clear c8
          try clear c9
          try clear c10
          try clear p2
          obtain ⟨x7_2, x366000_2, x366001_2, x366002_2, x366003_2, rfl, HA, HK2, HI365, HB⟩ := hrel
          cases gk with
          | zero => exact absurd HA.out (by simp [octroilaw11_NeighFar.l0])
          | succ k2 =>
            have H := HA.out
            clear HA
            simp only [octroilaw11_NeighFar.l0] at H
            by_cases c11 : x7_2 < (l0.length : Int)
            · rw [if_pos c11] at H
              have c11b0 : decide (x7_2 < (l0.length : Int)) = true := decide_eq_true c11
              clear c11
              by_cases c12 : 0 ≤ x7_2
              · rw [if_pos c12] at H
                have c12b0 : decide (0 ≤ x7_2) = true := decide_eq_true c12
                clear c12
                by_cases c13 : ((rd_T29 l0 x7_2).f0) = 0
                · rw [if_pos c13] at H
                  have c13b0 : (((rd_T29 l0 x7_2).f0) == 0) = true := beq_iff_eq.mpr c13
                  have c13b1 : (((rd_T29 l0 x7_2).f0) != 0) = false := bne_eq_false_iff_eq.mpr c13
                  clear c13
                  replace H := Option.bind_eq_some_iff.mp H
                  obtain ⟨⟨t368, t369, t370, t371⟩, A140, H⟩ := H
                  replace H : (octroilaw11_NeighFar.l0 k2 l0 a1 (wrap64 (x7_2 + 1)) t368 t369 t370 t371) = some r := H
                  have A14 := Aside0.mk A140
                  clear A140
                  have H' := Aside0.mk H
                  clear H
                  have p366 : 0 ≤ (x7_2 : Int) := of_decide_eq_true (by first | (with_reducible assumption) | assumption)
                  have q366 : x7_2 < (l0.length : Int) := of_decide_eq_true (by first | (with_reducible assumption) | assumption)
                  obtain ⟨ad366, e366, hx366_0, hx366_1⟩ := at_T29 HR0.out x7_2 p366 q366
                  cases e366
                  replace hx366_0 := (HB.out.cell (World.block_lt_of_cell? w _ hx366_0)).trans hx366_0
                  replace hx366_1 := (HB.out.cell (World.block_lt_of_cell? w _ hx366_1)).trans hx366_1
                  replace p366 := eq_true p366
                  replace q366 := eq_true q366
                  have p367 : 0 ≤ (x7_2 : Int) := of_decide_eq_true (by first | (with_reducible assumption) | assumption)
                  have q367 : x7_2 < (l0.length : Int) := of_decide_eq_true (by first | (with_reducible assumption) | assumption)
                  obtain ⟨ad367, e367, hx367_0, hx367_1⟩ := at_T29 HR0.out x7_2 p367 q367
                  obtain rfl : ad366 = ad367 := (by injection e367)
                  replace hx367_0 := (HB.out.cell (World.block_lt_of_cell? w _ hx367_0)).trans hx367_0
                  replace hx367_1 := (HB.out.cell (World.block_lt_of_cell? w _ hx367_1)).trans hx367_1
                  replace p367 := eq_true p367
                  replace q367 := eq_true q367
                  go_wp2_with (first | ((with_reducible refine gate_callee (f := 12) rfl ?_); refine goesL_ (some 46) rfl rfl Try.func12 (by kernel_rfl) rfl #[.pointer (some ⟨g365, 0, none⟩), .int .u16 (IntKind.u16.wrap ((rd_T29 l0 x7_2).f1))] rfl (by (try simp only [List.map_toArray, List.map_cons, List.map_nil]); first | done | rfl | (simp only [List.length_drop, List.length_take]; rfl)) ?_; (with_reducible refine (neigh_Neigh_Hello.calls k2 g365 x366000_2 x366001_2 x366002_2 x366003_2 (IntKind.u16.wrap ((rd_T29 l0 x7_2).f1)) t368 t369 t370 t371 w _ ?side1 ?side2 A14.out).mono ?_); (case side1 => repeat (first | (with_reducible first | exact HI365.out | apply IsS40.alloc | apply IsS40.drewN | apply IsS40.drew | apply IsS40.set_0 | apply IsS40.set_1 | apply IsS40.set_2 | apply IsS40.set_3) | exact HI365.out)); (case side2 => repeat (first | (with_reducible first | exact HB.out | apply below_alloc | apply pw_below_drewN | apply below_drew1 | refine below_set ?_ (IsS40.ge HI365.out)) | exact HB.out)); rintro e w15 ⟨rfl, hi, hb, hk⟩; refine ⟨_, rfl, ?_⟩; have n0_ := Aside0.mk (hb); have n1_ := Aside0.mk (hi); clear HB; clear HI365; have HB := n0_; have HI365 := n1_; clear n0_ n1_; (try clear hb); (try clear hb2); (try clear hk); (try clear hi)))
                  go_roundg k2
                  case measure => have := HJ4.out; have := HK2.out; omega
                  case rel => exact ⟨(wrap64 (x7_2 + 1)), (t368), (t369), (t370), (t371), (by first | rfl | (simp; done) | (simp [*]; done)), H', ⟨by have := HJ4.out; have := HK2.out; omega⟩, ⟨by repeat (first | (with_reducible first | exact HI365.out | apply IsS40.alloc | apply IsS40.drewN | apply IsS40.drew | apply IsS40.set_0 | apply IsS40.set_1 | apply IsS40.set_2 | apply IsS40.set_3) | exact HI365.out)⟩, ⟨by repeat (first | (with_reducible first | exact HB.out | apply below_alloc | apply pw_below_drewN | apply below_drew1 | refine below_set ?_ (IsS40.ge HI365.out)) | exact HB.out)⟩⟩
                · rw [if_neg c13] at H
                  have c13b0 : (((rd_T29 l0 x7_2).f0) == 0) = false := beq_eq_false_iff_ne.mpr c13
                  have c13b1 : (((rd_T29 l0 x7_2).f0) != 0) = true := bne_iff_ne.mpr c13
                  have H' := Aside0.mk H
                  clear H
                  have p366 : 0 ≤ (x7_2 : Int) := of_decide_eq_true (by first | (with_reducible assumption) | assumption)
                  have q366 : x7_2 < (l0.length : Int) := of_decide_eq_true (by first | (with_reducible assumption) | assumption)
                  obtain ⟨ad366, e366, hx366_0, hx366_1⟩ := at_T29 HR0.out x7_2 p366 q366
                  cases e366
                  replace hx366_0 := (HB.out.cell (World.block_lt_of_cell? w _ hx366_0)).trans hx366_0
                  replace hx366_1 := (HB.out.cell (World.block_lt_of_cell? w _ hx366_1)).trans hx366_1
                  replace p366 := eq_true p366
                  replace q366 := eq_true q366
                  go_wp2
                  go_roundg k2
                  case measure => have := HJ4.out; have := HK2.out; omega
                  case rel => exact ⟨(wrap64 (x7_2 + 1)), (x366000_2), (x366001_2), (x366002_2), (x366003_2), (by first | rfl | (simp; done) | (simp [*]; done)), H', ⟨by have := HJ4.out; have := HK2.out; omega⟩, ⟨by repeat (first | (with_reducible first | exact HI365.out | apply IsS40.alloc | apply IsS40.drewN | apply IsS40.drew | apply IsS40.set_0 | apply IsS40.set_1 | apply IsS40.set_2 | apply IsS40.set_3) | exact HI365.out)⟩, ⟨by repeat (first | (with_reducible first | exact HB.out | apply below_alloc | apply pw_below_drewN | apply below_drew1 | refine below_set ?_ (IsS40.ge HI365.out)) | exact HB.out)⟩⟩
              · rw [if_neg c12] at H
                exact absurd H (by simp)
            · rw [if_neg c11] at H
              have c11b0 : decide (x7_2 < (l0.length : Int)) = false := decide_eq_false c11
              clear c11
              replace H := Option.bind_eq_some_iff.mp H
              obtain ⟨⟨t372, t373, t374, t375⟩, A160, H⟩ := H
              replace H : ((neigh_Neigh_Hello.f k2 t372 t373 t374 t375 (IntKind.u16.wrap (a1 + 32768))).bind fun bt376 => ((neigh_Neigh_History.f bt376.1 bt376.2.1 bt376.2.2.1 bt376.2.2.2).bind fun bt380 => (if bt380.1 = 32768 then ((neigh_Neigh_Rx.f bt380.2.1 bt380.2.2.1 bt380.2.2.2.1 bt380.2.2.2.2).bind fun bt385 => (some (bt385.1 == 65535))) else (none)))) = some r := H
              have A16 := Aside0.mk A160
              clear A160
              replace H := Option.bind_eq_some_iff.mp H
              obtain ⟨⟨t376, t377, t378, t379⟩, A170, H⟩ := H
              replace H : ((neigh_Neigh_History.f t376 t377 t378 t379).bind fun bt380 => (if bt380.1 = 32768 then ((neigh_Neigh_Rx.f bt380.2.1 bt380.2.2.1 bt380.2.2.2.1 bt380.2.2.2.2).bind fun bt385 => (some (bt385.1 == 65535))) else (none))) = some r := H
              have A17 := Aside0.mk A170
              clear A170
              replace H := Option.bind_eq_some_iff.mp H
              obtain ⟨⟨t380, t381, t382, t383, t384⟩, A180, H⟩ := H
              replace H : (if t380 = 32768 then ((neigh_Neigh_Rx.f t381 t382 t383 t384).bind fun bt385 => (some (bt385.1 == 65535))) else (none)) = some r := H
              have A18 := Aside0.mk A180
              clear A180
              by_cases c19 : t380 = 32768
              · rw [if_pos c19] at H
                have c19b0 : (t380 == 32768) = true := beq_iff_eq.mpr c19
                have c19b1 : (t380 != 32768) = false := bne_eq_false_iff_eq.mpr c19
                clear c19
                replace H := Option.bind_eq_some_iff.mp H
                obtain ⟨⟨t385, t386, t387, t388, t389⟩, A200, H⟩ := H
                replace H : (some (t385 == 65535)) = some r := H
                have A20 := Aside0.mk A200
                clear A200
                obtain rfl := Option.some.inj H
                go_wp2_with (first | ((with_reducible refine gate_callee (f := 12) rfl ?_); refine goesL_ (some 49) rfl rfl Try.func12 (by kernel_rfl) rfl #[.pointer (some ⟨g365, 0, none⟩), .int .u16 a1] rfl (by (try simp only [List.map_toArray, List.map_cons, List.map_nil]); first | done | rfl | (simp only [List.length_drop, List.length_take]; rfl)) ?_; (with_reducible refine (neigh_Neigh_Hello.calls k2 g365 x366000_2 x366001_2 x366002_2 x366003_2 a1 t372 t373 t374 t375 w _ ?side1 ?side2 A16.out).mono ?_); (case side1 => repeat (first | (with_reducible first | exact HI365.out | apply IsS40.alloc | apply IsS40.drewN | apply IsS40.drew | apply IsS40.set_0 | apply IsS40.set_1 | apply IsS40.set_2 | apply IsS40.set_3) | exact HI365.out)); (case side2 => repeat (first | (with_reducible first | exact HB.out | apply below_alloc | apply pw_below_drewN | apply below_drew1 | refine below_set ?_ (IsS40.ge HI365.out)) | exact HB.out)); rintro e w21 ⟨rfl, hi, hb, hk⟩; refine ⟨_, rfl, ?_⟩; have n0_ := Aside0.mk (hb); have n1_ := Aside0.mk (hi); clear HB; clear HI365; have HB := n0_; have HI365 := n1_; clear n0_ n1_; (try clear hb); (try clear hb2); (try clear hk); (try clear hi)) | ((with_reducible refine gate_callee (f := 12) rfl ?_); refine goesL_ (some 54) rfl rfl Try.func12 (by kernel_rfl) rfl #[.pointer (some ⟨g365, 0, none⟩), .int .u16 (IntKind.u16.wrap (a1 + 32768))] rfl (by (try simp only [List.map_toArray, List.map_cons, List.map_nil]); first | done | rfl | (simp only [List.length_drop, List.length_take]; rfl)) ?_; (with_reducible refine (neigh_Neigh_Hello.calls k2 g365 t372 t373 t374 t375 (IntKind.u16.wrap (a1 + 32768)) t376 t377 t378 t379 w _ ?side1 ?side2 A17.out).mono ?_); (case side1 => repeat (first | (with_reducible first | exact HI365.out | apply IsS40.alloc | apply IsS40.drewN | apply IsS40.drew | apply IsS40.set_0 | apply IsS40.set_1 | apply IsS40.set_2 | apply IsS40.set_3) | exact HI365.out)); (case side2 => repeat (first | (with_reducible first | exact HB.out | apply below_alloc | apply pw_below_drewN | apply below_drew1 | refine below_set ?_ (IsS40.ge HI365.out)) | exact HB.out)); rintro e w22 ⟨rfl, hi, hb, hk⟩; refine ⟨_, rfl, ?_⟩; have n0_ := Aside0.mk (hb); have n1_ := Aside0.mk (hi); clear HB; clear HI365; have HB := n0_; have HI365 := n1_; clear n0_ n1_; (try clear hb); (try clear hb2); (try clear hk); (try clear hi)) | ((with_reducible refine gate_callee (f := 18) rfl ?_); refine goesL_ (some 56) rfl rfl Try.func18 (by kernel_rfl) rfl #[.pointer (some ⟨g365, 0, none⟩)] rfl (by (try simp only [List.map_toArray, List.map_cons, List.map_nil]); first | done | rfl | (simp only [List.length_drop, List.length_take]; rfl)) ?_; (with_reducible refine (neigh_Neigh_History.calls g365 t376 t377 t378 t379 t380 t381 t382 t383 t384 w _ ?side1 ?side2 A18.out).mono ?_); (case side1 => repeat (first | (with_reducible first | exact HI365.out | apply IsS40.alloc | apply IsS40.drewN | apply IsS40.drew | apply IsS40.set_0 | apply IsS40.set_1 | apply IsS40.set_2 | apply IsS40.set_3) | exact HI365.out)); (case side2 => repeat (first | (with_reducible first | exact HB.out | apply below_alloc | apply pw_below_drewN | apply below_drew1 | refine below_set ?_ (IsS40.ge HI365.out)) | exact HB.out)); rintro e w23 ⟨rfl, hi, hb, hk⟩; refine ⟨_, rfl, ?_⟩; have n0_ := Aside0.mk (hb); have n1_ := Aside0.mk (hi); clear HB; clear HI365; have HB := n0_; have HI365 := n1_; clear n0_ n1_; (try clear hb); (try clear hb2); (try clear hk); (try clear hi)) | (go_at_call 20; (with_reducible refine (neigh_Neigh_Rx.calls g365 t381 t382 t383 t384 t385 t386 t387 t388 t389 w _ ?side1 ?side2 A20.out).mono ?_); (case side1 => repeat (first | (with_reducible first | exact HI365.out | apply IsS40.alloc | apply IsS40.drewN | apply IsS40.drew | apply IsS40.set_0 | apply IsS40.set_1 | apply IsS40.set_2 | apply IsS40.set_3) | exact HI365.out)); (case side2 => repeat (first | (with_reducible first | exact HB.out | apply below_alloc | apply pw_below_drewN | apply below_drew1 | refine below_set ?_ (IsS40.ge HI365.out)) | exact HB.out)); rintro e w24 ⟨rfl, hi, hb, hk⟩; have n0_ := Aside0.mk (hb); have n1_ := Aside0.mk (hi); clear HB; clear HI365; have HB := n0_; have HI365 := n1_; clear n0_ n1_; (try clear hb); (try clear hb2); (try clear hk); (try clear hi)))
                go_ret
                exact ⟨by first | rfl | (simp [errW_none, errW_some] <;> rfl) | (simp [*, errW_none, errW_some] <;> rfl), by repeat (first | (with_reducible first | exact HB.out | apply below_alloc | apply pw_below_drewN | apply below_drew1 | refine below_set ?_ (IsS40.ge HI365.out)) | exact HB.out)⟩
              · rw [if_neg c19] at H
                exact absurd H (by simp)

end Go.Proofs.Ytchmcmioilmnpaa.L
