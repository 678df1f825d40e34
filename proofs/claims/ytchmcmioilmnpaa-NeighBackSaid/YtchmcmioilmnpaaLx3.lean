/- Printed by the session's own program out of the translation: for each Go function a Lean function with the same answers, and the proof that the code comes to them. No conditions. -/
import Derived.Test.YtchmcmioilmnpaaLx0
import Derived.Test.YtchmcmioilmnpaaLx1
namespace Go.Proofs.Ytchmcmioilmnpaa.L
open Go.Proofs.YtchmcmioilmnpaaLab
open Go.RowKit Go.Proofs.YtchmcmioilmnpaaW.PrintWords Go.Proofs.YtchmcmioilmnpaaW.PrintLast Go.Proofs.YtchmcmioilmnpaaW.PrintMore
attribute [local go_sem] max2_int min2_int max_two min_two max_three min_three max_four min_four   -- for this text's walks alone
set_option linter.unusedVariables false
set_option linter.unusedSimpArgs false

/-! ### octroilaw11_NeighLost: function 4 -/
mutual
def octroilaw11_NeighLost.j0 : Nat → List (S29) → Int → Bool → Bool → Int → Int → Bool → Int → Option (Bool)
  | 0, _, _, _, _, _, _, _, _ => none
  | k + 1, x0, x1, x5, x29, x181000, x181001, x181002, x181003 => if x29 = true then (if x5 = true then (some true) else (none)) else (octroilaw11_NeighLost.l0 k x0 x1 0 x181000 x181001 x181002 x181003)
def octroilaw11_NeighLost.l0 : Nat → List (S29) → Int → Int → Int → Int → Bool → Int → Option (Bool)
  | 0, _, _, _, _, _, _, _ => none
  | k + 1, x0, x1, x7, x181000, x181001, x181002, x181003 => if x7 < (x0.length : Int) then (if 0 ≤ x7 then (if ((rd_T29 x0 x7).f0) = 0 then ((neigh_Neigh_Hello.f k x181000 x181001 x181002 x181003 (IntKind.u16.wrap ((rd_T29 x0 x7).f1))).bind fun bt183 => (octroilaw11_NeighLost.l0 k x0 x1 (wrap64 (x7 + 1)) bt183.1 bt183.2.1 bt183.2.2.1 bt183.2.2.2)) else ((neigh_Neigh_Ihu.f x181000 x181001 x181002 x181003 ((rd_T29 x0 x7).f1)).bind fun bt188 => (octroilaw11_NeighLost.l0 k x0 x1 (wrap64 (x7 + 1)) bt188.1 bt188.2.1 bt188.2.2.1 bt188.2.2.2))) else (none)) else (octroilaw11_NeighLost.l1 k x1 0 x181000 x181001 x181002 x181003)
def octroilaw11_NeighLost.l1 : Nat → Int → Int → Int → Int → Bool → Int → Option (Bool)
  | 0, _, _, _, _, _, _ => none
  | k + 1, x1, x8, x181000, x181001, x181002, x181003 => if x8 < x1 then ((neigh_Neigh_Miss.f x181000 x181001 x181002 x181003).bind fun bt192 => (octroilaw11_NeighLost.l1 k x1 (wrap64 (x8 + 1)) bt192.1 bt192.2.1 bt192.2.2.1 bt192.2.2.2)) else ((neigh_Neigh_Cost.f x181000 x181001 x181002 x181003).bind fun bt196 => (if bt196.1 = 65535 then ((neigh_Neigh_Rx.f bt196.2.1 bt196.2.2.1 bt196.2.2.2.1 bt196.2.2.2.2).bind fun bt201 => (if bt201.1 = 65535 then (if x1 < 16 then (some true) else ((neigh_Neigh_History.f bt201.2.1 bt201.2.2.1 bt201.2.2.2.1 bt201.2.2.2.2).bind fun bt206 => (some (bt206.1 == 0)))) else (none))) else (none)))
end
def octroilaw11_NeighLost.f (k : Nat) (l0 : List (S29)) (a1 : Int) : Option (Bool) := (octroilaw11_awake.f k).bind fun t175 => ((neigh_New.f).bind fun bt176 => (if t175 = true then (if (l0.length : Int) > 200 then (octroilaw11_NeighLost.j0 k l0 a1 t175 true bt176.1 bt176.2.1 bt176.2.2.1 bt176.2.2.2) else (if a1 < 2 then (octroilaw11_NeighLost.j0 k l0 a1 t175 true bt176.1 bt176.2.1 bt176.2.2.1 bt176.2.2.2) else (octroilaw11_NeighLost.j0 k l0 a1 t175 (decide (a1 > 100)) bt176.1 bt176.2.1 bt176.2.2.1 bt176.2.2.2))) else (octroilaw11_NeighLost.j0 k l0 a1 t175 true bt176.1 bt176.2.1 bt176.2.2.1 bt176.2.2.2)))
theorem octroilaw11_NeighLost.mono_l : ∀ k, (∀ y0 y1 y2 y3 y4 y5 y6 y7, LeO (octroilaw11_NeighLost.j0 k y0 y1 y2 y3 y4 y5 y6 y7) (octroilaw11_NeighLost.j0 (k + 1) y0 y1 y2 y3 y4 y5 y6 y7)) ∧ (∀ y0 y1 y2 y3 y4 y5 y6, LeO (octroilaw11_NeighLost.l0 k y0 y1 y2 y3 y4 y5 y6) (octroilaw11_NeighLost.l0 (k + 1) y0 y1 y2 y3 y4 y5 y6)) ∧ (∀ y0 y1 y2 y3 y4 y5, LeO (octroilaw11_NeighLost.l1 k y0 y1 y2 y3 y4 y5) (octroilaw11_NeighLost.l1 (k + 1) y0 y1 y2 y3 y4 y5))
  | 0 => ⟨fun _ _ _ _ _ _ _ _ r h => by simp [octroilaw11_NeighLost.j0] at h, fun _ _ _ _ _ _ _ r h => by simp [octroilaw11_NeighLost.l0] at h, fun _ _ _ _ _ _ r h => by simp [octroilaw11_NeighLost.l1] at h⟩
  | k + 1 => by
    obtain ⟨ih0, ih1, ih2⟩ := octroilaw11_NeighLost.mono_l k
    refine ⟨?_, ?_, ?_⟩
    · intro y0 y1 y2 y3 y4 y5 y6 y7
      unfold octroilaw11_NeighLost.j0
      repeat' first
      | (with_reducible exact ih0 _ _ _ _ _ _ _ _)
      | (with_reducible exact ih1 _ _ _ _ _ _ _)
      | (with_reducible exact ih2 _ _ _ _ _ _)
      | (with_reducible exact neigh_Neigh_Hello.mono _ _ _ _ _ _)
      | (with_reducible exact octroilaw11_awake.mono _)
      | (with_reducible exact LeO.refl _)
      | (with_reducible exact LeO.none _)
      | (with_reducible refine LeO.ite ?_ ?_)
      | (with_reducible refine LeO.bind ?_ (fun _ => ?_))
      | exact ih0 _ _ _ _ _ _ _ _
      | exact ih1 _ _ _ _ _ _ _
      | exact ih2 _ _ _ _ _ _
      | exact neigh_Neigh_Hello.mono _ _ _ _ _ _
      | exact octroilaw11_awake.mono _
      | exact LeO.none _
      | refine LeO.ite ?_ ?_
      | refine LeO.bind ?_ (fun _ => ?_)
    · intro y0 y1 y2 y3 y4 y5 y6
      unfold octroilaw11_NeighLost.l0
      repeat' first
      | (with_reducible exact ih0 _ _ _ _ _ _ _ _)
      | (with_reducible exact ih1 _ _ _ _ _ _ _)
      | (with_reducible exact ih2 _ _ _ _ _ _)
      | (with_reducible exact neigh_Neigh_Hello.mono _ _ _ _ _ _)
      | (with_reducible exact octroilaw11_awake.mono _)
      | (with_reducible exact LeO.refl _)
      | (with_reducible exact LeO.none _)
      | (with_reducible refine LeO.ite ?_ ?_)
      | (with_reducible refine LeO.bind ?_ (fun _ => ?_))
      | exact ih0 _ _ _ _ _ _ _ _
      | exact ih1 _ _ _ _ _ _ _
      | exact ih2 _ _ _ _ _ _
      | exact neigh_Neigh_Hello.mono _ _ _ _ _ _
      | exact octroilaw11_awake.mono _
      | exact LeO.none _
      | refine LeO.ite ?_ ?_
      | refine LeO.bind ?_ (fun _ => ?_)
    · intro y0 y1 y2 y3 y4 y5
      unfold octroilaw11_NeighLost.l1
      repeat' first
      | (with_reducible exact ih0 _ _ _ _ _ _ _ _)
      | (with_reducible exact ih1 _ _ _ _ _ _ _)
      | (with_reducible exact ih2 _ _ _ _ _ _)
      | (with_reducible exact neigh_Neigh_Hello.mono _ _ _ _ _ _)
      | (with_reducible exact octroilaw11_awake.mono _)
      | (with_reducible exact LeO.refl _)
      | (with_reducible exact LeO.none _)
      | (with_reducible refine LeO.ite ?_ ?_)
      | (with_reducible refine LeO.bind ?_ (fun _ => ?_))
      | exact ih0 _ _ _ _ _ _ _ _
      | exact ih1 _ _ _ _ _ _ _
      | exact ih2 _ _ _ _ _ _
      | exact neigh_Neigh_Hello.mono _ _ _ _ _ _
      | exact octroilaw11_awake.mono _
      | exact LeO.none _
      | refine LeO.ite ?_ ?_
      | refine LeO.bind ?_ (fun _ => ?_)
theorem octroilaw11_NeighLost.mono : ∀ a0 a1 k, LeO (octroilaw11_NeighLost.f k a0 a1) (octroilaw11_NeighLost.f (k + 1) a0 a1) := by
  intro a0 a1 k
  obtain ⟨ih0, ih1, ih2⟩ := octroilaw11_NeighLost.mono_l k
  unfold octroilaw11_NeighLost.f
  repeat' first
      | (with_reducible exact ih0 _ _ _ _ _ _ _ _)
      | (with_reducible exact ih1 _ _ _ _ _ _ _)
      | (with_reducible exact ih2 _ _ _ _ _ _)
      | (with_reducible exact neigh_Neigh_Hello.mono _ _ _ _ _ _)
      | (with_reducible exact octroilaw11_awake.mono _)
      | (with_reducible exact LeO.refl _)
      | (with_reducible exact LeO.none _)
      | (with_reducible refine LeO.ite ?_ ?_)
      | (with_reducible refine LeO.bind ?_ (fun _ => ?_))
      | exact ih0 _ _ _ _ _ _ _ _
      | exact ih1 _ _ _ _ _ _ _
      | exact ih2 _ _ _ _ _ _
      | exact neigh_Neigh_Hello.mono _ _ _ _ _ _
      | exact octroilaw11_awake.mono _
      | exact LeO.none _
      | refine LeO.ite ?_ ?_
      | refine LeO.bind ?_ (fun _ => ?_)
set_option maxHeartbeats 8000000 in
set_option maxRecDepth 100000 in
theorem octroilaw11_NeighLost.calls (k : Nat) (A0 : Option Addr) (c0 : Nat) (l0 : List (S29)) (a1 : Int) (r : Bool) (w : World) (hr0 : Kd.C k29 w A0 l0.length l0) (hc0 : l0.length ≤ c0) (h : octroilaw11_NeighLost.f k l0 a1 = some r) :
    Calls Try.prog 4 #[.slice A0 l0.length c0, .int .i64 a1] w fun e w' => e = .returned (.bool r) ∧ Below w.heap.size w w' := by
  have hup24 : Try.prog.underlying 24 = some (.pointer 40) := by kernel_rfl
  have HR0 := Aside0.mk hr0
  have HC0 := Aside0.mk hc0
  clear hr0 hc0
  have HB := Aside0.mk (Below.refl w.heap.size w)
  have H : ((octroilaw11_awake.f k).bind fun t175 => ((neigh_New.f).bind fun bt176 => (if t175 = true then (if (l0.length : Int) > 200 then (octroilaw11_NeighLost.j0 k l0 a1 t175 true bt176.1 bt176.2.1 bt176.2.2.1 bt176.2.2.2) else (if a1 < 2 then (octroilaw11_NeighLost.j0 k l0 a1 t175 true bt176.1 bt176.2.1 bt176.2.2.1 bt176.2.2.2) else (octroilaw11_NeighLost.j0 k l0 a1 t175 (decide (a1 > 100)) bt176.1 bt176.2.1 bt176.2.2.1 bt176.2.2.2))) else (octroilaw11_NeighLost.j0 k l0 a1 t175 true bt176.1 bt176.2.1 bt176.2.2.1 bt176.2.2.2)))) = some r := h
  clear h
  replace H := Option.bind_eq_some_iff.mp H
  obtain ⟨t175, A30, H⟩ := H
  replace H : ((neigh_New.f).bind fun bt176 => (if t175 = true then (if (l0.length : Int) > 200 then (octroilaw11_NeighLost.j0 k l0 a1 t175 true bt176.1 bt176.2.1 bt176.2.2.1 bt176.2.2.2) else (if a1 < 2 then (octroilaw11_NeighLost.j0 k l0 a1 t175 true bt176.1 bt176.2.1 bt176.2.2.1 bt176.2.2.2) else (octroilaw11_NeighLost.j0 k l0 a1 t175 (decide (a1 > 100)) bt176.1 bt176.2.1 bt176.2.2.1 bt176.2.2.2))) else (octroilaw11_NeighLost.j0 k l0 a1 t175 true bt176.1 bt176.2.1 bt176.2.2.1 bt176.2.2.2))) = some r := H
  have A3 := Aside0.mk A30
  clear A30
  replace H := Option.bind_eq_some_iff.mp H
  obtain ⟨⟨t176, t177, t178, t179⟩, A40, H⟩ := H
  replace H : (if t175 = true then (if (l0.length : Int) > 200 then (octroilaw11_NeighLost.j0 k l0 a1 t175 true t176 t177 t178 t179) else (if a1 < 2 then (octroilaw11_NeighLost.j0 k l0 a1 t175 true t176 t177 t178 t179) else (octroilaw11_NeighLost.j0 k l0 a1 t175 (decide (a1 > 100)) t176 t177 t178 t179))) else (octroilaw11_NeighLost.j0 k l0 a1 t175 true t176 t177 t178 t179)) = some r := H
  have A4 := Aside0.mk A40
  clear A40
  have HC5 := Aside0.mk H
  clear H
  go_enter Try.func4, Try.ntmps4
  go_upto_region 3 with (first | ((with_reducible refine gate_callee (f := 9) rfl ?_); refine goesL_ (some 9) rfl rfl Try.func9 (by kernel_rfl) rfl #[] rfl (by (try simp only [List.map_toArray, List.map_cons, List.map_nil]); first | done | rfl | (simp only [List.length_drop, List.length_take]; rfl)) ?_; (with_reducible refine (octroilaw11_awake.calls k  t175 _ A3.out).mono ?_); rintro e w6 ⟨rfl, hb⟩; refine ⟨_, rfl, ?_⟩; have n0_ := Aside0.mk (below_step (by repeat (first | (with_reducible first | exact HB.out | apply below_alloc | apply pw_below_drewN | apply below_drew1) | exact HB.out)) hb); clear HB; have HB := n0_; clear n0_; (try clear hb); (try clear hb2); (try clear hk); (try clear hi)) | ((with_reducible refine gate_callee (f := 10) rfl ?_); refine goesL_ (some 10) rfl rfl Try.func10 (by kernel_rfl) rfl #[] rfl (by (try simp only [List.map_toArray, List.map_cons, List.map_nil]); first | done | rfl | (simp only [List.length_drop, List.length_take]; rfl)) ?_; (with_reducible refine (neigh_New.calls  t176 t177 t178 t179 w _ ?side1 A4.out).mono ?_); (case side1 => repeat (first | (with_reducible first | exact HB.out | apply below_alloc | apply pw_below_drewN | apply below_drew1) | exact HB.out)); rintro e w7 ⟨g180, rfl, hi, hb, hb2⟩; refine ⟨_, rfl, ?_⟩; have n0_ := Aside0.mk (hb); have n1_ := Aside0.mk (hi); clear HB; have HB := n0_; have HI180 := n1_; clear n0_ n1_; (try clear hb); (try clear hb2); (try clear hk); (try clear hi)))
  (try simp only [Act.put, List.setIfInBounds_toArray, List.set_cons_zero, List.set_cons_succ])
  go_cut [29] (fun v29 wc => ∃ (kq : Nat) (x29_4 : Bool), v29 = .bool x29_4 ∧ Aside0 (octroilaw11_NeighLost.j0 kq l0 a1 t175 x29_4 t176 t177 t178 t179 = some r) ∧ Aside0 (kq ≤ k) ∧ Aside0 (IsS40 w wc g180 t176 t177 t178 t179) ∧ Aside0 (Below w.heap.size w wc))
  case first =>
    have H := HC5.out
    clear HC5
    by_cases c8 : t175 = true
    · subst c8
      have H1 : (if (l0.length : Int) > 200 then (octroilaw11_NeighLost.j0 k l0 a1 true true t176 t177 t178 t179) else (if a1 < 2 then (octroilaw11_NeighLost.j0 k l0 a1 true true t176 t177 t178 t179) else (octroilaw11_NeighLost.j0 k l0 a1 true (decide (a1 > 100)) t176 t177 t178 t179))) = some r := by rw [if_pos rfl] at H; exact H
      clear H
      have H := H1
      clear H1
      by_cases c9 : (l0.length : Int) > 200
      · rw [if_pos c9] at H
        have c9b0 : decide (200 < (l0.length : Int)) = true := decide_eq_true c9
        have c9b1 : decide (200 < l0.length) = true := decide_eq_true (by omega)
        clear c9
        (first | rw [c9b0] | (simp only [i64_w, i32_w]; rw [c9b0]) | skip)
        have H' := Aside0.mk H
        clear H
        go_wp2
        go_meet
        case rel => exact ⟨_, (true), (by first | rfl | (simp; done) | (simp [*]; done)), H', ⟨by first | omega | exact Nat.le_refl _⟩, ⟨by repeat (first | (with_reducible first | exact HI180.out | apply IsS40.alloc | apply IsS40.drewN | apply IsS40.drew | apply IsS40.set_0 | apply IsS40.set_1 | apply IsS40.set_2 | apply IsS40.set_3) | exact HI180.out)⟩, ⟨by repeat (first | (with_reducible first | exact HB.out | apply below_alloc | apply pw_below_drewN | apply below_drew1 | refine below_set ?_ (IsS40.ge HI180.out)) | exact HB.out)⟩⟩
      · rw [if_neg c9] at H
        have c9b0 : decide (200 < (l0.length : Int)) = false := decide_eq_false c9
        have c9b1 : decide (200 < l0.length) = false := decide_eq_false (by omega)
        clear c9
        (first | rw [c9b0] | (simp only [i64_w, i32_w]; rw [c9b0]) | skip)
        by_cases c10 : a1 < 2
        · rw [if_pos c10] at H
          have c10b0 : decide (a1 < 2) = true := decide_eq_true c10
          clear c10
          have H' := Aside0.mk H
          clear H
          go_wp2
          go_meet
          case rel => exact ⟨_, (true), (by first | rfl | (simp; done) | (simp [*]; done)), H', ⟨by first | omega | exact Nat.le_refl _⟩, ⟨by repeat (first | (with_reducible first | exact HI180.out | apply IsS40.alloc | apply IsS40.drewN | apply IsS40.drew | apply IsS40.set_0 | apply IsS40.set_1 | apply IsS40.set_2 | apply IsS40.set_3) | exact HI180.out)⟩, ⟨by repeat (first | (with_reducible first | exact HB.out | apply below_alloc | apply pw_below_drewN | apply below_drew1 | refine below_set ?_ (IsS40.ge HI180.out)) | exact HB.out)⟩⟩
        · rw [if_neg c10] at H
          have c10b0 : decide (a1 < 2) = false := decide_eq_false c10
          clear c10
          have H' := Aside0.mk H
          clear H
          go_wp2
          go_meet
          case rel => exact ⟨_, (decide (a1 > 100)), (by first | rfl | (simp; done) | (simp [*]; done)), H', ⟨by first | omega | exact Nat.le_refl _⟩, ⟨by repeat (first | (with_reducible first | exact HI180.out | apply IsS40.alloc | apply IsS40.drewN | apply IsS40.drew | apply IsS40.set_0 | apply IsS40.set_1 | apply IsS40.set_2 | apply IsS40.set_3) | exact HI180.out)⟩, ⟨by repeat (first | (with_reducible first | exact HB.out | apply below_alloc | apply pw_below_drewN | apply below_drew1 | refine below_set ?_ (IsS40.ge HI180.out)) | exact HB.out)⟩⟩
    · replace c8 := Bool.eq_false_iff.mpr c8
      subst c8
      have H1 : (octroilaw11_NeighLost.j0 k l0 a1 false true t176 t177 t178 t179) = some r := by rw [if_neg (show ¬ (false = true) by decide)] at H; exact H
      clear H
      have H := H1
      clear H1
      have H' := Aside0.mk H
      clear H
      go_wp2
      go_meet
      case rel => exact ⟨_, (true), (by first | rfl | (simp; done) | (simp [*]; done)), H', ⟨by first | omega | exact Nat.le_refl _⟩, ⟨by repeat (first | (with_reducible first | exact HI180.out | apply IsS40.alloc | apply IsS40.drewN | apply IsS40.drew | apply IsS40.set_0 | apply IsS40.set_1 | apply IsS40.set_2 | apply IsS40.set_3) | exact HI180.out)⟩, ⟨by repeat (first | (with_reducible first | exact HB.out | apply below_alloc | apply pw_below_drewN | apply below_drew1 | refine below_set ?_ (IsS40.ge HI180.out)) | exact HB.out)⟩⟩
  case rest =>
    clear HC5
    try clear c1
    try clear p2
    try clear c4
    try clear c8
    try clear c9
    try clear c9b0
    try clear c9b1
    try clear c10
    try clear c10b0
    obtain ⟨kq, x29_4, rfl, HA, HJ4, HI180, HB⟩ := hcut
    cases kq with
    | zero => exact absurd HA.out (by simp [octroilaw11_NeighLost.j0])
    | succ kj4 =>
      have H := HA.out
      clear HA
      simp only [octroilaw11_NeighLost.j0] at H
      by_cases c11 : x29_4 = true
      · subst c11
        have H1 : (if t175 = true then (some true) else (none)) = some r := by rw [if_pos rfl] at H; exact H
        clear H
        have H := H1
        clear H1
        by_cases c12 : t175 = true
        · subst c12
          have H1 : (some true) = some r := by rw [if_pos rfl] at H; exact H
          clear H
          have H := H1
          clear H1
          obtain rfl := Option.some.inj H
          go_wp2
          go_ret
          exact ⟨by first | rfl | (simp [errW_none, errW_some] <;> rfl) | (simp [*, errW_none, errW_some] <;> rfl), by repeat (first | (with_reducible first | exact HB.out | apply below_alloc | apply pw_below_drewN | apply below_drew1 | refine below_set ?_ (IsS40.ge HI180.out)) | exact HB.out)⟩
        · replace c12 := Bool.eq_false_iff.mpr c12
          subst c12
          have H1 : (none) = some r := by rw [if_neg (show ¬ (false = true) by decide)] at H; exact H
          clear H
          have H := H1
          clear H1
          exact absurd H (by simp)
      · replace c11 := Bool.eq_false_iff.mpr c11
        subst c11
        have H1 : (octroilaw11_NeighLost.l0 kj4 l0 a1 0 t176 t177 t178 t179) = some r := by rw [if_neg (show ¬ (false = true) by decide)] at H; exact H
        clear H
        have H := H1
        clear H1
        have H' := Aside0.mk H
        clear H
        go_wp2
        go_loopg [7] kj4 (fun kq v7 w' => ∃ (x7_2 : Int) (x181000_2 : Int) (x181001_2 : Int) (x181002_2 : Bool) (x181003_2 : Int), v7 = .int .i64 x7_2 ∧ Aside0 (octroilaw11_NeighLost.l0 kq l0 a1 x7_2 x181000_2 x181001_2 x181002_2 x181003_2 = some r) ∧ Aside0 (kq ≤ kj4) ∧ Aside0 (IsS40 w w' g180 x181000_2 x181001_2 x181002_2 x181003_2) ∧ Aside0 (Below w.heap.size w w'))
        case atStart => exact ⟨(0), (t176), (t177), (t178), (t179), (by first | rfl | (simp; done) | (simp [*]; done)), H', ⟨Nat.le_refl _⟩, ⟨by repeat (first | (with_reducible first | exact HI180.out | apply IsS40.alloc | apply IsS40.drewN | apply IsS40.drew | apply IsS40.set_0 | apply IsS40.set_1 | apply IsS40.set_2 | apply IsS40.set_3) | exact HI180.out)⟩, ⟨by repeat (first | (with_reducible first | exact HB.out | apply below_alloc | apply pw_below_drewN | apply below_drew1 | refine below_set ?_ (IsS40.ge HI180.out)) | exact HB.out)⟩⟩
        case round =>
          clear H'
          try clear c1
          try clear p2
          try clear c4
          try clear c8
          try clear c9
          try clear c9b0
          try clear c9b1
          try clear c10
          try clear c10b0
          try clear c11
          try clear c12
          try clear p2
          obtain ⟨x7_2, x181000_2, x181001_2, x181002_2, x181003_2, rfl, HA, HK2, HI180, HB⟩ := hrel
          cases gk with
          | zero => exact absurd HA.out (by simp [octroilaw11_NeighLost.l0])
          | succ k2 =>
            have H := HA.out
            clear HA
            simp only [octroilaw11_NeighLost.l0] at H
            by_cases c13 : x7_2 < (l0.length : Int)
            · rw [if_pos c13] at H
              have c13b0 : decide (x7_2 < (l0.length : Int)) = true := decide_eq_true c13
              clear c13
              by_cases c14 : 0 ≤ x7_2
              · rw [if_pos c14] at H
                have c14b0 : decide (0 ≤ x7_2) = true := decide_eq_true c14
                clear c14
                by_cases c15 : ((rd_T29 l0 x7_2).f0) = 0
                · rw [if_pos c15] at H
                  have c15b0 : (((rd_T29 l0 x7_2).f0) == 0) = true := beq_iff_eq.mpr c15
                  have c15b1 : (((rd_T29 l0 x7_2).f0) != 0) = false := bne_eq_false_iff_eq.mpr c15
                  clear c15
                  replace H := Option.bind_eq_some_iff.mp H
                  obtain ⟨⟨t183, t184, t185, t186⟩, A160, H⟩ := H
                  replace H : (octroilaw11_NeighLost.l0 k2 l0 a1 (wrap64 (x7_2 + 1)) t183 t184 t185 t186) = some r := H
                  have A16 := Aside0.mk A160
                  clear A160
                  have H' := Aside0.mk H
                  clear H
                  have p181 : 0 ≤ (x7_2 : Int) := of_decide_eq_true (by first | (with_reducible assumption) | assumption)
                  have q181 : x7_2 < (l0.length : Int) := of_decide_eq_true (by first | (with_reducible assumption) | assumption)
                  obtain ⟨ad181, e181, hx181_0, hx181_1⟩ := at_T29 HR0.out x7_2 p181 q181
                  cases e181
                  replace hx181_0 := (HB.out.cell (World.block_lt_of_cell? w _ hx181_0)).trans hx181_0
                  replace hx181_1 := (HB.out.cell (World.block_lt_of_cell? w _ hx181_1)).trans hx181_1
                  replace p181 := eq_true p181
                  replace q181 := eq_true q181
                  have p182 : 0 ≤ (x7_2 : Int) := of_decide_eq_true (by first | (with_reducible assumption) | assumption)
                  have q182 : x7_2 < (l0.length : Int) := of_decide_eq_true (by first | (with_reducible assumption) | assumption)
                  obtain ⟨ad182, e182, hx182_0, hx182_1⟩ := at_T29 HR0.out x7_2 p182 q182
                  obtain rfl : ad181 = ad182 := (by injection e182)
                  replace hx182_0 := (HB.out.cell (World.block_lt_of_cell? w _ hx182_0)).trans hx182_0
                  replace hx182_1 := (HB.out.cell (World.block_lt_of_cell? w _ hx182_1)).trans hx182_1
                  replace p182 := eq_true p182
                  replace q182 := eq_true q182
                  go_wp2_with (first | ((with_reducible refine gate_callee (f := 12) rfl ?_); refine goesL_ (some 54) rfl rfl Try.func12 (by kernel_rfl) rfl #[.pointer (some ⟨g180, 0, none⟩), .int .u16 (IntKind.u16.wrap ((rd_T29 l0 x7_2).f1))] rfl (by (try simp only [List.map_toArray, List.map_cons, List.map_nil]); first | done | rfl | (simp only [List.length_drop, List.length_take]; rfl)) ?_; (with_reducible refine (neigh_Neigh_Hello.calls k2 g180 x181000_2 x181001_2 x181002_2 x181003_2 (IntKind.u16.wrap ((rd_T29 l0 x7_2).f1)) t183 t184 t185 t186 w _ ?side1 ?side2 A16.out).mono ?_); (case side1 => repeat (first | (with_reducible first | exact HI180.out | apply IsS40.alloc | apply IsS40.drewN | apply IsS40.drew | apply IsS40.set_0 | apply IsS40.set_1 | apply IsS40.set_2 | apply IsS40.set_3) | exact HI180.out)); (case side2 => repeat (first | (with_reducible first | exact HB.out | apply below_alloc | apply pw_below_drewN | apply below_drew1 | refine below_set ?_ (IsS40.ge HI180.out)) | exact HB.out)); rintro e w17 ⟨rfl, hi, hb, hk⟩; refine ⟨_, rfl, ?_⟩; have n0_ := Aside0.mk (hb); have n1_ := Aside0.mk (hi); clear HB; clear HI180; have HB := n0_; have HI180 := n1_; clear n0_ n1_; (try clear hb); (try clear hb2); (try clear hk); (try clear hi)))
                  go_roundg k2
                  case measure => have := HJ4.out; have := HK2.out; omega
                  case rel => exact ⟨(wrap64 (x7_2 + 1)), (t183), (t184), (t185), (t186), (by first | rfl | (simp; done) | (simp [*]; done)), H', ⟨by have := HJ4.out; have := HK2.out; omega⟩, ⟨by repeat (first | (with_reducible first | exact HI180.out | apply IsS40.alloc | apply IsS40.drewN | apply IsS40.drew | apply IsS40.set_0 | apply IsS40.set_1 | apply IsS40.set_2 | apply IsS40.set_3) | exact HI180.out)⟩, ⟨by repeat (first | (with_reducible first | exact HB.out | apply below_alloc | apply pw_below_drewN | apply below_drew1 | refine below_set ?_ (IsS40.ge HI180.out)) | exact HB.out)⟩⟩
                · rw [if_neg c15] at H
                  have c15b0 : (((rd_T29 l0 x7_2).f0) == 0) = false := beq_eq_false_iff_ne.mpr c15
                  have c15b1 : (((rd_T29 l0 x7_2).f0) != 0) = true := bne_iff_ne.mpr c15
                  replace H := Option.bind_eq_some_iff.mp H
                  obtain ⟨⟨t188, t189, t190, t191⟩, A180, H⟩ := H
                  replace H : (octroilaw11_NeighLost.l0 k2 l0 a1 (wrap64 (x7_2 + 1)) t188 t189 t190 t191) = some r := H
                  have A18 := Aside0.mk A180
                  clear A180
                  have H' := Aside0.mk H
                  clear H
                  have p181 : 0 ≤ (x7_2 : Int) := of_decide_eq_true (by first | (with_reducible assumption) | assumption)
                  have q181 : x7_2 < (l0.length : Int) := of_decide_eq_true (by first | (with_reducible assumption) | assumption)
                  obtain ⟨ad181, e181, hx181_0, hx181_1⟩ := at_T29 HR0.out x7_2 p181 q181
                  cases e181
                  replace hx181_0 := (HB.out.cell (World.block_lt_of_cell? w _ hx181_0)).trans hx181_0
                  replace hx181_1 := (HB.out.cell (World.block_lt_of_cell? w _ hx181_1)).trans hx181_1
                  replace p181 := eq_true p181
                  replace q181 := eq_true q181
                  have p187 : 0 ≤ (x7_2 : Int) := of_decide_eq_true (by first | (with_reducible assumption) | assumption)
                  have q187 : x7_2 < (l0.length : Int) := of_decide_eq_true (by first | (with_reducible assumption) | assumption)
                  obtain ⟨ad187, e187, hx187_0, hx187_1⟩ := at_T29 HR0.out x7_2 p187 q187
                  obtain rfl : ad181 = ad187 := (by injection e187)
                  replace hx187_0 := (HB.out.cell (World.block_lt_of_cell? w _ hx187_0)).trans hx187_0
                  replace hx187_1 := (HB.out.cell (World.block_lt_of_cell? w _ hx187_1)).trans hx187_1
                  replace p187 := eq_true p187
                  replace q187 := eq_true q187
                  go_wp2_with (first | ((with_reducible refine gate_callee (f := 16) rfl ?_); refine goesL_ (some 61) rfl rfl Try.func16 (by kernel_rfl) rfl #[.pointer (some ⟨g180, 0, none⟩), .int .i64 ((rd_T29 l0 x7_2).f1)] rfl (by (try simp only [List.map_toArray, List.map_cons, List.map_nil]); first | done | rfl | (simp only [List.length_drop, List.length_take]; rfl)) ?_; (with_reducible refine (neigh_Neigh_Ihu.calls g180 x181000_2 x181001_2 x181002_2 x181003_2 ((rd_T29 l0 x7_2).f1) t188 t189 t190 t191 w _ ?side1 ?side2 A18.out).mono ?_); (case side1 => repeat (first | (with_reducible first | exact HI180.out | apply IsS40.alloc | apply IsS40.drewN | apply IsS40.drew | apply IsS40.set_0 | apply IsS40.set_1 | apply IsS40.set_2 | apply IsS40.set_3) | exact HI180.out)); (case side2 => repeat (first | (with_reducible first | exact HB.out | apply below_alloc | apply pw_below_drewN | apply below_drew1 | refine below_set ?_ (IsS40.ge HI180.out)) | exact HB.out)); rintro e w19 ⟨rfl, hi, hb, hk⟩; refine ⟨_, rfl, ?_⟩; have n0_ := Aside0.mk (hb); have n1_ := Aside0.mk (hi); clear HB; clear HI180; have HB := n0_; have HI180 := n1_; clear n0_ n1_; (try clear hb); (try clear hb2); (try clear hk); (try clear hi)))
                  go_roundg k2
                  case measure => have := HJ4.out; have := HK2.out; omega
                  case rel => exact ⟨(wrap64 (x7_2 + 1)), (t188), (t189), (t190), (t191), (by first | rfl | (simp; done) | (simp [*]; done)), H', ⟨by have := HJ4.out; have := HK2.out; omega⟩, ⟨by repeat (first | (with_reducible first | exact HI180.out | apply IsS40.alloc | apply IsS40.drewN | apply IsS40.drew | apply IsS40.set_0 | apply IsS40.set_1 | apply IsS40.set_2 | apply IsS40.set_3) | exact HI180.out)⟩, ⟨by repeat (first | (with_reducible first | exact HB.out | apply below_alloc | apply pw_below_drewN | apply below_drew1 | refine below_set ?_ (IsS40.ge HI180.out)) | exact HB.out)⟩⟩
              · rw [if_neg c14] at H
                exact absurd H (by simp)
            · rw [if_neg c13] at H
              have c13b0 : decide (x7_2 < (l0.length : Int)) = false := decide_eq_false c13
              clear c13
              have H' := Aside0.mk H
              clear H
              go_wp2
              go_loopg [8] k2 (fun kq v8 w' => ∃ (x8_3 : Int) (x181000_3 : Int) (x181001_3 : Int) (x181002_3 : Bool) (x181003_3 : Int), v8 = .int .i64 x8_3 ∧ Aside0 (octroilaw11_NeighLost.l1 kq a1 x8_3 x181000_3 x181001_3 x181002_3 x181003_3 = some r) ∧ Aside0 (kq ≤ k2) ∧ Aside0 (IsS40 w w' g180 x181000_3 x181001_3 x181002_3 x181003_3) ∧ Aside0 (Below w.heap.size w w'))
              case atStart => exact ⟨(0), (x181000_2), (x181001_2), (x181002_2), (x181003_2), (by first | rfl | (simp; done) | (simp [*]; done)), H', ⟨Nat.le_refl _⟩, ⟨by repeat (first | (with_reducible first | exact HI180.out | apply IsS40.alloc | apply IsS40.drewN | apply IsS40.drew | apply IsS40.set_0 | apply IsS40.set_1 | apply IsS40.set_2 | apply IsS40.set_3) | exact HI180.out)⟩, ⟨by repeat (first | (with_reducible first | exact HB.out | apply below_alloc | apply pw_below_drewN | apply below_drew1 | refine below_set ?_ (IsS40.ge HI180.out)) | exact HB.out)⟩⟩
              case round =>
                clear H'
                try clear c1
                try clear p1
                try clear q1
                try clear hx1
                try clear p2
                try clear c4
                try clear p6
                try clear c8
                try clear c9
                try clear c9b0
                try clear c9b1
                try clear c10
                try clear c10b0
                try clear c11
                try clear c12
                try clear c13
                try clear c13b0
                try clear c14
                try clear c14b0
                try clear c15
                try clear c15b0
                try clear c15b1
                try clear c16
                try clear p18
                try clear q18
                try clear hx18
                try clear hx181_0
                try clear hx181_1
                try clear hx182_0
                try clear hx182_1
                try clear hx187_0
                try clear hx187_1
                try clear p181
                try clear p182
                try clear p187
                try clear p2
                try clear q181
                try clear q182
                try clear q187
                obtain ⟨x8_3, x181000_3, x181001_3, x181002_3, x181003_3, rfl, HA, HK3, HI180, HB⟩ := hrel
                cases gk with
                | zero => exact absurd HA.out (by simp [octroilaw11_NeighLost.l1])
                | succ k3 =>
                  have H := HA.out
                  clear HA
                  simp only [octroilaw11_NeighLost.l1] at H
                  by_cases c20 : x8_3 < a1
                  · rw [if_pos c20] at H
                    have c20b0 : decide (x8_3 < a1) = true := decide_eq_true c20
                    clear c20
                    replace H := Option.bind_eq_some_iff.mp H
                    obtain ⟨⟨t192, t193, t194, t195⟩, A210, H⟩ := H
                    replace H : (octroilaw11_NeighLost.l1 k3 a1 (wrap64 (x8_3 + 1)) t192 t193 t194 t195) = some r := H
                    have A21 := Aside0.mk A210
                    clear A210
                    have H' := Aside0.mk H
                    clear H
                    go_wp2_with (first | ((with_reducible refine gate_callee (f := 14) rfl ?_); refine goesL_ (some 68) rfl rfl Try.func14 (by kernel_rfl) rfl #[.pointer (some ⟨g180, 0, none⟩)] rfl (by (try simp only [List.map_toArray, List.map_cons, List.map_nil]); first | done | rfl | (simp only [List.length_drop, List.length_take]; rfl)) ?_; (with_reducible refine (neigh_Neigh_Miss.calls g180 x181000_3 x181001_3 x181002_3 x181003_3 t192 t193 t194 t195 w _ ?side1 ?side2 A21.out).mono ?_); (case side1 => repeat (first | (with_reducible first | exact HI180.out | apply IsS40.alloc | apply IsS40.drewN | apply IsS40.drew | apply IsS40.set_0 | apply IsS40.set_1 | apply IsS40.set_2 | apply IsS40.set_3) | exact HI180.out)); (case side2 => repeat (first | (with_reducible first | exact HB.out | apply below_alloc | apply pw_below_drewN | apply below_drew1 | refine below_set ?_ (IsS40.ge HI180.out)) | exact HB.out)); rintro e w22 ⟨rfl, hi, hb, hk⟩; refine ⟨_, rfl, ?_⟩; have n0_ := Aside0.mk (hb); have n1_ := Aside0.mk (hi); clear HB; clear HI180; have HB := n0_; have HI180 := n1_; clear n0_ n1_; (try clear hb); (try clear hb2); (try clear hk); (try clear hi)))
                    go_roundg k3
                    case measure => have := HJ4.out; have := HK2.out; have := HK3.out; omega
                    case rel => exact ⟨(wrap64 (x8_3 + 1)), (t192), (t193), (t194), (t195), (by first | rfl | (simp; done) | (simp [*]; done)), H', ⟨by have := HJ4.out; have := HK2.out; have := HK3.out; omega⟩, ⟨by repeat (first | (with_reducible first | exact HI180.out | apply IsS40.alloc | apply IsS40.drewN | apply IsS40.drew | apply IsS40.set_0 | apply IsS40.set_1 | apply IsS40.set_2 | apply IsS40.set_3) | exact HI180.out)⟩, ⟨by repeat (first | (with_reducible first | exact HB.out | apply below_alloc | apply pw_below_drewN | apply below_drew1 | refine below_set ?_ (IsS40.ge HI180.out)) | exact HB.out)⟩⟩
                  · rw [if_neg c20] at H
                    have c20b0 : decide (x8_3 < a1) = false := decide_eq_false c20
                    clear c20
                    replace H := Option.bind_eq_some_iff.mp H
                    obtain ⟨⟨t196, t197, t198, t199, t200⟩, A230, H⟩ := H
                    replace H : (if t196 = 65535 then ((neigh_Neigh_Rx.f t197 t198 t199 t200).bind fun bt201 => (if bt201.1 = 65535 then (if a1 < 16 then (some true) else ((neigh_Neigh_History.f bt201.2.1 bt201.2.2.1 bt201.2.2.2.1 bt201.2.2.2.2).bind fun bt206 => (some (bt206.1 == 0)))) else (none))) else (none)) = some r := H
                    have A23 := Aside0.mk A230
                    clear A230
                    by_cases c24 : t196 = 65535
                    · rw [if_pos c24] at H
                      have c24b0 : (t196 == 65535) = true := beq_iff_eq.mpr c24
                      have c24b1 : (t196 != 65535) = false := bne_eq_false_iff_eq.mpr c24
                      clear c24
                      replace H := Option.bind_eq_some_iff.mp H
                      obtain ⟨⟨t201, t202, t203, t204, t205⟩, A250, H⟩ := H
                      replace H : (if t201 = 65535 then (if a1 < 16 then (some true) else ((neigh_Neigh_History.f t202 t203 t204 t205).bind fun bt206 => (some (bt206.1 == 0)))) else (none)) = some r := H
                      have A25 := Aside0.mk A250
                      clear A250
                      by_cases c26 : t201 = 65535
                      · rw [if_pos c26] at H
                        have c26b0 : (t201 == 65535) = true := beq_iff_eq.mpr c26
                        have c26b1 : (t201 != 65535) = false := bne_eq_false_iff_eq.mpr c26
                        clear c26
                        by_cases c27 : a1 < 16
                        · rw [if_pos c27] at H
                          have c27b0 : decide (a1 < 16) = true := decide_eq_true c27
                          clear c27
                          obtain rfl := Option.some.inj H
                          go_wp2_with (first | ((with_reducible refine gate_callee (f := 22) rfl ?_); refine goesL_ (some 70) rfl rfl Try.func22 (by kernel_rfl) rfl #[.pointer (some ⟨g180, 0, none⟩)] rfl (by (try simp only [List.map_toArray, List.map_cons, List.map_nil]); first | done | rfl | (simp only [List.length_drop, List.length_take]; rfl)) ?_; (with_reducible refine (neigh_Neigh_Cost.calls g180 x181000_3 x181001_3 x181002_3 x181003_3 t196 t197 t198 t199 t200 w _ ?side1 ?side2 A23.out).mono ?_); (case side1 => repeat (first | (with_reducible first | exact HI180.out | apply IsS40.alloc | apply IsS40.drewN | apply IsS40.drew | apply IsS40.set_0 | apply IsS40.set_1 | apply IsS40.set_2 | apply IsS40.set_3) | exact HI180.out)); (case side2 => repeat (first | (with_reducible first | exact HB.out | apply below_alloc | apply pw_below_drewN | apply below_drew1 | refine below_set ?_ (IsS40.ge HI180.out)) | exact HB.out)); rintro e w28 ⟨rfl, hi, hb, hk⟩; refine ⟨_, rfl, ?_⟩; have n0_ := Aside0.mk (hb); have n1_ := Aside0.mk (hi); clear HB; clear HI180; have HB := n0_; have HI180 := n1_; clear n0_ n1_; (try clear hb); (try clear hb2); (try clear hk); (try clear hi)) | (go_at_call 20; (with_reducible refine (neigh_Neigh_Rx.calls g180 t197 t198 t199 t200 t201 t202 t203 t204 t205 w _ ?side1 ?side2 A25.out).mono ?_); (case side1 => repeat (first | (with_reducible first | exact HI180.out | apply IsS40.alloc | apply IsS40.drewN | apply IsS40.drew | apply IsS40.set_0 | apply IsS40.set_1 | apply IsS40.set_2 | apply IsS40.set_3) | exact HI180.out)); (case side2 => repeat (first | (with_reducible first | exact HB.out | apply below_alloc | apply pw_below_drewN | apply below_drew1 | refine below_set ?_ (IsS40.ge HI180.out)) | exact HB.out)); rintro e w29 ⟨rfl, hi, hb, hk⟩; have n0_ := Aside0.mk (hb); have n1_ := Aside0.mk (hi); clear HB; clear HI180; have HB := n0_; have HI180 := n1_; clear n0_ n1_; (try clear hb); (try clear hb2); (try clear hk); (try clear hi)))
                          go_ret
                          exact ⟨by first | rfl | (simp [errW_none, errW_some] <;> rfl) | (simp [*, errW_none, errW_some] <;> rfl), by repeat (first | (with_reducible first | exact HB.out | apply below_alloc | apply pw_below_drewN | apply below_drew1 | refine below_set ?_ (IsS40.ge HI180.out)) | exact HB.out)⟩
                        · rw [if_neg c27] at H
                          have c27b0 : decide (a1 < 16) = false := decide_eq_false c27
                          clear c27
                          replace H := Option.bind_eq_some_iff.mp H
                          obtain ⟨⟨t206, t207, t208, t209, t210⟩, A300, H⟩ := H
                          replace H : (some (t206 == 0)) = some r := H
                          have A30 := Aside0.mk A300
                          clear A300
                          obtain rfl := Option.some.inj H
                          go_wp2_with (first | ((with_reducible refine gate_callee (f := 22) rfl ?_); refine goesL_ (some 70) rfl rfl Try.func22 (by kernel_rfl) rfl #[.pointer (some ⟨g180, 0, none⟩)] rfl (by (try simp only [List.map_toArray, List.map_cons, List.map_nil]); first | done | rfl | (simp only [List.length_drop, List.length_take]; rfl)) ?_; (with_reducible refine (neigh_Neigh_Cost.calls g180 x181000_3 x181001_3 x181002_3 x181003_3 t196 t197 t198 t199 t200 w _ ?side1 ?side2 A23.out).mono ?_); (case side1 => repeat (first | (with_reducible first | exact HI180.out | apply IsS40.alloc | apply IsS40.drewN | apply IsS40.drew | apply IsS40.set_0 | apply IsS40.set_1 | apply IsS40.set_2 | apply IsS40.set_3) | exact HI180.out)); (case side2 => repeat (first | (with_reducible first | exact HB.out | apply below_alloc | apply pw_below_drewN | apply below_drew1 | refine below_set ?_ (IsS40.ge HI180.out)) | exact HB.out)); rintro e w31 ⟨rfl, hi, hb, hk⟩; refine ⟨_, rfl, ?_⟩; have n0_ := Aside0.mk (hb); have n1_ := Aside0.mk (hi); clear HB; clear HI180; have HB := n0_; have HI180 := n1_; clear n0_ n1_; (try clear hb); (try clear hb2); (try clear hk); (try clear hi)) | (go_at_call 20; (with_reducible refine (neigh_Neigh_Rx.calls g180 t197 t198 t199 t200 t201 t202 t203 t204 t205 w _ ?side1 ?side2 A25.out).mono ?_); (case side1 => repeat (first | (with_reducible first | exact HI180.out | apply IsS40.alloc | apply IsS40.drewN | apply IsS40.drew | apply IsS40.set_0 | apply IsS40.set_1 | apply IsS40.set_2 | apply IsS40.set_3) | exact HI180.out)); (case side2 => repeat (first | (with_reducible first | exact HB.out | apply below_alloc | apply pw_below_drewN | apply below_drew1 | refine below_set ?_ (IsS40.ge HI180.out)) | exact HB.out)); rintro e w32 ⟨rfl, hi, hb, hk⟩; have n0_ := Aside0.mk (hb); have n1_ := Aside0.mk (hi); clear HB; clear HI180; have HB := n0_; have HI180 := n1_; clear n0_ n1_; (try clear hb); (try clear hb2); (try clear hk); (try clear hi)) | (go_at_call 18; (with_reducible refine (neigh_Neigh_History.calls g180 t202 t203 t204 t205 t206 t207 t208 t209 t210 w _ ?side1 ?side2 A30.out).mono ?_); (case side1 => repeat (first | (with_reducible first | exact HI180.out | apply IsS40.alloc | apply IsS40.drewN | apply IsS40.drew | apply IsS40.set_0 | apply IsS40.set_1 | apply IsS40.set_2 | apply IsS40.set_3) | exact HI180.out)); (case side2 => repeat (first | (with_reducible first | exact HB.out | apply below_alloc | apply pw_below_drewN | apply below_drew1 | refine below_set ?_ (IsS40.ge HI180.out)) | exact HB.out)); rintro e w33 ⟨rfl, hi, hb, hk⟩; have n0_ := Aside0.mk (hb); have n1_ := Aside0.mk (hi); clear HB; clear HI180; have HB := n0_; have HI180 := n1_; clear n0_ n1_; (try clear hb); (try clear hb2); (try clear hk); (try clear hi)))
                          go_ret
                          exact ⟨by first | rfl | (simp [errW_none, errW_some] <;> rfl) | (simp [*, errW_none, errW_some] <;> rfl), by repeat (first | (with_reducible first | exact HB.out | apply below_alloc | apply pw_below_drewN | apply below_drew1 | refine below_set ?_ (IsS40.ge HI180.out)) | exact HB.out)⟩
                      · rw [if_neg c26] at H
                        exact absurd H (by simp)
                    · rw [if_neg c24] at H
                      exact absurd H (by simp)

/-! ### octroilaw11_NeighBack: function 5 -/
mutual
def octroilaw11_NeighBack.j0 : Nat → List (S29) → Int → Int → Bool → Bool → Int → Int → Bool → Int → Option (Bool)
  | 0, _, _, _, _, _, _, _, _, _ => none
  | k + 1, x0, x1, x2, x7, x31, x217000, x217001, x217002, x217003 => if x31 = true then (if x7 = true then (some true) else (none)) else (octroilaw11_NeighBack.l0 k x0 x1 x2 0 x217000 x217001 x217002 x217003)
def octroilaw11_NeighBack.l0 : Nat → List (S29) → Int → Int → Int → Int → Int → Bool → Int → Option (Bool)
  | 0, _, _, _, _, _, _, _, _ => none
  | k + 1, x0, x1, x2, x9, x217000, x217001, x217002, x217003 => if x9 < (x0.length : Int) then (if 0 ≤ x9 then (if ((rd_T29 x0 x9).f0) = 0 then ((neigh_Neigh_Hello.f k x217000 x217001 x217002 x217003 (IntKind.u16.wrap ((rd_T29 x0 x9).f1))).bind fun bt219 => (if ((rd_T29 x0 x9).f0) = 1 then ((neigh_Neigh_Miss.f bt219.1 bt219.2.1 bt219.2.2.1 bt219.2.2.2).bind fun bt224 => (octroilaw11_NeighBack.l0 k x0 x1 x2 (wrap64 (x9 + 1)) bt224.1 bt224.2.1 bt224.2.2.1 bt224.2.2.2)) else (octroilaw11_NeighBack.l0 k x0 x1 x2 (wrap64 (x9 + 1)) bt219.1 bt219.2.1 bt219.2.2.1 bt219.2.2.2))) else (if ((rd_T29 x0 x9).f0) = 1 then ((neigh_Neigh_Miss.f x217000 x217001 x217002 x217003).bind fun bt229 => (octroilaw11_NeighBack.l0 k x0 x1 x2 (wrap64 (x9 + 1)) bt229.1 bt229.2.1 bt229.2.2.1 bt229.2.2.2)) else (octroilaw11_NeighBack.l0 k x0 x1 x2 (wrap64 (x9 + 1)) x217000 x217001 x217002 x217003))) else (none)) else ((neigh_Neigh_Hello.f k x217000 x217001 x217002 x217003 x1).bind fun bt233 => ((neigh_Neigh_Hello.f k bt233.1 bt233.2.1 bt233.2.2.1 bt233.2.2.2 (IntKind.u16.wrap (x1 + 1))).bind fun bt237 => ((neigh_Neigh_Ihu.f bt237.1 bt237.2.1 bt237.2.2.1 bt237.2.2.2 x2).bind fun bt241 => (if x2 < 96 then ((neigh_Neigh_Rx.f bt241.1 bt241.2.1 bt241.2.2.1 bt241.2.2.2).bind fun bt245 => (if bt245.1 = 96 then ((neigh_Neigh_Cost.f bt245.2.1 bt245.2.2.1 bt245.2.2.2.1 bt245.2.2.2.2).bind fun bt250 => (if bt250.1 = 96 then ((neigh_Neigh_History.f bt250.2.1 bt250.2.2.1 bt250.2.2.2.1 bt250.2.2.2.2).bind fun bt255 => (some (decide (bt255.1 ≥ 49152)))) else (none))) else (none))) else ((neigh_Neigh_Rx.f bt241.1 bt241.2.1 bt241.2.2.1 bt241.2.2.2).bind fun bt260 => (if bt260.1 = 96 then ((neigh_Neigh_Cost.f bt260.2.1 bt260.2.2.1 bt260.2.2.2.1 bt260.2.2.2.2).bind fun bt265 => (if bt265.1 = x2 then ((neigh_Neigh_History.f bt265.2.1 bt265.2.2.1 bt265.2.2.2.1 bt265.2.2.2.2).bind fun bt270 => (some (decide (bt270.1 ≥ 49152)))) else (none))) else (none)))))))
end
def octroilaw11_NeighBack.f (k : Nat) (l0 : List (S29)) (a1 : Int) (a2 : Int) : Option (Bool) := (octroilaw11_awake.f k).bind fun t211 => ((neigh_New.f).bind fun bt212 => (if t211 = true then (if (l0.length : Int) > 200 then (octroilaw11_NeighBack.j0 k l0 a1 a2 t211 true bt212.1 bt212.2.1 bt212.2.2.1 bt212.2.2.2) else (if a2 < 0 then (octroilaw11_NeighBack.j0 k l0 a1 a2 t211 true bt212.1 bt212.2.1 bt212.2.2.1 bt212.2.2.2) else (octroilaw11_NeighBack.j0 k l0 a1 a2 t211 (decide (a2 > 65535)) bt212.1 bt212.2.1 bt212.2.2.1 bt212.2.2.2))) else (octroilaw11_NeighBack.j0 k l0 a1 a2 t211 true bt212.1 bt212.2.1 bt212.2.2.1 bt212.2.2.2)))
theorem octroilaw11_NeighBack.mono_l : ∀ k, (∀ y0 y1 y2 y3 y4 y5 y6 y7 y8, LeO (octroilaw11_NeighBack.j0 k y0 y1 y2 y3 y4 y5 y6 y7 y8) (octroilaw11_NeighBack.j0 (k + 1) y0 y1 y2 y3 y4 y5 y6 y7 y8)) ∧ (∀ y0 y1 y2 y3 y4 y5 y6 y7, LeO (octroilaw11_NeighBack.l0 k y0 y1 y2 y3 y4 y5 y6 y7) (octroilaw11_NeighBack.l0 (k + 1) y0 y1 y2 y3 y4 y5 y6 y7))
  | 0 => ⟨fun _ _ _ _ _ _ _ _ _ r h => by simp [octroilaw11_NeighBack.j0] at h, fun _ _ _ _ _ _ _ _ r h => by simp [octroilaw11_NeighBack.l0] at h⟩
  | k + 1 => by
    obtain ⟨ih0, ih1⟩ := octroilaw11_NeighBack.mono_l k
    refine ⟨?_, ?_⟩
    · intro y0 y1 y2 y3 y4 y5 y6 y7 y8
      unfold octroilaw11_NeighBack.j0
      repeat' first
      | (with_reducible exact ih0 _ _ _ _ _ _ _ _ _)
      | (with_reducible exact ih1 _ _ _ _ _ _ _ _)
      | (with_reducible exact neigh_Neigh_Hello.mono _ _ _ _ _ _)
      | (with_reducible exact octroilaw11_awake.mono _)
      | (with_reducible exact LeO.refl _)
      | (with_reducible exact LeO.none _)
      | (with_reducible refine LeO.ite ?_ ?_)
      | (with_reducible refine LeO.bind ?_ (fun _ => ?_))
      | exact ih0 _ _ _ _ _ _ _ _ _
      | exact ih1 _ _ _ _ _ _ _ _
      | exact neigh_Neigh_Hello.mono _ _ _ _ _ _
      | exact octroilaw11_awake.mono _
      | exact LeO.none _
      | refine LeO.ite ?_ ?_
      | refine LeO.bind ?_ (fun _ => ?_)
    · intro y0 y1 y2 y3 y4 y5 y6 y7
      unfold octroilaw11_NeighBack.l0
      repeat' first
      | (with_reducible exact ih0 _ _ _ _ _ _ _ _ _)
      | (with_reducible exact ih1 _ _ _ _ _ _ _ _)
      | (with_reducible exact neigh_Neigh_Hello.mono _ _ _ _ _ _)
      | (with_reducible exact octroilaw11_awake.mono _)
      | (with_reducible exact LeO.refl _)
      | (with_reducible exact LeO.none _)
      | (with_reducible refine LeO.ite ?_ ?_)
      | (with_reducible refine LeO.bind ?_ (fun _ => ?_))
      | exact ih0 _ _ _ _ _ _ _ _ _
      | exact ih1 _ _ _ _ _ _ _ _
      | exact neigh_Neigh_Hello.mono _ _ _ _ _ _
      | exact octroilaw11_awake.mono _
      | exact LeO.none _
      | refine LeO.ite ?_ ?_
      | refine LeO.bind ?_ (fun _ => ?_)
theorem octroilaw11_NeighBack.mono : ∀ a0 a1 a2 k, LeO (octroilaw11_NeighBack.f k a0 a1 a2) (octroilaw11_NeighBack.f (k + 1) a0 a1 a2) := by
  intro a0 a1 a2 k
  obtain ⟨ih0, ih1⟩ := octroilaw11_NeighBack.mono_l k
  unfold octroilaw11_NeighBack.f
  repeat' first
      | (with_reducible exact ih0 _ _ _ _ _ _ _ _ _)
      | (with_reducible exact ih1 _ _ _ _ _ _ _ _)
      | (with_reducible exact neigh_Neigh_Hello.mono _ _ _ _ _ _)
      | (with_reducible exact octroilaw11_awake.mono _)
      | (with_reducible exact LeO.refl _)
      | (with_reducible exact LeO.none _)
      | (with_reducible refine LeO.ite ?_ ?_)
      | (with_reducible refine LeO.bind ?_ (fun _ => ?_))
      | exact ih0 _ _ _ _ _ _ _ _ _
      | exact ih1 _ _ _ _ _ _ _ _
      | exact neigh_Neigh_Hello.mono _ _ _ _ _ _
      | exact octroilaw11_awake.mono _
      | exact LeO.none _
      | refine LeO.ite ?_ ?_
      | refine LeO.bind ?_ (fun _ => ?_)
set_option maxHeartbeats 8000000 in
set_option maxRecDepth 100000 in
theorem octroilaw11_NeighBack.calls (k : Nat) (A0 : Option Addr) (c0 : Nat) (l0 : List (S29)) (a1 : Int) (a2 : Int) (r : Bool) (w : World) (hr0 : Kd.C k29 w A0 l0.length l0) (hc0 : l0.length ≤ c0) (h : octroilaw11_NeighBack.f k l0 a1 a2 = some r) :
    Calls Try.prog 5 #[.slice A0 l0.length c0, .int .u16 a1, .int .i64 a2] w fun e w' => e = .returned (.bool r) ∧ Below w.heap.size w w' := by
  have hup24 : Try.prog.underlying 24 = some (.pointer 40) := by kernel_rfl
  have HR0 := Aside0.mk hr0
  have HC0 := Aside0.mk hc0
  clear hr0 hc0
  have HB := Aside0.mk (Below.refl w.heap.size w)
  have H : ((octroilaw11_awake.f k).bind fun t211 => ((neigh_New.f).bind fun bt212 => (if t211 = true then (if (l0.length : Int) > 200 then (octroilaw11_NeighBack.j0 k l0 a1 a2 t211 true bt212.1 bt212.2.1 bt212.2.2.1 bt212.2.2.2) else (if a2 < 0 then (octroilaw11_NeighBack.j0 k l0 a1 a2 t211 true bt212.1 bt212.2.1 bt212.2.2.1 bt212.2.2.2) else (octroilaw11_NeighBack.j0 k l0 a1 a2 t211 (decide (a2 > 65535)) bt212.1 bt212.2.1 bt212.2.2.1 bt212.2.2.2))) else (octroilaw11_NeighBack.j0 k l0 a1 a2 t211 true bt212.1 bt212.2.1 bt212.2.2.1 bt212.2.2.2)))) = some r := h
  clear h
  replace H := Option.bind_eq_some_iff.mp H
  obtain ⟨t211, A40, H⟩ := H
  replace H : ((neigh_New.f).bind fun bt212 => (if t211 = true then (if (l0.length : Int) > 200 then (octroilaw11_NeighBack.j0 k l0 a1 a2 t211 true bt212.1 bt212.2.1 bt212.2.2.1 bt212.2.2.2) else (if a2 < 0 then (octroilaw11_NeighBack.j0 k l0 a1 a2 t211 true bt212.1 bt212.2.1 bt212.2.2.1 bt212.2.2.2) else (octroilaw11_NeighBack.j0 k l0 a1 a2 t211 (decide (a2 > 65535)) bt212.1 bt212.2.1 bt212.2.2.1 bt212.2.2.2))) else (octroilaw11_NeighBack.j0 k l0 a1 a2 t211 true bt212.1 bt212.2.1 bt212.2.2.1 bt212.2.2.2))) = some r := H
  have A4 := Aside0.mk A40
  clear A40
  replace H := Option.bind_eq_some_iff.mp H
  obtain ⟨⟨t212, t213, t214, t215⟩, A50, H⟩ := H
  replace H : (if t211 = true then (if (l0.length : Int) > 200 then (octroilaw11_NeighBack.j0 k l0 a1 a2 t211 true t212 t213 t214 t215) else (if a2 < 0 then (octroilaw11_NeighBack.j0 k l0 a1 a2 t211 true t212 t213 t214 t215) else (octroilaw11_NeighBack.j0 k l0 a1 a2 t211 (decide (a2 > 65535)) t212 t213 t214 t215))) else (octroilaw11_NeighBack.j0 k l0 a1 a2 t211 true t212 t213 t214 t215)) = some r := H
  have A5 := Aside0.mk A50
  clear A50
  have HC6 := Aside0.mk H
  clear H
  go_enter Try.func5, Try.ntmps5
  go_upto_region 3 with (first | ((with_reducible refine gate_callee (f := 9) rfl ?_); refine goesL_ (some 11) rfl rfl Try.func9 (by kernel_rfl) rfl #[] rfl (by (try simp only [List.map_toArray, List.map_cons, List.map_nil]); first | done | rfl | (simp only [List.length_drop, List.length_take]; rfl)) ?_; (with_reducible refine (octroilaw11_awake.calls k  t211 _ A4.out).mono ?_); rintro e w7 ⟨rfl, hb⟩; refine ⟨_, rfl, ?_⟩; have n0_ := Aside0.mk (below_step (by repeat (first | (with_reducible first | exact HB.out | apply below_alloc | apply pw_below_drewN | apply below_drew1) | exact HB.out)) hb); clear HB; have HB := n0_; clear n0_; (try clear hb); (try clear hb2); (try clear hk); (try clear hi)) | ((with_reducible refine gate_callee (f := 10) rfl ?_); refine goesL_ (some 12) rfl rfl Try.func10 (by kernel_rfl) rfl #[] rfl (by (try simp only [List.map_toArray, List.map_cons, List.map_nil]); first | done | rfl | (simp only [List.length_drop, List.length_take]; rfl)) ?_; (with_reducible refine (neigh_New.calls  t212 t213 t214 t215 w _ ?side1 A5.out).mono ?_); (case side1 => repeat (first | (with_reducible first | exact HB.out | apply below_alloc | apply pw_below_drewN | apply below_drew1) | exact HB.out)); rintro e w8 ⟨g216, rfl, hi, hb, hb2⟩; refine ⟨_, rfl, ?_⟩; have n0_ := Aside0.mk (hb); have n1_ := Aside0.mk (hi); clear HB; have HB := n0_; have HI216 := n1_; clear n0_ n1_; (try clear hb); (try clear hb2); (try clear hk); (try clear hi)))
  (try simp only [Act.put, List.setIfInBounds_toArray, List.set_cons_zero, List.set_cons_succ])
  go_cut [31] (fun v31 wc => ∃ (kq : Nat) (x31_5 : Bool), v31 = .bool x31_5 ∧ Aside0 (octroilaw11_NeighBack.j0 kq l0 a1 a2 t211 x31_5 t212 t213 t214 t215 = some r) ∧ Aside0 (kq ≤ k) ∧ Aside0 (IsS40 w wc g216 t212 t213 t214 t215) ∧ Aside0 (Below w.heap.size w wc))
  case first =>
    have H := HC6.out
    clear HC6
    by_cases c9 : t211 = true
    · subst c9
      have H1 : (if (l0.length : Int) > 200 then (octroilaw11_NeighBack.j0 k l0 a1 a2 true true t212 t213 t214 t215) else (if a2 < 0 then (octroilaw11_NeighBack.j0 k l0 a1 a2 true true t212 t213 t214 t215) else (octroilaw11_NeighBack.j0 k l0 a1 a2 true (decide (a2 > 65535)) t212 t213 t214 t215))) = some r := by rw [if_pos rfl] at H; exact H
      clear H
      have H := H1
      clear H1
      by_cases c10 : (l0.length : Int) > 200
      · rw [if_pos c10] at H
        have c10b0 : decide (200 < (l0.length : Int)) = true := decide_eq_true c10
        have c10b1 : decide (200 < l0.length) = true := decide_eq_true (by omega)
        clear c10
        (first | rw [c10b0] | (simp only [i64_w, i32_w]; rw [c10b0]) | skip)
        have H' := Aside0.mk H
        clear H
        go_wp2
        go_meet
        case rel => exact ⟨_, (true), (by first | rfl | (simp; done) | (simp [*]; done)), H', ⟨by first | omega | exact Nat.le_refl _⟩, ⟨by repeat (first | (with_reducible first | exact HI216.out | apply IsS40.alloc | apply IsS40.drewN | apply IsS40.drew | apply IsS40.set_0 | apply IsS40.set_1 | apply IsS40.set_2 | apply IsS40.set_3) | exact HI216.out)⟩, ⟨by repeat (first | (with_reducible first | exact HB.out | apply below_alloc | apply pw_below_drewN | apply below_drew1 | refine below_set ?_ (IsS40.ge HI216.out)) | exact HB.out)⟩⟩
      · rw [if_neg c10] at H
        have c10b0 : decide (200 < (l0.length : Int)) = false := decide_eq_false c10
        have c10b1 : decide (200 < l0.length) = false := decide_eq_false (by omega)
        clear c10
        (first | rw [c10b0] | (simp only [i64_w, i32_w]; rw [c10b0]) | skip)
        by_cases c11 : a2 < 0
        · rw [if_pos c11] at H
          have c11b0 : decide (a2 < 0) = true := decide_eq_true c11
          clear c11
          have H' := Aside0.mk H
          clear H
          go_wp2
          go_meet
          case rel => exact ⟨_, (true), (by first | rfl | (simp; done) | (simp [*]; done)), H', ⟨by first | omega | exact Nat.le_refl _⟩, ⟨by repeat (first | (with_reducible first | exact HI216.out | apply IsS40.alloc | apply IsS40.drewN | apply IsS40.drew | apply IsS40.set_0 | apply IsS40.set_1 | apply IsS40.set_2 | apply IsS40.set_3) | exact HI216.out)⟩, ⟨by repeat (first | (with_reducible first | exact HB.out | apply below_alloc | apply pw_below_drewN | apply below_drew1 | refine below_set ?_ (IsS40.ge HI216.out)) | exact HB.out)⟩⟩
        · rw [if_neg c11] at H
          have c11b0 : decide (a2 < 0) = false := decide_eq_false c11
          clear c11
          have H' := Aside0.mk H
          clear H
          go_wp2
          go_meet
          case rel => exact ⟨_, (decide (a2 > 65535)), (by first | rfl | (simp; done) | (simp [*]; done)), H', ⟨by first | omega | exact Nat.le_refl _⟩, ⟨by repeat (first | (with_reducible first | exact HI216.out | apply IsS40.alloc | apply IsS40.drewN | apply IsS40.drew | apply IsS40.set_0 | apply IsS40.set_1 | apply IsS40.set_2 | apply IsS40.set_3) | exact HI216.out)⟩, ⟨by repeat (first | (with_reducible first | exact HB.out | apply below_alloc | apply pw_below_drewN | apply below_drew1 | refine below_set ?_ (IsS40.ge HI216.out)) | exact HB.out)⟩⟩
    · replace c9 := Bool.eq_false_iff.mpr c9
      subst c9
      have H1 : (octroilaw11_NeighBack.j0 k l0 a1 a2 false true t212 t213 t214 t215) = some r := by rw [if_neg (show ¬ (false = true) by decide)] at H; exact H
      clear H
      have H := H1
      clear H1
      have H' := Aside0.mk H
      clear H
      go_wp2
      go_meet
      case rel => exact ⟨_, (true), (by first | rfl | (simp; done) | (simp [*]; done)), H', ⟨by first | omega | exact Nat.le_refl _⟩, ⟨by repeat (first | (with_reducible first | exact HI216.out | apply IsS40.alloc | apply IsS40.drewN | apply IsS40.drew | apply IsS40.set_0 | apply IsS40.set_1 | apply IsS40.set_2 | apply IsS40.set_3) | exact HI216.out)⟩, ⟨by repeat (first | (with_reducible first | exact HB.out | apply below_alloc | apply pw_below_drewN | apply below_drew1 | refine below_set ?_ (IsS40.ge HI216.out)) | exact HB.out)⟩⟩
  case rest =>
    clear HC6
    try clear c1
    try clear p2
    try clear c5
    try clear c9
    try clear c10
    try clear c10b0
    try clear c10b1
    try clear c11
    try clear c11b0
    obtain ⟨kq, x31_5, rfl, HA, HJ5, HI216, HB⟩ := hcut
    cases kq with
    | zero => exact absurd HA.out (by simp [octroilaw11_NeighBack.j0])
    | succ kj5 =>
      have H := HA.out
      clear HA
      simp only [octroilaw11_NeighBack.j0] at H
      by_cases c12 : x31_5 = true
      · subst c12
        have H1 : (if t211 = true then (some true) else (none)) = some r := by rw [if_pos rfl] at H; exact H
        clear H
        have H := H1
        clear H1
        by_cases c13 : t211 = true
        · subst c13
          have H1 : (some true) = some r := by rw [if_pos rfl] at H; exact H
          clear H
          have H := H1
          clear H1
          obtain rfl := Option.some.inj H
          go_wp2
          go_ret
          exact ⟨by first | rfl | (simp [errW_none, errW_some] <;> rfl) | (simp [*, errW_none, errW_some] <;> rfl), by repeat (first | (with_reducible first | exact HB.out | apply below_alloc | apply pw_below_drewN | apply below_drew1 | refine below_set ?_ (IsS40.ge HI216.out)) | exact HB.out)⟩
        · replace c13 := Bool.eq_false_iff.mpr c13
          subst c13
          have H1 : (none) = some r := by rw [if_neg (show ¬ (false = true) by decide)] at H; exact H
          clear H
          have H := H1
          clear H1
          exact absurd H (by simp)
      · replace c12 := Bool.eq_false_iff.mpr c12
        subst c12
        have H1 : (octroilaw11_NeighBack.l0 kj5 l0 a1 a2 0 t212 t213 t214 t215) = some r := by rw [if_neg (show ¬ (false = true) by decide)] at H; exact H
        clear H
        have H := H1
        clear H1
        have H' := Aside0.mk H
        clear H
        go_wp2
        go_loopg [9] kj5 (fun kq v9 w' => ∃ (x9_2 : Int) (x217000_2 : Int) (x217001_2 : Int) (x217002_2 : Bool) (x217003_2 : Int), v9 = .int .i64 x9_2 ∧ Aside0 (octroilaw11_NeighBack.l0 kq l0 a1 a2 x9_2 x217000_2 x217001_2 x217002_2 x217003_2 = some r) ∧ Aside0 (kq ≤ kj5) ∧ Aside0 (IsS40 w w' g216 x217000_2 x217001_2 x217002_2 x217003_2) ∧ Aside0 (Below w.heap.size w w'))
        case atStart => exact ⟨(0), (t212), (t213), (t214), (t215), (by first | rfl | (simp; done) | (simp [*]; done)), H', ⟨Nat.le_refl _⟩, ⟨by repeat (first | (with_reducible first | exact HI216.out | apply IsS40.alloc | apply IsS40.drewN | apply IsS40.drew | apply IsS40.set_0 | apply IsS40.set_1 | apply IsS40.set_2 | apply IsS40.set_3) | exact HI216.out)⟩, ⟨by repeat (first | (with_reducible first | exact HB.out | apply below_alloc | apply pw_below_drewN | apply below_drew1 | refine below_set ?_ (IsS40.ge HI216.out)) | exact HB.out)⟩⟩
        case round =>
          clear H'
          try clear c1
          try clear p2
          try clear c5
          try clear c9
          try clear c10
          try clear c10b0
          try clear c10b1
          try clear c11
          try clear c11b0
          try clear c12
          try clear c13
          try clear p2
          obtain ⟨x9_2, x217000_2, x217001_2, x217002_2, x217003_2, rfl, HA, HK2, HI216, HB⟩ := hrel
          cases gk with
          | zero => exact absurd HA.out (by simp [octroilaw11_NeighBack.l0])
          | succ k2 =>
            have H := HA.out
            clear HA
            simp only [octroilaw11_NeighBack.l0] at H
            by_cases c14 : x9_2 < (l0.length : Int)
            · rw [if_pos c14] at H
              have c14b0 : decide (x9_2 < (l0.length : Int)) = true := decide_eq_true c14
              clear c14
              by_cases c15 : 0 ≤ x9_2
              · rw [if_pos c15] at H
                have c15b0 : decide (0 ≤ x9_2) = true := decide_eq_true c15
                clear c15
                by_cases c16 : ((rd_T29 l0 x9_2).f0) = 0
                · rw [if_pos c16] at H
                  have c16b0 : (((rd_T29 l0 x9_2).f0) == 0) = true := beq_iff_eq.mpr c16
                  have c16b1 : (((rd_T29 l0 x9_2).f0) != 0) = false := bne_eq_false_iff_eq.mpr c16
                  clear c16
                  replace H := Option.bind_eq_some_iff.mp H
                  obtain ⟨⟨t219, t220, t221, t222⟩, A170, H⟩ := H
                  replace H : (if ((rd_T29 l0 x9_2).f0) = 1 then ((neigh_Neigh_Miss.f t219 t220 t221 t222).bind fun bt224 => (octroilaw11_NeighBack.l0 k2 l0 a1 a2 (wrap64 (x9_2 + 1)) bt224.1 bt224.2.1 bt224.2.2.1 bt224.2.2.2)) else (octroilaw11_NeighBack.l0 k2 l0 a1 a2 (wrap64 (x9_2 + 1)) t219 t220 t221 t222)) = some r := H
                  have A17 := Aside0.mk A170
                  clear A170
                  by_cases c18 : ((rd_T29 l0 x9_2).f0) = 1
                  · rw [if_pos c18] at H
                    have c18b0 : (((rd_T29 l0 x9_2).f0) == 1) = true := beq_iff_eq.mpr c18
                    have c18b1 : (((rd_T29 l0 x9_2).f0) != 1) = false := bne_eq_false_iff_eq.mpr c18
                    clear c18
                    replace H := Option.bind_eq_some_iff.mp H
                    obtain ⟨⟨t224, t225, t226, t227⟩, A190, H⟩ := H
                    replace H : (octroilaw11_NeighBack.l0 k2 l0 a1 a2 (wrap64 (x9_2 + 1)) t224 t225 t226 t227) = some r := H
                    have A19 := Aside0.mk A190
                    clear A190
                    have H' := Aside0.mk H
                    clear H
                    have p217 : 0 ≤ (x9_2 : Int) := of_decide_eq_true (by first | (with_reducible assumption) | assumption)
                    have q217 : x9_2 < (l0.length : Int) := of_decide_eq_true (by first | (with_reducible assumption) | assumption)
                    obtain ⟨ad217, e217, hx217_0, hx217_1⟩ := at_T29 HR0.out x9_2 p217 q217
                    cases e217
                    replace hx217_0 := (HB.out.cell (World.block_lt_of_cell? w _ hx217_0)).trans hx217_0
                    replace hx217_1 := (HB.out.cell (World.block_lt_of_cell? w _ hx217_1)).trans hx217_1
                    replace p217 := eq_true p217
                    replace q217 := eq_true q217
                    have p218 : 0 ≤ (x9_2 : Int) := of_decide_eq_true (by first | (with_reducible assumption) | assumption)
                    have q218 : x9_2 < (l0.length : Int) := of_decide_eq_true (by first | (with_reducible assumption) | assumption)
                    obtain ⟨ad218, e218, hx218_0, hx218_1⟩ := at_T29 HR0.out x9_2 p218 q218
                    obtain rfl : ad217 = ad218 := (by injection e218)
                    replace hx218_0 := (HB.out.cell (World.block_lt_of_cell? w _ hx218_0)).trans hx218_0
                    replace hx218_1 := (HB.out.cell (World.block_lt_of_cell? w _ hx218_1)).trans hx218_1
                    replace p218 := eq_true p218
                    replace q218 := eq_true q218
                    go_wp2_with (first | ((with_reducible refine gate_callee (f := 12) rfl ?_); refine goesL_ (some 56) rfl rfl Try.func12 (by kernel_rfl) rfl #[.pointer (some ⟨g216, 0, none⟩), .int .u16 (IntKind.u16.wrap ((rd_T29 l0 x9_2).f1))] rfl (by (try simp only [List.map_toArray, List.map_cons, List.map_nil]); first | done | rfl | (simp only [List.length_drop, List.length_take]; rfl)) ?_; (with_reducible refine (neigh_Neigh_Hello.calls k2 g216 x217000_2 x217001_2 x217002_2 x217003_2 (IntKind.u16.wrap ((rd_T29 l0 x9_2).f1)) t219 t220 t221 t222 w _ ?side1 ?side2 A17.out).mono ?_); (case side1 => repeat (first | (with_reducible first | exact HI216.out | apply IsS40.alloc | apply IsS40.drewN | apply IsS40.drew | apply IsS40.set_0 | apply IsS40.set_1 | apply IsS40.set_2 | apply IsS40.set_3) | exact HI216.out)); (case side2 => repeat (first | (with_reducible first | exact HB.out | apply below_alloc | apply pw_below_drewN | apply below_drew1 | refine below_set ?_ (IsS40.ge HI216.out)) | exact HB.out)); rintro e w20 ⟨rfl, hi, hb, hk⟩; refine ⟨_, rfl, ?_⟩; have n0_ := Aside0.mk (hb); have n1_ := Aside0.mk (hi); clear HB; clear HI216; have HB := n0_; have HI216 := n1_; clear n0_ n1_; (try clear hb); (try clear hb2); (try clear hk); (try clear hi); have p223 : 0 ≤ (x9_2 : Int) := of_decide_eq_true (by first | (with_reducible assumption) | assumption); have q223 : x9_2 < (l0.length : Int) := of_decide_eq_true (by first | (with_reducible assumption) | assumption); obtain ⟨ad223, e223, hx223_0, hx223_1⟩ := at_T29 HR0.out x9_2 p223 q223; obtain rfl : ad217 = ad223 := (by injection e223); replace hx223_0 := (HB.out.cell (World.block_lt_of_cell? w _ hx223_0)).trans hx223_0; replace hx223_1 := (HB.out.cell (World.block_lt_of_cell? w _ hx223_1)).trans hx223_1; replace p223 := eq_true p223; replace q223 := eq_true q223) | ((with_reducible refine gate_callee (f := 14) rfl ?_); refine goesL_ (some 64) rfl rfl Try.func14 (by kernel_rfl) rfl #[.pointer (some ⟨g216, 0, none⟩)] rfl (by (try simp only [List.map_toArray, List.map_cons, List.map_nil]); first | done | rfl | (simp only [List.length_drop, List.length_take]; rfl)) ?_; (with_reducible refine (neigh_Neigh_Miss.calls g216 t219 t220 t221 t222 t224 t225 t226 t227 w _ ?side1 ?side2 A19.out).mono ?_); (case side1 => repeat (first | (with_reducible first | exact HI216.out | apply IsS40.alloc | apply IsS40.drewN | apply IsS40.drew | apply IsS40.set_0 | apply IsS40.set_1 | apply IsS40.set_2 | apply IsS40.set_3) | exact HI216.out)); (case side2 => repeat (first | (with_reducible first | exact HB.out | apply below_alloc | apply pw_below_drewN | apply below_drew1 | refine below_set ?_ (IsS40.ge HI216.out)) | exact HB.out)); rintro e w21 ⟨rfl, hi, hb, hk⟩; refine ⟨_, rfl, ?_⟩; have n0_ := Aside0.mk (hb); have n1_ := Aside0.mk (hi); clear HB; clear HI216; have HB := n0_; have HI216 := n1_; clear n0_ n1_; (try clear hb); (try clear hb2); (try clear hk); (try clear hi)))
                    go_roundg k2
                    case measure => have := HJ5.out; have := HK2.out; omega
                    case rel => exact ⟨(wrap64 (x9_2 + 1)), (t224), (t225), (t226), (t227), (by first | rfl | (simp; done) | (simp [*]; done)), H', ⟨by have := HJ5.out; have := HK2.out; omega⟩, ⟨by repeat (first | (with_reducible first | exact HI216.out | apply IsS40.alloc | apply IsS40.drewN | apply IsS40.drew | apply IsS40.set_0 | apply IsS40.set_1 | apply IsS40.set_2 | apply IsS40.set_3) | exact HI216.out)⟩, ⟨by repeat (first | (with_reducible first | exact HB.out | apply below_alloc | apply pw_below_drewN | apply below_drew1 | refine below_set ?_ (IsS40.ge HI216.out)) | exact HB.out)⟩⟩
                  · rw [if_neg c18] at H
                    have c18b0 : (((rd_T29 l0 x9_2).f0) == 1) = false := beq_eq_false_iff_ne.mpr c18
                    have c18b1 : (((rd_T29 l0 x9_2).f0) != 1) = true := bne_iff_ne.mpr c18
                    have H' := Aside0.mk H
                    clear H
                    have p217 : 0 ≤ (x9_2 : Int) := of_decide_eq_true (by first | (with_reducible assumption) | assumption)
                    have q217 : x9_2 < (l0.length : Int) := of_decide_eq_true (by first | (with_reducible assumption) | assumption)
                    obtain ⟨ad217, e217, hx217_0, hx217_1⟩ := at_T29 HR0.out x9_2 p217 q217
                    cases e217
                    replace hx217_0 := (HB.out.cell (World.block_lt_of_cell? w _ hx217_0)).trans hx217_0
                    replace hx217_1 := (HB.out.cell (World.block_lt_of_cell? w _ hx217_1)).trans hx217_1
                    replace p217 := eq_true p217
                    replace q217 := eq_true q217
                    have p218 : 0 ≤ (x9_2 : Int) := of_decide_eq_true (by first | (with_reducible assumption) | assumption)
                    have q218 : x9_2 < (l0.length : Int) := of_decide_eq_true (by first | (with_reducible assumption) | assumption)
                    obtain ⟨ad218, e218, hx218_0, hx218_1⟩ := at_T29 HR0.out x9_2 p218 q218
                    obtain rfl : ad217 = ad218 := (by injection e218)
                    replace hx218_0 := (HB.out.cell (World.block_lt_of_cell? w _ hx218_0)).trans hx218_0
                    replace hx218_1 := (HB.out.cell (World.block_lt_of_cell? w _ hx218_1)).trans hx218_1
                    replace p218 := eq_true p218
                    replace q218 := eq_true q218
                    go_wp2_with (first | ((with_reducible refine gate_callee (f := 12) rfl ?_); refine goesL_ (some 56) rfl rfl Try.func12 (by kernel_rfl) rfl #[.pointer (some ⟨g216, 0, none⟩), .int .u16 (IntKind.u16.wrap ((rd_T29 l0 x9_2).f1))] rfl (by (try simp only [List.map_toArray, List.map_cons, List.map_nil]); first | done | rfl | (simp only [List.length_drop, List.length_take]; rfl)) ?_; (with_reducible refine (neigh_Neigh_Hello.calls k2 g216 x217000_2 x217001_2 x217002_2 x217003_2 (IntKind.u16.wrap ((rd_T29 l0 x9_2).f1)) t219 t220 t221 t222 w _ ?side1 ?side2 A17.out).mono ?_); (case side1 => repeat (first | (with_reducible first | exact HI216.out | apply IsS40.alloc | apply IsS40.drewN | apply IsS40.drew | apply IsS40.set_0 | apply IsS40.set_1 | apply IsS40.set_2 | apply IsS40.set_3) | exact HI216.out)); (case side2 => repeat (first | (with_reducible first | exact HB.out | apply below_alloc | apply pw_below_drewN | apply below_drew1 | refine below_set ?_ (IsS40.ge HI216.out)) | exact HB.out)); rintro e w22 ⟨rfl, hi, hb, hk⟩; refine ⟨_, rfl, ?_⟩; have n0_ := Aside0.mk (hb); have n1_ := Aside0.mk (hi); clear HB; clear HI216; have HB := n0_; have HI216 := n1_; clear n0_ n1_; (try clear hb); (try clear hb2); (try clear hk); (try clear hi); have p223 : 0 ≤ (x9_2 : Int) := of_decide_eq_true (by first | (with_reducible assumption) | assumption); have q223 : x9_2 < (l0.length : Int) := of_decide_eq_true (by first | (with_reducible assumption) | assumption); obtain ⟨ad223, e223, hx223_0, hx223_1⟩ := at_T29 HR0.out x9_2 p223 q223; obtain rfl : ad217 = ad223 := (by injection e223); replace hx223_0 := (HB.out.cell (World.block_lt_of_cell? w _ hx223_0)).trans hx223_0; replace hx223_1 := (HB.out.cell (World.block_lt_of_cell? w _ hx223_1)).trans hx223_1; replace p223 := eq_true p223; replace q223 := eq_true q223))
                    go_roundg k2
                    case measure => have := HJ5.out; have := HK2.out; omega
                    case rel => exact ⟨(wrap64 (x9_2 + 1)), (t219), (t220), (t221), (t222), (by first | rfl | (simp; done) | (simp [*]; done)), H', ⟨by have := HJ5.out; have := HK2.out; omega⟩, ⟨by repeat (first | (with_reducible first | exact HI216.out | apply IsS40.alloc | apply IsS40.drewN | apply IsS40.drew | apply IsS40.set_0 | apply IsS40.set_1 | apply IsS40.set_2 | apply IsS40.set_3) | exact HI216.out)⟩, ⟨by repeat (first | (with_reducible first | exact HB.out | apply below_alloc | apply pw_below_drewN | apply below_drew1 | refine below_set ?_ (IsS40.ge HI216.out)) | exact HB.out)⟩⟩
                · rw [if_neg c16] at H
                  have c16b0 : (((rd_T29 l0 x9_2).f0) == 0) = false := beq_eq_false_iff_ne.mpr c16
                  have c16b1 : (((rd_T29 l0 x9_2).f0) != 0) = true := bne_iff_ne.mpr c16
                  by_cases c23 : ((rd_T29 l0 x9_2).f0) = 1
                  · rw [if_pos c23] at H
                    have c23b0 : (((rd_T29 l0 x9_2).f0) == 1) = true := beq_iff_eq.mpr c23
                    have c23b1 : (((rd_T29 l0 x9_2).f0) != 1) = false := bne_eq_false_iff_eq.mpr c23
                    clear c23
                    replace H := Option.bind_eq_some_iff.mp H
                    obtain ⟨⟨t229, t230, t231, t232⟩, A240, H⟩ := H
                    replace H : (octroilaw11_NeighBack.l0 k2 l0 a1 a2 (wrap64 (x9_2 + 1)) t229 t230 t231 t232) = some r := H
                    have A24 := Aside0.mk A240
                    clear A240
                    have H' := Aside0.mk H
                    clear H
                    have p217 : 0 ≤ (x9_2 : Int) := of_decide_eq_true (by first | (with_reducible assumption) | assumption)
                    have q217 : x9_2 < (l0.length : Int) := of_decide_eq_true (by first | (with_reducible assumption) | assumption)
                    obtain ⟨ad217, e217, hx217_0, hx217_1⟩ := at_T29 HR0.out x9_2 p217 q217
                    cases e217
                    replace hx217_0 := (HB.out.cell (World.block_lt_of_cell? w _ hx217_0)).trans hx217_0
                    replace hx217_1 := (HB.out.cell (World.block_lt_of_cell? w _ hx217_1)).trans hx217_1
                    replace p217 := eq_true p217
                    replace q217 := eq_true q217
                    have p228 : 0 ≤ (x9_2 : Int) := of_decide_eq_true (by first | (with_reducible assumption) | assumption)
                    have q228 : x9_2 < (l0.length : Int) := of_decide_eq_true (by first | (with_reducible assumption) | assumption)
                    obtain ⟨ad228, e228, hx228_0, hx228_1⟩ := at_T29 HR0.out x9_2 p228 q228
                    obtain rfl : ad217 = ad228 := (by injection e228)
                    replace hx228_0 := (HB.out.cell (World.block_lt_of_cell? w _ hx228_0)).trans hx228_0
                    replace hx228_1 := (HB.out.cell (World.block_lt_of_cell? w _ hx228_1)).trans hx228_1
                    replace p228 := eq_true p228
                    replace q228 := eq_true q228
                    go_wp2_with (first | ((with_reducible refine gate_callee (f := 14) rfl ?_); refine goesL_ (some 64) rfl rfl Try.func14 (by kernel_rfl) rfl #[.pointer (some ⟨g216, 0, none⟩)] rfl (by (try simp only [List.map_toArray, List.map_cons, List.map_nil]); first | done | rfl | (simp only [List.length_drop, List.length_take]; rfl)) ?_; (with_reducible refine (neigh_Neigh_Miss.calls g216 x217000_2 x217001_2 x217002_2 x217003_2 t229 t230 t231 t232 w _ ?side1 ?side2 A24.out).mono ?_); (case side1 => repeat (first | (with_reducible first | exact HI216.out | apply IsS40.alloc | apply IsS40.drewN | apply IsS40.drew | apply IsS40.set_0 | apply IsS40.set_1 | apply IsS40.set_2 | apply IsS40.set_3) | exact HI216.out)); (case side2 => repeat (first | (with_reducible first | exact HB.out | apply below_alloc | apply pw_below_drewN | apply below_drew1 | refine below_set ?_ (IsS40.ge HI216.out)) | exact HB.out)); rintro e w25 ⟨rfl, hi, hb, hk⟩; refine ⟨_, rfl, ?_⟩; have n0_ := Aside0.mk (hb); have n1_ := Aside0.mk (hi); clear HB; clear HI216; have HB := n0_; have HI216 := n1_; clear n0_ n1_; (try clear hb); (try clear hb2); (try clear hk); (try clear hi)))
                    go_roundg k2
                    case measure => have := HJ5.out; have := HK2.out; omega
                    case rel => exact ⟨(wrap64 (x9_2 + 1)), (t229), (t230), (t231), (t232), (by first | rfl | (simp; done) | (simp [*]; done)), H', ⟨by have := HJ5.out; have := HK2.out; omega⟩, ⟨by repeat (first | (with_reducible first | exact HI216.out | apply IsS40.alloc | apply IsS40.drewN | apply IsS40.drew | apply IsS40.set_0 | apply IsS40.set_1 | apply IsS40.set_2 | apply IsS40.set_3) | exact HI216.out)⟩, ⟨by repeat (first | (with_reducible first | exact HB.out | apply below_alloc | apply pw_below_drewN | apply below_drew1 | refine below_set ?_ (IsS40.ge HI216.out)) | exact HB.out)⟩⟩
                  · rw [if_neg c23] at H
                    have c23b0 : (((rd_T29 l0 x9_2).f0) == 1) = false := beq_eq_false_iff_ne.mpr c23
                    have c23b1 : (((rd_T29 l0 x9_2).f0) != 1) = true := bne_iff_ne.mpr c23
                    have H' := Aside0.mk H
                    clear H
                    have p217 : 0 ≤ (x9_2 : Int) := of_decide_eq_true (by first | (with_reducible assumption) | assumption)
                    have q217 : x9_2 < (l0.length : Int) := of_decide_eq_true (by first | (with_reducible assumption) | assumption)
                    obtain ⟨ad217, e217, hx217_0, hx217_1⟩ := at_T29 HR0.out x9_2 p217 q217
                    cases e217
                    replace hx217_0 := (HB.out.cell (World.block_lt_of_cell? w _ hx217_0)).trans hx217_0
                    replace hx217_1 := (HB.out.cell (World.block_lt_of_cell? w _ hx217_1)).trans hx217_1
                    replace p217 := eq_true p217
                    replace q217 := eq_true q217
                    have p228 : 0 ≤ (x9_2 : Int) := of_decide_eq_true (by first | (with_reducible assumption) | assumption)
                    have q228 : x9_2 < (l0.length : Int) := of_decide_eq_true (by first | (with_reducible assumption) | assumption)
                    obtain ⟨ad228, e228, hx228_0, hx228_1⟩ := at_T29 HR0.out x9_2 p228 q228
                    obtain rfl : ad217 = ad228 := (by injection e228)
                    replace hx228_0 := (HB.out.cell (World.block_lt_of_cell? w _ hx228_0)).trans hx228_0
                    replace hx228_1 := (HB.out.cell (World.block_lt_of_cell? w _ hx228_1)).trans hx228_1
                    replace p228 := eq_true p228
                    replace q228 := eq_true q228
                    go_wp2
                    go_roundg k2
                    case measure => have := HJ5.out; have := HK2.out; omega
                    case rel => exact ⟨(wrap64 (x9_2 + 1)), (x217000_2), (x217001_2), (x217002_2), (x217003_2), (by first | rfl | (simp; done) | (simp [*]; done)), H', ⟨by have := HJ5.out; have := HK2.out; omega⟩, ⟨by repeat (first | (with_reducible first | exact HI216.out | apply IsS40.alloc | apply IsS40.drewN | apply IsS40.drew | apply IsS40.set_0 | apply IsS40.set_1 | apply IsS40.set_2 | apply IsS40.set_3) | exact HI216.out)⟩, ⟨by repeat (first | (with_reducible first | exact HB.out | apply below_alloc | apply pw_below_drewN | apply below_drew1 | refine below_set ?_ (IsS40.ge HI216.out)) | exact HB.out)⟩⟩
              · rw [if_neg c15] at H
                exact absurd H (by simp)
            · rw [if_neg c14] at H
              have c14b0 : decide (x9_2 < (l0.length : Int)) = false := decide_eq_false c14
              clear c14
              replace H := Option.bind_eq_some_iff.mp H
              obtain ⟨⟨t233, t234, t235, t236⟩, A260, H⟩ := H
              replace H : ((neigh_Neigh_Hello.f k2 t233 t234 t235 t236 (IntKind.u16.wrap (a1 + 1))).bind fun bt237 => ((neigh_Neigh_Ihu.f bt237.1 bt237.2.1 bt237.2.2.1 bt237.2.2.2 a2).bind fun bt241 => (if a2 < 96 then ((neigh_Neigh_Rx.f bt241.1 bt241.2.1 bt241.2.2.1 bt241.2.2.2).bind fun bt245 => (if bt245.1 = 96 then ((neigh_Neigh_Cost.f bt245.2.1 bt245.2.2.1 bt245.2.2.2.1 bt245.2.2.2.2).bind fun bt250 => (if bt250.1 = 96 then ((neigh_Neigh_History.f bt250.2.1 bt250.2.2.1 bt250.2.2.2.1 bt250.2.2.2.2).bind fun bt255 => (some (decide (bt255.1 ≥ 49152)))) else (none))) else (none))) else ((neigh_Neigh_Rx.f bt241.1 bt241.2.1 bt241.2.2.1 bt241.2.2.2).bind fun bt260 => (if bt260.1 = 96 then ((neigh_Neigh_Cost.f bt260.2.1 bt260.2.2.1 bt260.2.2.2.1 bt260.2.2.2.2).bind fun bt265 => (if bt265.1 = a2 then ((neigh_Neigh_History.f bt265.2.1 bt265.2.2.1 bt265.2.2.2.1 bt265.2.2.2.2).bind fun bt270 => (some (decide (bt270.1 ≥ 49152)))) else (none))) else (none)))))) = some r := H
              have A26 := Aside0.mk A260
              clear A260
              replace H := Option.bind_eq_some_iff.mp H
              obtain ⟨⟨t237, t238, t239, t240⟩, A270, H⟩ := H
              replace H : ((neigh_Neigh_Ihu.f t237 t238 t239 t240 a2).bind fun bt241 => (if a2 < 96 then ((neigh_Neigh_Rx.f bt241.1 bt241.2.1 bt241.2.2.1 bt241.2.2.2).bind fun bt245 => (if bt245.1 = 96 then ((neigh_Neigh_Cost.f bt245.2.1 bt245.2.2.1 bt245.2.2.2.1 bt245.2.2.2.2).bind fun bt250 => (if bt250.1 = 96 then ((neigh_Neigh_History.f bt250.2.1 bt250.2.2.1 bt250.2.2.2.1 bt250.2.2.2.2).bind fun bt255 => (some (decide (bt255.1 ≥ 49152)))) else (none))) else (none))) else ((neigh_Neigh_Rx.f bt241.1 bt241.2.1 bt241.2.2.1 bt241.2.2.2).bind fun bt260 => (if bt260.1 = 96 then ((neigh_Neigh_Cost.f bt260.2.1 bt260.2.2.1 bt260.2.2.2.1 bt260.2.2.2.2).bind fun bt265 => (if bt265.1 = a2 then ((neigh_Neigh_History.f bt265.2.1 bt265.2.2.1 bt265.2.2.2.1 bt265.2.2.2.2).bind fun bt270 => (some (decide (bt270.1 ≥ 49152)))) else (none))) else (none))))) = some r := H
              have A27 := Aside0.mk A270
              clear A270
              replace H := Option.bind_eq_some_iff.mp H
              obtain ⟨⟨t241, t242, t243, t244⟩, A280, H⟩ := H
              replace H : (if a2 < 96 then ((neigh_Neigh_Rx.f t241 t242 t243 t244).bind fun bt245 => (if bt245.1 = 96 then ((neigh_Neigh_Cost.f bt245.2.1 bt245.2.2.1 bt245.2.2.2.1 bt245.2.2.2.2).bind fun bt250 => (if bt250.1 = 96 then ((neigh_Neigh_History.f bt250.2.1 bt250.2.2.1 bt250.2.2.2.1 bt250.2.2.2.2).bind fun bt255 => (some (decide (bt255.1 ≥ 49152)))) else (none))) else (none))) else ((neigh_Neigh_Rx.f t241 t242 t243 t244).bind fun bt260 => (if bt260.1 = 96 then ((neigh_Neigh_Cost.f bt260.2.1 bt260.2.2.1 bt260.2.2.2.1 bt260.2.2.2.2).bind fun bt265 => (if bt265.1 = a2 then ((neigh_Neigh_History.f bt265.2.1 bt265.2.2.1 bt265.2.2.2.1 bt265.2.2.2.2).bind fun bt270 => (some (decide (bt270.1 ≥ 49152)))) else (none))) else (none)))) = some r := H
              have A28 := Aside0.mk A280
              clear A280
              by_cases c29 : a2 < 96
              · rw [if_pos c29] at H
                have c29b0 : decide (a2 < 96) = true := decide_eq_true c29
                clear c29
                replace H := Option.bind_eq_some_iff.mp H
                obtain ⟨⟨t245, t246, t247, t248, t249⟩, A300, H⟩ := H
                replace H : (if t245 = 96 then ((neigh_Neigh_Cost.f t246 t247 t248 t249).bind fun bt250 => (if bt250.1 = 96 then ((neigh_Neigh_History.f bt250.2.1 bt250.2.2.1 bt250.2.2.2.1 bt250.2.2.2.2).bind fun bt255 => (some (decide (bt255.1 ≥ 49152)))) else (none))) else (none)) = some r := H
                have A30 := Aside0.mk A300
                clear A300
                by_cases c31 : t245 = 96
                · rw [if_pos c31] at H
                  have c31b0 : (t245 == 96) = true := beq_iff_eq.mpr c31
                  have c31b1 : (t245 != 96) = false := bne_eq_false_iff_eq.mpr c31
                  clear c31
                  replace H := Option.bind_eq_some_iff.mp H
                  obtain ⟨⟨t250, t251, t252, t253, t254⟩, A320, H⟩ := H
                  replace H : (if t250 = 96 then ((neigh_Neigh_History.f t251 t252 t253 t254).bind fun bt255 => (some (decide (bt255.1 ≥ 49152)))) else (none)) = some r := H
                  have A32 := Aside0.mk A320
                  clear A320
                  by_cases c33 : t250 = 96
                  · rw [if_pos c33] at H
                    have c33b0 : (t250 == 96) = true := beq_iff_eq.mpr c33
                    have c33b1 : (t250 != 96) = false := bne_eq_false_iff_eq.mpr c33
                    clear c33
                    replace H := Option.bind_eq_some_iff.mp H
                    obtain ⟨⟨t255, t256, t257, t258, t259⟩, A340, H⟩ := H
                    replace H : (some (decide (t255 ≥ 49152))) = some r := H
                    have A34 := Aside0.mk A340
                    clear A340
                    obtain rfl := Option.some.inj H
                    go_wp2_with (first | ((with_reducible refine gate_callee (f := 12) rfl ?_); refine goesL_ (some 67) rfl rfl Try.func12 (by kernel_rfl) rfl #[.pointer (some ⟨g216, 0, none⟩), .int .u16 a1] rfl (by (try simp only [List.map_toArray, List.map_cons, List.map_nil]); first | done | rfl | (simp only [List.length_drop, List.length_take]; rfl)) ?_; (with_reducible refine (neigh_Neigh_Hello.calls k2 g216 x217000_2 x217001_2 x217002_2 x217003_2 a1 t233 t234 t235 t236 w _ ?side1 ?side2 A26.out).mono ?_); (case side1 => repeat (first | (with_reducible first | exact HI216.out | apply IsS40.alloc | apply IsS40.drewN | apply IsS40.drew | apply IsS40.set_0 | apply IsS40.set_1 | apply IsS40.set_2 | apply IsS40.set_3) | exact HI216.out)); (case side2 => repeat (first | (with_reducible first | exact HB.out | apply below_alloc | apply pw_below_drewN | apply below_drew1 | refine below_set ?_ (IsS40.ge HI216.out)) | exact HB.out)); rintro e w35 ⟨rfl, hi, hb, hk⟩; refine ⟨_, rfl, ?_⟩; have n0_ := Aside0.mk (hb); have n1_ := Aside0.mk (hi); clear HB; clear HI216; have HB := n0_; have HI216 := n1_; clear n0_ n1_; (try clear hb); (try clear hb2); (try clear hk); (try clear hi)) | ((with_reducible refine gate_callee (f := 12) rfl ?_); refine goesL_ (some 71) rfl rfl Try.func12 (by kernel_rfl) rfl #[.pointer (some ⟨g216, 0, none⟩), .int .u16 (IntKind.u16.wrap (a1 + 1))] rfl (by (try simp only [List.map_toArray, List.map_cons, List.map_nil]); first | done | rfl | (simp only [List.length_drop, List.length_take]; rfl)) ?_; (with_reducible refine (neigh_Neigh_Hello.calls k2 g216 t233 t234 t235 t236 (IntKind.u16.wrap (a1 + 1)) t237 t238 t239 t240 w _ ?side1 ?side2 A27.out).mono ?_); (case side1 => repeat (first | (with_reducible first | exact HI216.out | apply IsS40.alloc | apply IsS40.drewN | apply IsS40.drew | apply IsS40.set_0 | apply IsS40.set_1 | apply IsS40.set_2 | apply IsS40.set_3) | exact HI216.out)); (case side2 => repeat (first | (with_reducible first | exact HB.out | apply below_alloc | apply pw_below_drewN | apply below_drew1 | refine below_set ?_ (IsS40.ge HI216.out)) | exact HB.out)); rintro e w36 ⟨rfl, hi, hb, hk⟩; refine ⟨_, rfl, ?_⟩; have n0_ := Aside0.mk (hb); have n1_ := Aside0.mk (hi); clear HB; clear HI216; have HB := n0_; have HI216 := n1_; clear n0_ n1_; (try clear hb); (try clear hb2); (try clear hk); (try clear hi)) | ((with_reducible refine gate_callee (f := 16) rfl ?_); refine goesL_ (some 74) rfl rfl Try.func16 (by kernel_rfl) rfl #[.pointer (some ⟨g216, 0, none⟩), .int .i64 a2] rfl (by (try simp only [List.map_toArray, List.map_cons, List.map_nil]); first | done | rfl | (simp only [List.length_drop, List.length_take]; rfl)) ?_; (with_reducible refine (neigh_Neigh_Ihu.calls g216 t237 t238 t239 t240 a2 t241 t242 t243 t244 w _ ?side1 ?side2 A28.out).mono ?_); (case side1 => repeat (first | (with_reducible first | exact HI216.out | apply IsS40.alloc | apply IsS40.drewN | apply IsS40.drew | apply IsS40.set_0 | apply IsS40.set_1 | apply IsS40.set_2 | apply IsS40.set_3) | exact HI216.out)); (case side2 => repeat (first | (with_reducible first | exact HB.out | apply below_alloc | apply pw_below_drewN | apply below_drew1 | refine below_set ?_ (IsS40.ge HI216.out)) | exact HB.out)); rintro e w37 ⟨rfl, hi, hb, hk⟩; refine ⟨_, rfl, ?_⟩; have n0_ := Aside0.mk (hb); have n1_ := Aside0.mk (hi); clear HB; clear HI216; have HB := n0_; have HI216 := n1_; clear n0_ n1_; (try clear hb); (try clear hb2); (try clear hk); (try clear hi)) | ((with_reducible refine gate_callee (f := 20) rfl ?_); refine goesL_ (some 79) rfl rfl Try.func20 (by kernel_rfl) rfl #[.pointer (some ⟨g216, 0, none⟩)] rfl (by (try simp only [List.map_toArray, List.map_cons, List.map_nil]); first | done | rfl | (simp only [List.length_drop, List.length_take]; rfl)) ?_; (with_reducible refine (neigh_Neigh_Rx.calls g216 t241 t242 t243 t244 t245 t246 t247 t248 t249 w _ ?side1 ?side2 A30.out).mono ?_); (case side1 => repeat (first | (with_reducible first | exact HI216.out | apply IsS40.alloc | apply IsS40.drewN | apply IsS40.drew | apply IsS40.set_0 | apply IsS40.set_1 | apply IsS40.set_2 | apply IsS40.set_3) | exact HI216.out)); (case side2 => repeat (first | (with_reducible first | exact HB.out | apply below_alloc | apply pw_below_drewN | apply below_drew1 | refine below_set ?_ (IsS40.ge HI216.out)) | exact HB.out)); rintro e w38 ⟨rfl, hi, hb, hk⟩; refine ⟨_, rfl, ?_⟩; have n0_ := Aside0.mk (hb); have n1_ := Aside0.mk (hi); clear HB; clear HI216; have HB := n0_; have HI216 := n1_; clear n0_ n1_; (try clear hb); (try clear hb2); (try clear hk); (try clear hi)) | (go_at_call 22; (with_reducible refine (neigh_Neigh_Cost.calls g216 t246 t247 t248 t249 t250 t251 t252 t253 t254 w _ ?side1 ?side2 A32.out).mono ?_); (case side1 => repeat (first | (with_reducible first | exact HI216.out | apply IsS40.alloc | apply IsS40.drewN | apply IsS40.drew | apply IsS40.set_0 | apply IsS40.set_1 | apply IsS40.set_2 | apply IsS40.set_3) | exact HI216.out)); (case side2 => repeat (first | (with_reducible first | exact HB.out | apply below_alloc | apply pw_below_drewN | apply below_drew1 | refine below_set ?_ (IsS40.ge HI216.out)) | exact HB.out)); rintro e w39 ⟨rfl, hi, hb, hk⟩; have n0_ := Aside0.mk (hb); have n1_ := Aside0.mk (hi); clear HB; clear HI216; have HB := n0_; have HI216 := n1_; clear n0_ n1_; (try clear hb); (try clear hb2); (try clear hk); (try clear hi)) | (go_at_call 18; (with_reducible refine (neigh_Neigh_History.calls g216 t251 t252 t253 t254 t255 t256 t257 t258 t259 w _ ?side1 ?side2 A34.out).mono ?_); (case side1 => repeat (first | (with_reducible first | exact HI216.out | apply IsS40.alloc | apply IsS40.drewN | apply IsS40.drew | apply IsS40.set_0 | apply IsS40.set_1 | apply IsS40.set_2 | apply IsS40.set_3) | exact HI216.out)); (case side2 => repeat (first | (with_reducible first | exact HB.out | apply below_alloc | apply pw_below_drewN | apply below_drew1 | refine below_set ?_ (IsS40.ge HI216.out)) | exact HB.out)); rintro e w40 ⟨rfl, hi, hb, hk⟩; have n0_ := Aside0.mk (hb); have n1_ := Aside0.mk (hi); clear HB; clear HI216; have HB := n0_; have HI216 := n1_; clear n0_ n1_; (try clear hb); (try clear hb2); (try clear hk); (try clear hi)))
                    go_ret
                    exact ⟨by first | rfl | (simp [errW_none, errW_some] <;> rfl) | (simp [*, errW_none, errW_some] <;> rfl), by repeat (first | (with_reducible first | exact HB.out | apply below_alloc | apply pw_below_drewN | apply below_drew1 | refine below_set ?_ (IsS40.ge HI216.out)) | exact HB.out)⟩
                  · rw [if_neg c33] at H
                    exact absurd H (by simp)
                · rw [if_neg c31] at H
                  exact absurd H (by simp)
              · rw [if_neg c29] at H
                have c29b0 : decide (a2 < 96) = false := decide_eq_false c29
                clear c29
                replace H := Option.bind_eq_some_iff.mp H
                obtain ⟨⟨t260, t261, t262, t263, t264⟩, A410, H⟩ := H
                replace H : (if t260 = 96 then ((neigh_Neigh_Cost.f t261 t262 t263 t264).bind fun bt265 => (if bt265.1 = a2 then ((neigh_Neigh_History.f bt265.2.1 bt265.2.2.1 bt265.2.2.2.1 bt265.2.2.2.2).bind fun bt270 => (some (decide (bt270.1 ≥ 49152)))) else (none))) else (none)) = some r := H
                have A41 := Aside0.mk A410
                clear A410
                by_cases c42 : t260 = 96
                · rw [if_pos c42] at H
                  have c42b0 : (t260 == 96) = true := beq_iff_eq.mpr c42
                  have c42b1 : (t260 != 96) = false := bne_eq_false_iff_eq.mpr c42
                  clear c42
                  replace H := Option.bind_eq_some_iff.mp H
                  obtain ⟨⟨t265, t266, t267, t268, t269⟩, A430, H⟩ := H
                  replace H : (if t265 = a2 then ((neigh_Neigh_History.f t266 t267 t268 t269).bind fun bt270 => (some (decide (bt270.1 ≥ 49152)))) else (none)) = some r := H
                  have A43 := Aside0.mk A430
                  clear A430
                  by_cases c44 : t265 = a2
                  · rw [if_pos c44] at H
                    have c44b0 : (t265 == a2) = true := beq_iff_eq.mpr c44
                    have c44b1 : (t265 != a2) = false := bne_eq_false_iff_eq.mpr c44
                    clear c44
                    replace H := Option.bind_eq_some_iff.mp H
                    obtain ⟨⟨t270, t271, t272, t273, t274⟩, A450, H⟩ := H
                    replace H : (some (decide (t270 ≥ 49152))) = some r := H
                    have A45 := Aside0.mk A450
                    clear A450
                    obtain rfl := Option.some.inj H
                    go_wp2_with (first | ((with_reducible refine gate_callee (f := 12) rfl ?_); refine goesL_ (some 67) rfl rfl Try.func12 (by kernel_rfl) rfl #[.pointer (some ⟨g216, 0, none⟩), .int .u16 a1] rfl (by (try simp only [List.map_toArray, List.map_cons, List.map_nil]); first | done | rfl | (simp only [List.length_drop, List.length_take]; rfl)) ?_; (with_reducible refine (neigh_Neigh_Hello.calls k2 g216 x217000_2 x217001_2 x217002_2 x217003_2 a1 t233 t234 t235 t236 w _ ?side1 ?side2 A26.out).mono ?_); (case side1 => repeat (first | (with_reducible first | exact HI216.out | apply IsS40.alloc | apply IsS40.drewN | apply IsS40.drew | apply IsS40.set_0 | apply IsS40.set_1 | apply IsS40.set_2 | apply IsS40.set_3) | exact HI216.out)); (case side2 => repeat (first | (with_reducible first | exact HB.out | apply below_alloc | apply pw_below_drewN | apply below_drew1 | refine below_set ?_ (IsS40.ge HI216.out)) | exact HB.out)); rintro e w46 ⟨rfl, hi, hb, hk⟩; refine ⟨_, rfl, ?_⟩; have n0_ := Aside0.mk (hb); have n1_ := Aside0.mk (hi); clear HB; clear HI216; have HB := n0_; have HI216 := n1_; clear n0_ n1_; (try clear hb); (try clear hb2); (try clear hk); (try clear hi)) | ((with_reducible refine gate_callee (f := 12) rfl ?_); refine goesL_ (some 71) rfl rfl Try.func12 (by kernel_rfl) rfl #[.pointer (some ⟨g216, 0, none⟩), .int .u16 (IntKind.u16.wrap (a1 + 1))] rfl (by (try simp only [List.map_toArray, List.map_cons, List.map_nil]); first | done | rfl | (simp only [List.length_drop, List.length_take]; rfl)) ?_; (with_reducible refine (neigh_Neigh_Hello.calls k2 g216 t233 t234 t235 t236 (IntKind.u16.wrap (a1 + 1)) t237 t238 t239 t240 w _ ?side1 ?side2 A27.out).mono ?_); (case side1 => repeat (first | (with_reducible first | exact HI216.out | apply IsS40.alloc | apply IsS40.drewN | apply IsS40.drew | apply IsS40.set_0 | apply IsS40.set_1 | apply IsS40.set_2 | apply IsS40.set_3) | exact HI216.out)); (case side2 => repeat (first | (with_reducible first | exact HB.out | apply below_alloc | apply pw_below_drewN | apply below_drew1 | refine below_set ?_ (IsS40.ge HI216.out)) | exact HB.out)); rintro e w47 ⟨rfl, hi, hb, hk⟩; refine ⟨_, rfl, ?_⟩; have n0_ := Aside0.mk (hb); have n1_ := Aside0.mk (hi); clear HB; clear HI216; have HB := n0_; have HI216 := n1_; clear n0_ n1_; (try clear hb); (try clear hb2); (try clear hk); (try clear hi)) | ((with_reducible refine gate_callee (f := 16) rfl ?_); refine goesL_ (some 74) rfl rfl Try.func16 (by kernel_rfl) rfl #[.pointer (some ⟨g216, 0, none⟩), .int .i64 a2] rfl (by (try simp only [List.map_toArray, List.map_cons, List.map_nil]); first | done | rfl | (simp only [List.length_drop, List.length_take]; rfl)) ?_; (with_reducible refine (neigh_Neigh_Ihu.calls g216 t237 t238 t239 t240 a2 t241 t242 t243 t244 w _ ?side1 ?side2 A28.out).mono ?_); (case side1 => repeat (first | (with_reducible first | exact HI216.out | apply IsS40.alloc | apply IsS40.drewN | apply IsS40.drew | apply IsS40.set_0 | apply IsS40.set_1 | apply IsS40.set_2 | apply IsS40.set_3) | exact HI216.out)); (case side2 => repeat (first | (with_reducible first | exact HB.out | apply below_alloc | apply pw_below_drewN | apply below_drew1 | refine below_set ?_ (IsS40.ge HI216.out)) | exact HB.out)); rintro e w48 ⟨rfl, hi, hb, hk⟩; refine ⟨_, rfl, ?_⟩; have n0_ := Aside0.mk (hb); have n1_ := Aside0.mk (hi); clear HB; clear HI216; have HB := n0_; have HI216 := n1_; clear n0_ n1_; (try clear hb); (try clear hb2); (try clear hk); (try clear hi)) | ((with_reducible refine gate_callee (f := 20) rfl ?_); refine goesL_ (some 79) rfl rfl Try.func20 (by kernel_rfl) rfl #[.pointer (some ⟨g216, 0, none⟩)] rfl (by (try simp only [List.map_toArray, List.map_cons, List.map_nil]); first | done | rfl | (simp only [List.length_drop, List.length_take]; rfl)) ?_; (with_reducible refine (neigh_Neigh_Rx.calls g216 t241 t242 t243 t244 t260 t261 t262 t263 t264 w _ ?side1 ?side2 A41.out).mono ?_); (case side1 => repeat (first | (with_reducible first | exact HI216.out | apply IsS40.alloc | apply IsS40.drewN | apply IsS40.drew | apply IsS40.set_0 | apply IsS40.set_1 | apply IsS40.set_2 | apply IsS40.set_3) | exact HI216.out)); (case side2 => repeat (first | (with_reducible first | exact HB.out | apply below_alloc | apply pw_below_drewN | apply below_drew1 | refine below_set ?_ (IsS40.ge HI216.out)) | exact HB.out)); rintro e w49 ⟨rfl, hi, hb, hk⟩; refine ⟨_, rfl, ?_⟩; have n0_ := Aside0.mk (hb); have n1_ := Aside0.mk (hi); clear HB; clear HI216; have HB := n0_; have HI216 := n1_; clear n0_ n1_; (try clear hb); (try clear hb2); (try clear hk); (try clear hi)) | (go_at_call 22; (with_reducible refine (neigh_Neigh_Cost.calls g216 t261 t262 t263 t264 t265 t266 t267 t268 t269 w _ ?side1 ?side2 A43.out).mono ?_); (case side1 => repeat (first | (with_reducible first | exact HI216.out | apply IsS40.alloc | apply IsS40.drewN | apply IsS40.drew | apply IsS40.set_0 | apply IsS40.set_1 | apply IsS40.set_2 | apply IsS40.set_3) | exact HI216.out)); (case side2 => repeat (first | (with_reducible first | exact HB.out | apply below_alloc | apply pw_below_drewN | apply below_drew1 | refine below_set ?_ (IsS40.ge HI216.out)) | exact HB.out)); rintro e w50 ⟨rfl, hi, hb, hk⟩; have n0_ := Aside0.mk (hb); have n1_ := Aside0.mk (hi); clear HB; clear HI216; have HB := n0_; have HI216 := n1_; clear n0_ n1_; (try clear hb); (try clear hb2); (try clear hk); (try clear hi)) | (go_at_call 18; (with_reducible refine (neigh_Neigh_History.calls g216 t266 t267 t268 t269 t270 t271 t272 t273 t274 w _ ?side1 ?side2 A45.out).mono ?_); (case side1 => repeat (first | (with_reducible first | exact HI216.out | apply IsS40.alloc | apply IsS40.drewN | apply IsS40.drew | apply IsS40.set_0 | apply IsS40.set_1 | apply IsS40.set_2 | apply IsS40.set_3) | exact HI216.out)); (case side2 => repeat (first | (with_reducible first | exact HB.out | apply below_alloc | apply pw_below_drewN | apply below_drew1 | refine below_set ?_ (IsS40.ge HI216.out)) | exact HB.out)); rintro e w51 ⟨rfl, hi, hb, hk⟩; have n0_ := Aside0.mk (hb); have n1_ := Aside0.mk (hi); clear HB; clear HI216; have HB := n0_; have HI216 := n1_; clear n0_ n1_; (try clear hb); (try clear hb2); (try clear hk); (try clear hi)))
                    go_ret
                    exact ⟨by first | rfl | (simp [errW_none, errW_some] <;> rfl) | (simp [*, errW_none, errW_some] <;> rfl), by repeat (first | (with_reducible first | exact HB.out | apply below_alloc | apply pw_below_drewN | apply below_drew1 | refine below_set ?_ (IsS40.ge HI216.out)) | exact HB.out)⟩
                  · rw [if_neg c44] at H
                    exact absurd H (by simp)
                · rw [if_neg c42] at H
                  exact absurd H (by simp)

end Go.Proofs.Ytchmcmioilmnpaa.L
