/- Printed by the session's own program out of the translation: for each Go function a Lean function with the same answers, and the proof that the code comes to them. No conditions. -/
import Derived.Test.YtchmcmioilmnpaaLx0
import Derived.Test.YtchmcmioilmnpaaLx1
namespace Go.Proofs.Ytchmcmioilmnpaa.L
open Go.Proofs.YtchmcmioilmnpaaLab
open Go.RowKit Go.Proofs.YtchmcmioilmnpaaW.PrintWords Go.Proofs.YtchmcmioilmnpaaW.PrintLast Go.Proofs.YtchmcmioilmnpaaW.PrintMore
attribute [local go_sem] max2_int min2_int max_two min_two max_three min_three max_four min_four   -- for this text's walks alone
set_option linter.unusedVariables false
set_option linter.unusedSimpArgs false

/-! ### octroilaw11_NeighTwice: function 6 -/
mutual
def octroilaw11_NeighTwice.j0 : Nat → List (S29) → Int → Bool → Bool → Int → Int → Bool → Int → Option (Bool)
  | 0, _, _, _, _, _, _, _, _ => none
  | k + 1, x0, x1, x5, x21, x281000, x281001, x281002, x281003 => if x21 = true then (if x5 = true then (some true) else (none)) else (octroilaw11_NeighTwice.l0 k x0 x1 0 x281000 x281001 x281002 x281003)
def octroilaw11_NeighTwice.l0 : Nat → List (S29) → Int → Int → Int → Int → Bool → Int → Option (Bool)
  | 0, _, _, _, _, _, _, _ => none
  | k + 1, x0, x1, x7, x281000, x281001, x281002, x281003 => if x7 < (x0.length : Int) then (if 0 ≤ x7 then (if ((rd_T29 x0 x7).f0) = 1 then ((neigh_Neigh_Miss.f x281000 x281001 x281002 x281003).bind fun bt282 => (octroilaw11_NeighTwice.l0 k x0 x1 (wrap64 (x7 + 1)) bt282.1 bt282.2.1 bt282.2.2.1 bt282.2.2.2)) else ((neigh_Neigh_Hello.f k x281000 x281001 x281002 x281003 (IntKind.u16.wrap ((rd_T29 x0 x7).f1))).bind fun bt287 => (octroilaw11_NeighTwice.l0 k x0 x1 (wrap64 (x7 + 1)) bt287.1 bt287.2.1 bt287.2.2.1 bt287.2.2.2))) else (none)) else ((neigh_Neigh_Hello.f k x281000 x281001 x281002 x281003 x1).bind fun bt291 => ((neigh_Neigh_History.f bt291.1 bt291.2.1 bt291.2.2.1 bt291.2.2.2).bind fun bt295 => ((neigh_Neigh_Hello.f k bt295.2.1 bt295.2.2.1 bt295.2.2.2.1 bt295.2.2.2.2 x1).bind fun bt300 => ((neigh_Neigh_History.f bt300.1 bt300.2.1 bt300.2.2.1 bt300.2.2.2).bind fun bt304 => (some (bt304.1 == bt295.1))))))
end
def octroilaw11_NeighTwice.f (k : Nat) (l0 : List (S29)) (a1 : Int) : Option (Bool) := (octroilaw11_awake.f k).bind fun t275 => ((neigh_New.f).bind fun bt276 => (if t275 = true then (octroilaw11_NeighTwice.j0 k l0 a1 t275 (decide ((l0.length : Int) > 200)) bt276.1 bt276.2.1 bt276.2.2.1 bt276.2.2.2) else (octroilaw11_NeighTwice.j0 k l0 a1 t275 true bt276.1 bt276.2.1 bt276.2.2.1 bt276.2.2.2)))
theorem octroilaw11_NeighTwice.mono_l : ∀ k, (∀ y0 y1 y2 y3 y4 y5 y6 y7, LeO (octroilaw11_NeighTwice.j0 k y0 y1 y2 y3 y4 y5 y6 y7) (octroilaw11_NeighTwice.j0 (k + 1) y0 y1 y2 y3 y4 y5 y6 y7)) ∧ (∀ y0 y1 y2 y3 y4 y5 y6, LeO (octroilaw11_NeighTwice.l0 k y0 y1 y2 y3 y4 y5 y6) (octroilaw11_NeighTwice.l0 (k + 1) y0 y1 y2 y3 y4 y5 y6))
  | 0 => ⟨fun _ _ _ _ _ _ _ _ r h => by simp [octroilaw11_NeighTwice.j0] at h, fun _ _ _ _ _ _ _ r h => by simp [octroilaw11_NeighTwice.l0] at h⟩
  | k + 1 => by
    obtain ⟨ih0, ih1⟩ := octroilaw11_NeighTwice.mono_l k
    refine ⟨?_, ?_⟩
    · intro y0 y1 y2 y3 y4 y5 y6 y7
      unfold octroilaw11_NeighTwice.j0
      repeat' first
      | (with_reducible exact ih0 _ _ _ _ _ _ _ _)
      | (with_reducible exact ih1 _ _ _ _ _ _ _)
      | (with_reducible exact neigh_Neigh_Hello.mono _ _ _ _ _ _)
      | (with_reducible exact octroilaw11_awake.mono _)
      | (with_reducible exact LeO.refl _)
      | (with_reducible exact LeO.none _)
      | (with_reducible refine LeO.ite ?_ ?_)
      | (with_reducible refine LeO.bind ?_ (fun _ => ?_))
      | exact ih0 _ _ _ _ _ _ _ _
      | exact ih1 _ _ _ _ _ _ _
      | exact neigh_Neigh_Hello.mono _ _ _ _ _ _
      | exact octroilaw11_awake.mono _
      | exact LeO.none _
      | refine LeO.ite ?_ ?_
      | refine LeO.bind ?_ (fun _ => ?_)
    · intro y0 y1 y2 y3 y4 y5 y6
      unfold octroilaw11_NeighTwice.l0
      repeat' first
      | (with_reducible exact ih0 _ _ _ _ _ _ _ _)
      | (with_reducible exact ih1 _ _ _ _ _ _ _)
      | (with_reducible exact neigh_Neigh_Hello.mono _ _ _ _ _ _)
      | (with_reducible exact octroilaw11_awake.mono _)
      | (with_reducible exact LeO.refl _)
      | (with_reducible exact LeO.none _)
      | (with_reducible refine LeO.ite ?_ ?_)
      | (with_reducible refine LeO.bind ?_ (fun _ => ?_))
      | exact ih0 _ _ _ _ _ _ _ _
      | exact ih1 _ _ _ _ _ _ _
      | exact neigh_Neigh_Hello.mono _ _ _ _ _ _
      | exact octroilaw11_awake.mono _
      | exact LeO.none _
      | refine LeO.ite ?_ ?_
      | refine LeO.bind ?_ (fun _ => ?_)
theorem octroilaw11_NeighTwice.mono : ∀ a0 a1 k, LeO (octroilaw11_NeighTwice.f k a0 a1) (octroilaw11_NeighTwice.f (k + 1) a0 a1) := by
  intro a0 a1 k
  obtain ⟨ih0, ih1⟩ := octroilaw11_NeighTwice.mono_l k
  unfold octroilaw11_NeighTwice.f
  repeat' first
      | (with_reducible exact ih0 _ _ _ _ _ _ _ _)
      | (with_reducible exact ih1 _ _ _ _ _ _ _)
      | (with_reducible exact neigh_Neigh_Hello.mono _ _ _ _ _ _)
      | (with_reducible exact octroilaw11_awake.mono _)
      | (with_reducible exact LeO.refl _)
      | (with_reducible exact LeO.none _)
      | (with_reducible refine LeO.ite ?_ ?_)
      | (with_reducible refine LeO.bind ?_ (fun _ => ?_))
      | exact ih0 _ _ _ _ _ _ _ _
      | exact ih1 _ _ _ _ _ _ _
      | exact neigh_Neigh_Hello.mono _ _ _ _ _ _
      | exact octroilaw11_awake.mono _
      | exact LeO.none _
      | refine LeO.ite ?_ ?_
      | refine LeO.bind ?_ (fun _ => ?_)
set_option maxHeartbeats 8000000 in
set_option maxRecDepth 100000 in
theorem octroilaw11_NeighTwice.calls (k : Nat) (A0 : Option Addr) (c0 : Nat) (l0 : List (S29)) (a1 : Int) (r : Bool) (w : World) (hr0 : Kd.C k29 w A0 l0.length l0) (hc0 : l0.length ≤ c0) (h : octroilaw11_NeighTwice.f k l0 a1 = some r) :
    Calls Try.prog 6 #[.slice A0 l0.length c0, .int .u16 a1] w fun e w' => e = .returned (.bool r) ∧ Below w.heap.size w w' := by
  have hup24 : Try.prog.underlying 24 = some (.pointer 40) := by kernel_rfl
  have HR0 := Aside0.mk hr0
  have HC0 := Aside0.mk hc0
  clear hr0 hc0
  have HB := Aside0.mk (Below.refl w.heap.size w)
  have H : ((octroilaw11_awake.f k).bind fun t275 => ((neigh_New.f).bind fun bt276 => (if t275 = true then (octroilaw11_NeighTwice.j0 k l0 a1 t275 (decide ((l0.length : Int) > 200)) bt276.1 bt276.2.1 bt276.2.2.1 bt276.2.2.2) else (octroilaw11_NeighTwice.j0 k l0 a1 t275 true bt276.1 bt276.2.1 bt276.2.2.1 bt276.2.2.2)))) = some r := h
  clear h
  replace H := Option.bind_eq_some_iff.mp H
  obtain ⟨t275, A30, H⟩ := H
  replace H : ((neigh_New.f).bind fun bt276 => (if t275 = true then (octroilaw11_NeighTwice.j0 k l0 a1 t275 (decide ((l0.length : Int) > 200)) bt276.1 bt276.2.1 bt276.2.2.1 bt276.2.2.2) else (octroilaw11_NeighTwice.j0 k l0 a1 t275 true bt276.1 bt276.2.1 bt276.2.2.1 bt276.2.2.2))) = some r := H
  have A3 := Aside0.mk A30
  clear A30
  replace H := Option.bind_eq_some_iff.mp H
  obtain ⟨⟨t276, t277, t278, t279⟩, A40, H⟩ := H
  replace H : (if t275 = true then (octroilaw11_NeighTwice.j0 k l0 a1 t275 (decide ((l0.length : Int) > 200)) t276 t277 t278 t279) else (octroilaw11_NeighTwice.j0 k l0 a1 t275 true t276 t277 t278 t279)) = some r := H
  have A4 := Aside0.mk A40
  clear A40
  have HC5 := Aside0.mk H
  clear H
  go_enter Try.func6, Try.ntmps6
  go_upto_region 3 with (first | ((with_reducible refine gate_callee (f := 9) rfl ?_); refine goesL_ (some 9) rfl rfl Try.func9 (by kernel_rfl) rfl #[] rfl (by (try simp only [List.map_toArray, List.map_cons, List.map_nil]); first | done | rfl | (simp only [List.length_drop, List.length_take]; rfl)) ?_; (with_reducible refine (octroilaw11_awake.calls k  t275 _ A3.out).mono ?_); rintro e w6 ⟨rfl, hb⟩; refine ⟨_, rfl, ?_⟩; have n0_ := Aside0.mk (below_step (by repeat (first | (with_reducible first | exact HB.out | apply below_alloc | apply pw_below_drewN | apply below_drew1) | exact HB.out)) hb); clear HB; have HB := n0_; clear n0_; (try clear hb); (try clear hb2); (try clear hk); (try clear hi)) | ((with_reducible refine gate_callee (f := 10) rfl ?_); refine goesL_ (some 10) rfl rfl Try.func10 (by kernel_rfl) rfl #[] rfl (by (try simp only [List.map_toArray, List.map_cons, List.map_nil]); first | done | rfl | (simp only [List.length_drop, List.length_take]; rfl)) ?_; (with_reducible refine (neigh_New.calls  t276 t277 t278 t279 w _ ?side1 A4.out).mono ?_); (case side1 => repeat (first | (with_reducible first | exact HB.out | apply below_alloc | apply pw_below_drewN | apply below_drew1) | exact HB.out)); rintro e w7 ⟨g280, rfl, hi, hb, hb2⟩; refine ⟨_, rfl, ?_⟩; have n0_ := Aside0.mk (hb); have n1_ := Aside0.mk (hi); clear HB; have HB := n0_; have HI280 := n1_; clear n0_ n1_; (try clear hb); (try clear hb2); (try clear hk); (try clear hi)))
  (try simp only [Act.put, List.setIfInBounds_toArray, List.set_cons_zero, List.set_cons_succ])
  go_cut [21] (fun v21 wc => ∃ (kq : Nat) (x21_4 : Bool), v21 = .bool x21_4 ∧ Aside0 (octroilaw11_NeighTwice.j0 kq l0 a1 t275 x21_4 t276 t277 t278 t279 = some r) ∧ Aside0 (kq ≤ k) ∧ Aside0 (IsS40 w wc g280 t276 t277 t278 t279) ∧ Aside0 (Below w.heap.size w wc))
  case first =>
    have H := HC5.out
    clear HC5
    by_cases c8 : t275 = true
    · subst c8
      have H1 : (octroilaw11_NeighTwice.j0 k l0 a1 true (decide ((l0.length : Int) > 200)) t276 t277 t278 t279) = some r := by rw [if_pos rfl] at H; exact H
      clear H
      have H := H1
      clear H1
      have H' := Aside0.mk H
      clear H
      go_wp2
      go_meet
      case rel => exact ⟨_, (decide ((l0.length : Int) > 200)), (by first | rfl | (simp; done) | (simp [*]; done)), H', ⟨by first | omega | exact Nat.le_refl _⟩, ⟨by repeat (first | (with_reducible first | exact HI280.out | apply IsS40.alloc | apply IsS40.drewN | apply IsS40.drew | apply IsS40.set_0 | apply IsS40.set_1 | apply IsS40.set_2 | apply IsS40.set_3) | exact HI280.out)⟩, ⟨by repeat (first | (with_reducible first | exact HB.out | apply below_alloc | apply pw_below_drewN | apply below_drew1 | refine below_set ?_ (IsS40.ge HI280.out)) | exact HB.out)⟩⟩
    · replace c8 := Bool.eq_false_iff.mpr c8
      subst c8
      have H1 : (octroilaw11_NeighTwice.j0 k l0 a1 false true t276 t277 t278 t279) = some r := by rw [if_neg (show ¬ (false = true) by decide)] at H; exact H
      clear H
      have H := H1
      clear H1
      have H' := Aside0.mk H
      clear H
      go_wp2
      go_meet
      case rel => exact ⟨_, (true), (by first | rfl | (simp; done) | (simp [*]; done)), H', ⟨by first | omega | exact Nat.le_refl _⟩, ⟨by repeat (first | (with_reducible first | exact HI280.out | apply IsS40.alloc | apply IsS40.drewN | apply IsS40.drew | apply IsS40.set_0 | apply IsS40.set_1 | apply IsS40.set_2 | apply IsS40.set_3) | exact HI280.out)⟩, ⟨by repeat (first | (with_reducible first | exact HB.out | apply below_alloc | apply pw_below_drewN | apply below_drew1 | refine below_set ?_ (IsS40.ge HI280.out)) | exact HB.out)⟩⟩
  case rest =>
    clear HC5
    try clear c1
    try clear p2
    try clear c6
    try clear c8
    obtain ⟨kq, x21_4, rfl, HA, HJ4, HI280, HB⟩ := hcut
    cases kq with
    | zero => exact absurd HA.out (by simp [octroilaw11_NeighTwice.j0])
    | succ kj4 =>
      have H := HA.out
      clear HA
      simp only [octroilaw11_NeighTwice.j0] at H
      by_cases c9 : x21_4 = true
      · subst c9
        have H1 : (if t275 = true then (some true) else (none)) = some r := by rw [if_pos rfl] at H; exact H
        clear H
        have H := H1
        clear H1
        by_cases c10 : t275 = true
        · subst c10
          have H1 : (some true) = some r := by rw [if_pos rfl] at H; exact H
          clear H
          have H := H1
          clear H1
          obtain rfl := Option.some.inj H
          go_wp2
          go_ret
          exact ⟨by first | rfl | (simp [errW_none, errW_some] <;> rfl) | (simp [*, errW_none, errW_some] <;> rfl), by repeat (first | (with_reducible first | exact HB.out | apply below_alloc | apply pw_below_drewN | apply below_drew1 | refine below_set ?_ (IsS40.ge HI280.out)) | exact HB.out)⟩
        · replace c10 := Bool.eq_false_iff.mpr c10
          subst c10
          have H1 : (none) = some r := by rw [if_neg (show ¬ (false = true) by decide)] at H; exact H
          clear H
          have H := H1
          clear H1
          exact absurd H (by simp)
      · replace c9 := Bool.eq_false_iff.mpr c9
        subst c9
        have H1 : (octroilaw11_NeighTwice.l0 kj4 l0 a1 0 t276 t277 t278 t279) = some r := by rw [if_neg (show ¬ (false = true) by decide)] at H; exact H
        clear H
        have H := H1
        clear H1
        have H' := Aside0.mk H
        clear H
        go_wp2
        go_loopg [7] kj4 (fun kq v7 w' => ∃ (x7_2 : Int) (x281000_2 : Int) (x281001_2 : Int) (x281002_2 : Bool) (x281003_2 : Int), v7 = .int .i64 x7_2 ∧ Aside0 (octroilaw11_NeighTwice.l0 kq l0 a1 x7_2 x281000_2 x281001_2 x281002_2 x281003_2 = some r) ∧ Aside0 (kq ≤ kj4) ∧ Aside0 (IsS40 w w' g280 x281000_2 x281001_2 x281002_2 x281003_2) ∧ Aside0 (Below w.heap.size w w'))
        case atStart => exact ⟨(0), (t276), (t277), (t278), (t279), (by first | rfl | (simp; done) | (simp [*]; done)), H', ⟨Nat.le_refl _⟩, ⟨by repeat (first | (with_reducible first | exact HI280.out | apply IsS40.alloc | apply IsS40.drewN | apply IsS40.drew | apply IsS40.set_0 | apply IsS40.set_1 | apply IsS40.set_2 | apply IsS40.set_3) | exact HI280.out)⟩, ⟨by repeat (first | (with_reducible first | exact HB.out | apply below_alloc | apply pw_below_drewN | apply below_drew1 | refine below_set ?_ (IsS40.ge HI280.out)) | exact HB.out)⟩⟩
        case round =>
          clear H'
          try clear c1
          try clear p2
          try clear c6
          try clear c8
          try clear c9
          try clear c10
          try clear p2
          obtain ⟨x7_2, x281000_2, x281001_2, x281002_2, x281003_2, rfl, HA, HK2, HI280, HB⟩ := hrel
          cases gk with
          | zero => exact absurd HA.out (by simp [octroilaw11_NeighTwice.l0])
          | succ k2 =>
            have H := HA.out
            clear HA
            simp only [octroilaw11_NeighTwice.l0] at H
            by_cases c11 : x7_2 < (l0.length : Int)
            · rw [if_pos c11] at H
              have c11b0 : decide (x7_2 < (l0.length : Int)) = true := decide_eq_true c11
              clear c11
              by_cases c12 : 0 ≤ x7_2
              · rw [if_pos c12] at H
                have c12b0 : decide (0 ≤ x7_2) = true := decide_eq_true c12
                clear c12
                by_cases c13 : ((rd_T29 l0 x7_2).f0) = 1
                · rw [if_pos c13] at H
                  have c13b0 : (((rd_T29 l0 x7_2).f0) == 1) = true := beq_iff_eq.mpr c13
                  have c13b1 : (((rd_T29 l0 x7_2).f0) != 1) = false := bne_eq_false_iff_eq.mpr c13
                  clear c13
                  replace H := Option.bind_eq_some_iff.mp H
                  obtain ⟨⟨t282, t283, t284, t285⟩, A140, H⟩ := H
                  replace H : (octroilaw11_NeighTwice.l0 k2 l0 a1 (wrap64 (x7_2 + 1)) t282 t283 t284 t285) = some r := H
                  have A14 := Aside0.mk A140
                  clear A140
                  have H' := Aside0.mk H
                  clear H
                  have p281 : 0 ≤ (x7_2 : Int) := of_decide_eq_true (by first | (with_reducible assumption) | assumption)
                  have q281 : x7_2 < (l0.length : Int) := of_decide_eq_true (by first | (with_reducible assumption) | assumption)
                  obtain ⟨ad281, e281, hx281_0, hx281_1⟩ := at_T29 HR0.out x7_2 p281 q281
                  cases e281
                  replace hx281_0 := (HB.out.cell (World.block_lt_of_cell? w _ hx281_0)).trans hx281_0
                  replace hx281_1 := (HB.out.cell (World.block_lt_of_cell? w _ hx281_1)).trans hx281_1
                  replace p281 := eq_true p281
                  replace q281 := eq_true q281
                  go_wp2_with (first | ((with_reducible refine gate_callee (f := 14) rfl ?_); refine goesL_ (some 40) rfl rfl Try.func14 (by kernel_rfl) rfl #[.pointer (some ⟨g280, 0, none⟩)] rfl (by (try simp only [List.map_toArray, List.map_cons, List.map_nil]); first | done | rfl | (simp only [List.length_drop, List.length_take]; rfl)) ?_; (with_reducible refine (neigh_Neigh_Miss.calls g280 x281000_2 x281001_2 x281002_2 x281003_2 t282 t283 t284 t285 w _ ?side1 ?side2 A14.out).mono ?_); (case side1 => repeat (first | (with_reducible first | exact HI280.out | apply IsS40.alloc | apply IsS40.drewN | apply IsS40.drew | apply IsS40.set_0 | apply IsS40.set_1 | apply IsS40.set_2 | apply IsS40.set_3) | exact HI280.out)); (case side2 => repeat (first | (with_reducible first | exact HB.out | apply below_alloc | apply pw_below_drewN | apply below_drew1 | refine below_set ?_ (IsS40.ge HI280.out)) | exact HB.out)); rintro e w15 ⟨rfl, hi, hb, hk⟩; refine ⟨_, rfl, ?_⟩; have n0_ := Aside0.mk (hb); have n1_ := Aside0.mk (hi); clear HB; clear HI280; have HB := n0_; have HI280 := n1_; clear n0_ n1_; (try clear hb); (try clear hb2); (try clear hk); (try clear hi)))
                  go_roundg k2
                  case measure => have := HJ4.out; have := HK2.out; omega
                  case rel => exact ⟨(wrap64 (x7_2 + 1)), (t282), (t283), (t284), (t285), (by first | rfl | (simp; done) | (simp [*]; done)), H', ⟨by have := HJ4.out; have := HK2.out; omega⟩, ⟨by repeat (first | (with_reducible first | exact HI280.out | apply IsS40.alloc | apply IsS40.drewN | apply IsS40.drew | apply IsS40.set_0 | apply IsS40.set_1 | apply IsS40.set_2 | apply IsS40.set_3) | exact HI280.out)⟩, ⟨by repeat (first | (with_reducible first | exact HB.out | apply below_alloc | apply pw_below_drewN | apply below_drew1 | refine below_set ?_ (IsS40.ge HI280.out)) | exact HB.out)⟩⟩
                · rw [if_neg c13] at H
                  have c13b0 : (((rd_T29 l0 x7_2).f0) == 1) = false := beq_eq_false_iff_ne.mpr c13
                  have c13b1 : (((rd_T29 l0 x7_2).f0) != 1) = true := bne_iff_ne.mpr c13
                  replace H := Option.bind_eq_some_iff.mp H
                  obtain ⟨⟨t287, t288, t289, t290⟩, A160, H⟩ := H
                  replace H : (octroilaw11_NeighTwice.l0 k2 l0 a1 (wrap64 (x7_2 + 1)) t287 t288 t289 t290) = some r := H
                  have A16 := Aside0.mk A160
                  clear A160
                  have H' := Aside0.mk H
                  clear H
                  have p281 : 0 ≤ (x7_2 : Int) := of_decide_eq_true (by first | (with_reducible assumption) | assumption)
                  have q281 : x7_2 < (l0.length : Int) := of_decide_eq_true (by first | (with_reducible assumption) | assumption)
                  obtain ⟨ad281, e281, hx281_0, hx281_1⟩ := at_T29 HR0.out x7_2 p281 q281
                  cases e281
                  replace hx281_0 := (HB.out.cell (World.block_lt_of_cell? w _ hx281_0)).trans hx281_0
                  replace hx281_1 := (HB.out.cell (World.block_lt_of_cell? w _ hx281_1)).trans hx281_1
                  replace p281 := eq_true p281
                  replace q281 := eq_true q281
                  have p286 : 0 ≤ (x7_2 : Int) := of_decide_eq_true (by first | (with_reducible assumption) | assumption)
                  have q286 : x7_2 < (l0.length : Int) := of_decide_eq_true (by first | (with_reducible assumption) | assumption)
                  obtain ⟨ad286, e286, hx286_0, hx286_1⟩ := at_T29 HR0.out x7_2 p286 q286
                  obtain rfl : ad281 = ad286 := (by injection e286)
                  replace hx286_0 := (HB.out.cell (World.block_lt_of_cell? w _ hx286_0)).trans hx286_0
                  replace hx286_1 := (HB.out.cell (World.block_lt_of_cell? w _ hx286_1)).trans hx286_1
                  replace p286 := eq_true p286
                  replace q286 := eq_true q286
                  go_wp2_with (first | ((with_reducible refine gate_callee (f := 12) rfl ?_); refine goesL_ (some 48) rfl rfl Try.func12 (by kernel_rfl) rfl #[.pointer (some ⟨g280, 0, none⟩), .int .u16 (IntKind.u16.wrap ((rd_T29 l0 x7_2).f1))] rfl (by (try simp only [List.map_toArray, List.map_cons, List.map_nil]); first | done | rfl | (simp only [List.length_drop, List.length_take]; rfl)) ?_; (with_reducible refine (neigh_Neigh_Hello.calls k2 g280 x281000_2 x281001_2 x281002_2 x281003_2 (IntKind.u16.wrap ((rd_T29 l0 x7_2).f1)) t287 t288 t289 t290 w _ ?side1 ?side2 A16.out).mono ?_); (case side1 => repeat (first | (with_reducible first | exact HI280.out | apply IsS40.alloc | apply IsS40.drewN | apply IsS40.drew | apply IsS40.set_0 | apply IsS40.set_1 | apply IsS40.set_2 | apply IsS40.set_3) | exact HI280.out)); (case side2 => repeat (first | (with_reducible first | exact HB.out | apply below_alloc | apply pw_below_drewN | apply below_drew1 | refine below_set ?_ (IsS40.ge HI280.out)) | exact HB.out)); rintro e w17 ⟨rfl, hi, hb, hk⟩; refine ⟨_, rfl, ?_⟩; have n0_ := Aside0.mk (hb); have n1_ := Aside0.mk (hi); clear HB; clear HI280; have HB := n0_; have HI280 := n1_; clear n0_ n1_; (try clear hb); (try clear hb2); (try clear hk); (try clear hi)))
                  go_roundg k2
                  case measure => have := HJ4.out; have := HK2.out; omega
                  case rel => exact ⟨(wrap64 (x7_2 + 1)), (t287), (t288), (t289), (t290), (by first | rfl | (simp; done) | (simp [*]; done)), H', ⟨by have := HJ4.out; have := HK2.out; omega⟩, ⟨by repeat (first | (with_reducible first | exact HI280.out | apply IsS40.alloc | apply IsS40.drewN | apply IsS40.drew | apply IsS40.set_0 | apply IsS40.set_1 | apply IsS40.set_2 | apply IsS40.set_3) | exact HI280.out)⟩, ⟨by repeat (first | (with_reducible first | exact HB.out | apply below_alloc | apply pw_below_drewN | apply below_drew1 | refine below_set ?_ (IsS40.ge HI280.out)) | exact HB.out)⟩⟩
              · rw [if_neg c12] at H
                exact absurd H (by simp)
            · rw [if_neg c11] at H
              have c11b0 : decide (x7_2 < (l0.length : Int)) = false := decide_eq_false c11
              clear c11
              replace H := Option.bind_eq_some_iff.mp H
              obtain ⟨⟨t291, t292, t293, t294⟩, A180, H⟩ := H
              replace H : ((neigh_Neigh_History.f t291 t292 t293 t294).bind fun bt295 => ((neigh_Neigh_Hello.f k2 bt295.2.1 bt295.2.2.1 bt295.2.2.2.1 bt295.2.2.2.2 a1).bind fun bt300 => ((neigh_Neigh_History.f bt300.1 bt300.2.1 bt300.2.2.1 bt300.2.2.2).bind fun bt304 => (some (bt304.1 == bt295.1))))) = some r := H
              have A18 := Aside0.mk A180
              clear A180
              replace H := Option.bind_eq_some_iff.mp H
              obtain ⟨⟨t295, t296, t297, t298, t299⟩, A190, H⟩ := H
              replace H : ((neigh_Neigh_Hello.f k2 t296 t297 t298 t299 a1).bind fun bt300 => ((neigh_Neigh_History.f bt300.1 bt300.2.1 bt300.2.2.1 bt300.2.2.2).bind fun bt304 => (some (bt304.1 == t295)))) = some r := H
              have A19 := Aside0.mk A190
              clear A190
              replace H := Option.bind_eq_some_iff.mp H
              obtain ⟨⟨t300, t301, t302, t303⟩, A200, H⟩ := H
              replace H : ((neigh_Neigh_History.f t300 t301 t302 t303).bind fun bt304 => (some (bt304.1 == t295))) = some r := H
              have A20 := Aside0.mk A200
              clear A200
              replace H := Option.bind_eq_some_iff.mp H
              obtain ⟨⟨t304, t305, t306, t307, t308⟩, A210, H⟩ := H
              replace H : (some (t304 == t295)) = some r := H
              have A21 := Aside0.mk A210
              clear A210
              obtain rfl := Option.some.inj H
              go_wp2_with (first | ((with_reducible refine gate_callee (f := 12) rfl ?_); refine goesL_ (some 51) rfl rfl Try.func12 (by kernel_rfl) rfl #[.pointer (some ⟨g280, 0, none⟩), .int .u16 a1] rfl (by (try simp only [List.map_toArray, List.map_cons, List.map_nil]); first | done | rfl | (simp only [List.length_drop, List.length_take]; rfl)) ?_; (with_reducible refine (neigh_Neigh_Hello.calls k2 g280 x281000_2 x281001_2 x281002_2 x281003_2 a1 t291 t292 t293 t294 w _ ?side1 ?side2 A18.out).mono ?_); (case side1 => repeat (first | (with_reducible first | exact HI280.out | apply IsS40.alloc | apply IsS40.drewN | apply IsS40.drew | apply IsS40.set_0 | apply IsS40.set_1 | apply IsS40.set_2 | apply IsS40.set_3) | exact HI280.out)); (case side2 => repeat (first | (with_reducible first | exact HB.out | apply below_alloc | apply pw_below_drewN | apply below_drew1 | refine below_set ?_ (IsS40.ge HI280.out)) | exact HB.out)); rintro e w22 ⟨rfl, hi, hb, hk⟩; refine ⟨_, rfl, ?_⟩; have n0_ := Aside0.mk (hb); have n1_ := Aside0.mk (hi); clear HB; clear HI280; have HB := n0_; have HI280 := n1_; clear n0_ n1_; (try clear hb); (try clear hb2); (try clear hk); (try clear hi)) | ((with_reducible refine gate_callee (f := 18) rfl ?_); refine goesL_ (some 53) rfl rfl Try.func18 (by kernel_rfl) rfl #[.pointer (some ⟨g280, 0, none⟩)] rfl (by (try simp only [List.map_toArray, List.map_cons, List.map_nil]); first | done | rfl | (simp only [List.length_drop, List.length_take]; rfl)) ?_; (with_reducible refine (neigh_Neigh_History.calls g280 t291 t292 t293 t294 t295 t296 t297 t298 t299 w _ ?side1 ?side2 A19.out).mono ?_); (case side1 => repeat (first | (with_reducible first | exact HI280.out | apply IsS40.alloc | apply IsS40.drewN | apply IsS40.drew | apply IsS40.set_0 | apply IsS40.set_1 | apply IsS40.set_2 | apply IsS40.set_3) | exact HI280.out)); (case side2 => repeat (first | (with_reducible first | exact HB.out | apply below_alloc | apply pw_below_drewN | apply below_drew1 | refine below_set ?_ (IsS40.ge HI280.out)) | exact HB.out)); rintro e w23 ⟨rfl, hi, hb, hk⟩; refine ⟨_, rfl, ?_⟩; have n0_ := Aside0.mk (hb); have n1_ := Aside0.mk (hi); clear HB; clear HI280; have HB := n0_; have HI280 := n1_; clear n0_ n1_; (try clear hb); (try clear hb2); (try clear hk); (try clear hi)) | ((with_reducible refine gate_callee (f := 12) rfl ?_); refine goesL_ (some 56) rfl rfl Try.func12 (by kernel_rfl) rfl #[.pointer (some ⟨g280, 0, none⟩), .int .u16 a1] rfl (by (try simp only [List.map_toArray, List.map_cons, List.map_nil]); first | done | rfl | (simp only [List.length_drop, List.length_take]; rfl)) ?_; (with_reducible refine (neigh_Neigh_Hello.calls k2 g280 t296 t297 t298 t299 a1 t300 t301 t302 t303 w _ ?side1 ?side2 A20.out).mono ?_); (case side1 => repeat (first | (with_reducible first | exact HI280.out | apply IsS40.alloc | apply IsS40.drewN | apply IsS40.drew | apply IsS40.set_0 | apply IsS40.set_1 | apply IsS40.set_2 | apply IsS40.set_3) | exact HI280.out)); (case side2 => repeat (first | (with_reducible first | exact HB.out | apply below_alloc | apply pw_below_drewN | apply below_drew1 | refine below_set ?_ (IsS40.ge HI280.out)) | exact HB.out)); rintro e w24 ⟨rfl, hi, hb, hk⟩; refine ⟨_, rfl, ?_⟩; have n0_ := Aside0.mk (hb); have n1_ := Aside0.mk (hi); clear HB; clear HI280; have HB := n0_; have HI280 := n1_; clear n0_ n1_; (try clear hb); (try clear hb2); (try clear hk); (try clear hi)) | ((with_reducible refine gate_callee (f := 18) rfl ?_); refine goesL_ (some 58) rfl rfl Try.func18 (by kernel_rfl) rfl #[.pointer (some ⟨g280, 0, none⟩)] rfl (by (try simp only [List.map_toArray, List.map_cons, List.map_nil]); first | done | rfl | (simp only [List.length_drop, List.length_take]; rfl)) ?_; (with_reducible refine (neigh_Neigh_History.calls g280 t300 t301 t302 t303 t304 t305 t306 t307 t308 w _ ?side1 ?side2 A21.out).mono ?_); (case side1 => repeat (first | (with_reducible first | exact HI280.out | apply IsS40.alloc | apply IsS40.drewN | apply IsS40.drew | apply IsS40.set_0 | apply IsS40.set_1 | apply IsS40.set_2 | apply IsS40.set_3) | exact HI280.out)); (case side2 => repeat (first | (with_reducible first | exact HB.out | apply below_alloc | apply pw_below_drewN | apply below_drew1 | refine below_set ?_ (IsS40.ge HI280.out)) | exact HB.out)); rintro e w25 ⟨rfl, hi, hb, hk⟩; refine ⟨_, rfl, ?_⟩; have n0_ := Aside0.mk (hb); have n1_ := Aside0.mk (hi); clear HB; clear HI280; have HB := n0_; have HI280 := n1_; clear n0_ n1_; (try clear hb); (try clear hb2); (try clear hk); (try clear hi)))
              go_ret
              exact ⟨by first | rfl | (simp [errW_none, errW_some] <;> rfl) | (simp [*, errW_none, errW_some] <;> rfl), by repeat (first | (with_reducible first | exact HB.out | apply below_alloc | apply pw_below_drewN | apply below_drew1 | refine below_set ?_ (IsS40.ge HI280.out)) | exact HB.out)⟩

/-! ### octroilaw11_NeighTold: function 7 -/
mutual
def octroilaw11_NeighTold.j0 : Nat → List (S29) → Int → Bool → Bool → Int → Int → Bool → Int → Option (Bool)
  | 0, _, _, _, _, _, _, _, _ => none
  | k + 1, x0, x1, x5, x22, x315000, x315001, x315002, x315003 => if x22 = true then (if x5 = true then (some true) else (none)) else (octroilaw11_NeighTold.l0 k x0 x1 0 x315000 x315001 x315002 x315003)
def octroilaw11_NeighTold.l0 : Nat → List (S29) → Int → Int → Int → Int → Bool → Int → Option (Bool)
  | 0, _, _, _, _, _, _, _ => none
  | k + 1, x0, x1, x7, x315000, x315001, x315002, x315003 => if x7 < (x0.length : Int) then (if 0 ≤ x7 then (if ((rd_T29 x0 x7).f0) = 0 then ((neigh_Neigh_Hello.f k x315000 x315001 x315002 x315003 (IntKind.u16.wrap ((rd_T29 x0 x7).f1))).bind fun bt317 => (if ((rd_T29 x0 x7).f0) = 1 then ((neigh_Neigh_Miss.f bt317.1 bt317.2.1 bt317.2.2.1 bt317.2.2.2).bind fun bt322 => (octroilaw11_NeighTold.l0 k x0 x1 (wrap64 (x7 + 1)) bt322.1 bt322.2.1 bt322.2.2.1 bt322.2.2.2)) else (octroilaw11_NeighTold.l0 k x0 x1 (wrap64 (x7 + 1)) bt317.1 bt317.2.1 bt317.2.2.1 bt317.2.2.2))) else (if ((rd_T29 x0 x7).f0) = 1 then ((neigh_Neigh_Miss.f x315000 x315001 x315002 x315003).bind fun bt327 => (octroilaw11_NeighTold.l0 k x0 x1 (wrap64 (x7 + 1)) bt327.1 bt327.2.1 bt327.2.2.1 bt327.2.2.2)) else (octroilaw11_NeighTold.l0 k x0 x1 (wrap64 (x7 + 1)) x315000 x315001 x315002 x315003))) else (none)) else ((neigh_Neigh_Cost.f x315000 x315001 x315002 x315003).bind fun bt331 => (if bt331.1 = 65535 then ((neigh_Neigh_History.f bt331.2.1 bt331.2.2.1 bt331.2.2.2.1 bt331.2.2.2.2).bind fun bt336 => ((neigh_Neigh_Ihu.f bt336.2.1 bt336.2.2.1 bt336.2.2.2.1 bt336.2.2.2.2 x1).bind fun bt341 => ((neigh_Neigh_Cost.f bt341.1 bt341.2.1 bt341.2.2.1 bt341.2.2.2).bind fun bt345 => ((neigh_Neigh_History.f bt345.2.1 bt345.2.2.1 bt345.2.2.2.1 bt345.2.2.2.2).bind fun bt350 => (if bt350.1 = bt336.1 then ((neigh_Neigh_Rx.f bt350.2.1 bt350.2.2.1 bt350.2.2.2.1 bt350.2.2.2.2).bind fun bt355 => (if bt345.1 ≥ bt355.1 then (if bt345.1 ≤ 65535 then (if x1 < 0 then (some true) else (if x1 > 65535 then (some true) else (some (decide (bt345.1 ≥ x1))))) else (none)) else (none))) else (none)))))) else (none)))
end
def octroilaw11_NeighTold.f (k : Nat) (l0 : List (S29)) (a1 : Int) : Option (Bool) := (octroilaw11_awake.f k).bind fun t309 => ((neigh_New.f).bind fun bt310 => (if t309 = true then (octroilaw11_NeighTold.j0 k l0 a1 t309 (decide ((l0.length : Int) > 200)) bt310.1 bt310.2.1 bt310.2.2.1 bt310.2.2.2) else (octroilaw11_NeighTold.j0 k l0 a1 t309 true bt310.1 bt310.2.1 bt310.2.2.1 bt310.2.2.2)))
theorem octroilaw11_NeighTold.mono_l : ∀ k, (∀ y0 y1 y2 y3 y4 y5 y6 y7, LeO (octroilaw11_NeighTold.j0 k y0 y1 y2 y3 y4 y5 y6 y7) (octroilaw11_NeighTold.j0 (k + 1) y0 y1 y2 y3 y4 y5 y6 y7)) ∧ (∀ y0 y1 y2 y3 y4 y5 y6, LeO (octroilaw11_NeighTold.l0 k y0 y1 y2 y3 y4 y5 y6) (octroilaw11_NeighTold.l0 (k + 1) y0 y1 y2 y3 y4 y5 y6))
  | 0 => ⟨fun _ _ _ _ _ _ _ _ r h => by simp [octroilaw11_NeighTold.j0] at h, fun _ _ _ _ _ _ _ r h => by simp [octroilaw11_NeighTold.l0] at h⟩
  | k + 1 => by
    obtain ⟨ih0, ih1⟩ := octroilaw11_NeighTold.mono_l k
    refine ⟨?_, ?_⟩
    · intro y0 y1 y2 y3 y4 y5 y6 y7
      unfold octroilaw11_NeighTold.j0
      repeat' first
      | (with_reducible exact ih0 _ _ _ _ _ _ _ _)
      | (with_reducible exact ih1 _ _ _ _ _ _ _)
      | (with_reducible exact neigh_Neigh_Hello.mono _ _ _ _ _ _)
      | (with_reducible exact octroilaw11_awake.mono _)
      | (with_reducible exact LeO.refl _)
      | (with_reducible exact LeO.none _)
      | (with_reducible refine LeO.ite ?_ ?_)
      | (with_reducible refine LeO.bind ?_ (fun _ => ?_))
      | exact ih0 _ _ _ _ _ _ _ _
      | exact ih1 _ _ _ _ _ _ _
      | exact neigh_Neigh_Hello.mono _ _ _ _ _ _
      | exact octroilaw11_awake.mono _
      | exact LeO.none _
      | refine LeO.ite ?_ ?_
      | refine LeO.bind ?_ (fun _ => ?_)
    · intro y0 y1 y2 y3 y4 y5 y6
      unfold octroilaw11_NeighTold.l0
      repeat' first
      | (with_reducible exact ih0 _ _ _ _ _ _ _ _)
      | (with_reducible exact ih1 _ _ _ _ _ _ _)
      | (with_reducible exact neigh_Neigh_Hello.mono _ _ _ _ _ _)
      | (with_reducible exact octroilaw11_awake.mono _)
      | (with_reducible exact LeO.refl _)
      | (with_reducible exact LeO.none _)
      | (with_reducible refine LeO.ite ?_ ?_)
      | (with_reducible refine LeO.bind ?_ (fun _ => ?_))
      | exact ih0 _ _ _ _ _ _ _ _
      | exact ih1 _ _ _ _ _ _ _
      | exact neigh_Neigh_Hello.mono _ _ _ _ _ _
      | exact octroilaw11_awake.mono _
      | exact LeO.none _
      | refine LeO.ite ?_ ?_
      | refine LeO.bind ?_ (fun _ => ?_)
theorem octroilaw11_NeighTold.mono : ∀ a0 a1 k, LeO (octroilaw11_NeighTold.f k a0 a1) (octroilaw11_NeighTold.f (k + 1) a0 a1) := by
  intro a0 a1 k
  obtain ⟨ih0, ih1⟩ := octroilaw11_NeighTold.mono_l k
  unfold octroilaw11_NeighTold.f
  repeat' first
      | (with_reducible exact ih0 _ _ _ _ _ _ _ _)
      | (with_reducible exact ih1 _ _ _ _ _ _ _)
      | (with_reducible exact neigh_Neigh_Hello.mono _ _ _ _ _ _)
      | (with_reducible exact octroilaw11_awake.mono _)
      | (with_reducible exact LeO.refl _)
      | (with_reducible exact LeO.none _)
      | (with_reducible refine LeO.ite ?_ ?_)
      | (with_reducible refine LeO.bind ?_ (fun _ => ?_))
      | exact ih0 _ _ _ _ _ _ _ _
      | exact ih1 _ _ _ _ _ _ _
      | exact neigh_Neigh_Hello.mono _ _ _ _ _ _
      | exact octroilaw11_awake.mono _
      | exact LeO.none _
      | refine LeO.ite ?_ ?_
      | refine LeO.bind ?_ (fun _ => ?_)
set_option maxHeartbeats 8000000 in
set_option maxRecDepth 100000 in
theorem octroilaw11_NeighTold.calls (k : Nat) (A0 : Option Addr) (c0 : Nat) (l0 : List (S29)) (a1 : Int) (r : Bool) (w : World) (hr0 : Kd.C k29 w A0 l0.length l0) (hc0 : l0.length ≤ c0) (h : octroilaw11_NeighTold.f k l0 a1 = some r) :
    Calls Try.prog 7 #[.slice A0 l0.length c0, .int .i64 a1] w fun e w' => e = .returned (.bool r) ∧ Below w.heap.size w w' := by
  have hup24 : Try.prog.underlying 24 = some (.pointer 40) := by kernel_rfl
  have HR0 := Aside0.mk hr0
  have HC0 := Aside0.mk hc0
  clear hr0 hc0
  have HB := Aside0.mk (Below.refl w.heap.size w)
  have H : ((octroilaw11_awake.f k).bind fun t309 => ((neigh_New.f).bind fun bt310 => (if t309 = true then (octroilaw11_NeighTold.j0 k l0 a1 t309 (decide ((l0.length : Int) > 200)) bt310.1 bt310.2.1 bt310.2.2.1 bt310.2.2.2) else (octroilaw11_NeighTold.j0 k l0 a1 t309 true bt310.1 bt310.2.1 bt310.2.2.1 bt310.2.2.2)))) = some r := h
  clear h
  replace H := Option.bind_eq_some_iff.mp H
  obtain ⟨t309, A30, H⟩ := H
  replace H : ((neigh_New.f).bind fun bt310 => (if t309 = true then (octroilaw11_NeighTold.j0 k l0 a1 t309 (decide ((l0.length : Int) > 200)) bt310.1 bt310.2.1 bt310.2.2.1 bt310.2.2.2) else (octroilaw11_NeighTold.j0 k l0 a1 t309 true bt310.1 bt310.2.1 bt310.2.2.1 bt310.2.2.2))) = some r := H
  have A3 := Aside0.mk A30
  clear A30
  replace H := Option.bind_eq_some_iff.mp H
  obtain ⟨⟨t310, t311, t312, t313⟩, A40, H⟩ := H
  replace H : (if t309 = true then (octroilaw11_NeighTold.j0 k l0 a1 t309 (decide ((l0.length : Int) > 200)) t310 t311 t312 t313) else (octroilaw11_NeighTold.j0 k l0 a1 t309 true t310 t311 t312 t313)) = some r := H
  have A4 := Aside0.mk A40
  clear A40
  have HC5 := Aside0.mk H
  clear H
  go_enter Try.func7, Try.ntmps7
  go_upto_region 3 with (first | ((with_reducible refine gate_callee (f := 9) rfl ?_); refine goesL_ (some 10) rfl rfl Try.func9 (by kernel_rfl) rfl #[] rfl (by (try simp only [List.map_toArray, List.map_cons, List.map_nil]); first | done | rfl | (simp only [List.length_drop, List.length_take]; rfl)) ?_; (with_reducible refine (octroilaw11_awake.calls k  t309 _ A3.out).mono ?_); rintro e w6 ⟨rfl, hb⟩; refine ⟨_, rfl, ?_⟩; have n0_ := Aside0.mk (below_step (by repeat (first | (with_reducible first | exact HB.out | apply below_alloc | apply pw_below_drewN | apply below_drew1) | exact HB.out)) hb); clear HB; have HB := n0_; clear n0_; (try clear hb); (try clear hb2); (try clear hk); (try clear hi)) | ((with_reducible refine gate_callee (f := 10) rfl ?_); refine goesL_ (some 11) rfl rfl Try.func10 (by kernel_rfl) rfl #[] rfl (by (try simp only [List.map_toArray, List.map_cons, List.map_nil]); first | done | rfl | (simp only [List.length_drop, List.length_take]; rfl)) ?_; (with_reducible refine (neigh_New.calls  t310 t311 t312 t313 w _ ?side1 A4.out).mono ?_); (case side1 => repeat (first | (with_reducible first | exact HB.out | apply below_alloc | apply pw_below_drewN | apply below_drew1) | exact HB.out)); rintro e w7 ⟨g314, rfl, hi, hb, hb2⟩; refine ⟨_, rfl, ?_⟩; have n0_ := Aside0.mk (hb); have n1_ := Aside0.mk (hi); clear HB; have HB := n0_; have HI314 := n1_; clear n0_ n1_; (try clear hb); (try clear hb2); (try clear hk); (try clear hi)))
  (try simp only [Act.put, List.setIfInBounds_toArray, List.set_cons_zero, List.set_cons_succ])
  go_cut [22] (fun v22 wc => ∃ (kq : Nat) (x22_4 : Bool), v22 = .bool x22_4 ∧ Aside0 (octroilaw11_NeighTold.j0 kq l0 a1 t309 x22_4 t310 t311 t312 t313 = some r) ∧ Aside0 (kq ≤ k) ∧ Aside0 (IsS40 w wc g314 t310 t311 t312 t313) ∧ Aside0 (Below w.heap.size w wc))
  case first =>
    have H := HC5.out
    clear HC5
    by_cases c8 : t309 = true
    · subst c8
      have H1 : (octroilaw11_NeighTold.j0 k l0 a1 true (decide ((l0.length : Int) > 200)) t310 t311 t312 t313) = some r := by rw [if_pos rfl] at H; exact H
      clear H
      have H := H1
      clear H1
      have H' := Aside0.mk H
      clear H
      go_wp2
      go_meet
      case rel => exact ⟨_, (decide ((l0.length : Int) > 200)), (by first | rfl | (simp; done) | (simp [*]; done)), H', ⟨by first | omega | exact Nat.le_refl _⟩, ⟨by repeat (first | (with_reducible first | exact HI314.out | apply IsS40.alloc | apply IsS40.drewN | apply IsS40.drew | apply IsS40.set_0 | apply IsS40.set_1 | apply IsS40.set_2 | apply IsS40.set_3) | exact HI314.out)⟩, ⟨by repeat (first | (with_reducible first | exact HB.out | apply below_alloc | apply pw_below_drewN | apply below_drew1 | refine below_set ?_ (IsS40.ge HI314.out)) | exact HB.out)⟩⟩
    · replace c8 := Bool.eq_false_iff.mpr c8
      subst c8
      have H1 : (octroilaw11_NeighTold.j0 k l0 a1 false true t310 t311 t312 t313) = some r := by rw [if_neg (show ¬ (false = true) by decide)] at H; exact H
      clear H
      have H := H1
      clear H1
      have H' := Aside0.mk H
      clear H
      go_wp2
      go_meet
      case rel => exact ⟨_, (true), (by first | rfl | (simp; done) | (simp [*]; done)), H', ⟨by first | omega | exact Nat.le_refl _⟩, ⟨by repeat (first | (with_reducible first | exact HI314.out | apply IsS40.alloc | apply IsS40.drewN | apply IsS40.drew | apply IsS40.set_0 | apply IsS40.set_1 | apply IsS40.set_2 | apply IsS40.set_3) | exact HI314.out)⟩, ⟨by repeat (first | (with_reducible first | exact HB.out | apply below_alloc | apply pw_below_drewN | apply below_drew1 | refine below_set ?_ (IsS40.ge HI314.out)) | exact HB.out)⟩⟩
  case rest =>
    clear HC5
    try clear c1
    try clear p2
    try clear c7
    try clear c8
    obtain ⟨kq, x22_4, rfl, HA, HJ4, HI314, HB⟩ := hcut
    cases kq with
    | zero => exact absurd HA.out (by simp [octroilaw11_NeighTold.j0])
    | succ kj4 =>
      have H := HA.out
      clear HA
      simp only [octroilaw11_NeighTold.j0] at H
      by_cases c9 : x22_4 = true
      · subst c9
        have H1 : (if t309 = true then (some true) else (none)) = some r := by rw [if_pos rfl] at H; exact H
        clear H
        have H := H1
        clear H1
        by_cases c10 : t309 = true
        · subst c10
          have H1 : (some true) = some r := by rw [if_pos rfl] at H; exact H
          clear H
          have H := H1
          clear H1
          obtain rfl := Option.some.inj H
          go_wp2
          go_ret
          exact ⟨by first | rfl | (simp [errW_none, errW_some] <;> rfl) | (simp [*, errW_none, errW_some] <;> rfl), by repeat (first | (with_reducible first | exact HB.out | apply below_alloc | apply pw_below_drewN | apply below_drew1 | refine below_set ?_ (IsS40.ge HI314.out)) | exact HB.out)⟩
        · replace c10 := Bool.eq_false_iff.mpr c10
          subst c10
          have H1 : (none) = some r := by rw [if_neg (show ¬ (false = true) by decide)] at H; exact H
          clear H
          have H := H1
          clear H1
          exact absurd H (by simp)
      · replace c9 := Bool.eq_false_iff.mpr c9
        subst c9
        have H1 : (octroilaw11_NeighTold.l0 kj4 l0 a1 0 t310 t311 t312 t313) = some r := by rw [if_neg (show ¬ (false = true) by decide)] at H; exact H
        clear H
        have H := H1
        clear H1
        have H' := Aside0.mk H
        clear H
        go_wp2
        go_loopg [7] kj4 (fun kq v7 w' => ∃ (x7_2 : Int) (x315000_2 : Int) (x315001_2 : Int) (x315002_2 : Bool) (x315003_2 : Int), v7 = .int .i64 x7_2 ∧ Aside0 (octroilaw11_NeighTold.l0 kq l0 a1 x7_2 x315000_2 x315001_2 x315002_2 x315003_2 = some r) ∧ Aside0 (kq ≤ kj4) ∧ Aside0 (IsS40 w w' g314 x315000_2 x315001_2 x315002_2 x315003_2) ∧ Aside0 (Below w.heap.size w w'))
        case atStart => exact ⟨(0), (t310), (t311), (t312), (t313), (by first | rfl | (simp; done) | (simp [*]; done)), H', ⟨Nat.le_refl _⟩, ⟨by repeat (first | (with_reducible first | exact HI314.out | apply IsS40.alloc | apply IsS40.drewN | apply IsS40.drew | apply IsS40.set_0 | apply IsS40.set_1 | apply IsS40.set_2 | apply IsS40.set_3) | exact HI314.out)⟩, ⟨by repeat (first | (with_reducible first | exact HB.out | apply below_alloc | apply pw_below_drewN | apply below_drew1 | refine below_set ?_ (IsS40.ge HI314.out)) | exact HB.out)⟩⟩
        case round =>
          clear H'
          try clear c1
          try clear p2
          try clear c7
          try clear c8
          try clear c9
          try clear c10
          try clear p2
          obtain ⟨x7_2, x315000_2, x315001_2, x315002_2, x315003_2, rfl, HA, HK2, HI314, HB⟩ := hrel
          cases gk with
          | zero => exact absurd HA.out (by simp [octroilaw11_NeighTold.l0])
          | succ k2 =>
            have H := HA.out
            clear HA
            simp only [octroilaw11_NeighTold.l0] at H
            by_cases c11 : x7_2 < (l0.length : Int)
            · rw [if_pos c11] at H
              have c11b0 : decide (x7_2 < (l0.length : Int)) = true := decide_eq_true c11
              clear c11
              by_cases c12 : 0 ≤ x7_2
              · rw [if_pos c12] at H
                have c12b0 : decide (0 ≤ x7_2) = true := decide_eq_true c12
                clear c12
                by_cases c13 : ((rd_T29 l0 x7_2).f0) = 0
                · rw [if_pos c13] at H
                  have c13b0 : (((rd_T29 l0 x7_2).f0) == 0) = true := beq_iff_eq.mpr c13
                  have c13b1 : (((rd_T29 l0 x7_2).f0) != 0) = false := bne_eq_false_iff_eq.mpr c13
                  clear c13
                  replace H := Option.bind_eq_some_iff.mp H
                  obtain ⟨⟨t317, t318, t319, t320⟩, A140, H⟩ := H
                  replace H : (if ((rd_T29 l0 x7_2).f0) = 1 then ((neigh_Neigh_Miss.f t317 t318 t319 t320).bind fun bt322 => (octroilaw11_NeighTold.l0 k2 l0 a1 (wrap64 (x7_2 + 1)) bt322.1 bt322.2.1 bt322.2.2.1 bt322.2.2.2)) else (octroilaw11_NeighTold.l0 k2 l0 a1 (wrap64 (x7_2 + 1)) t317 t318 t319 t320)) = some r := H
                  have A14 := Aside0.mk A140
                  clear A140
                  by_cases c15 : ((rd_T29 l0 x7_2).f0) = 1
                  · rw [if_pos c15] at H
                    have c15b0 : (((rd_T29 l0 x7_2).f0) == 1) = true := beq_iff_eq.mpr c15
                    have c15b1 : (((rd_T29 l0 x7_2).f0) != 1) = false := bne_eq_false_iff_eq.mpr c15
                    clear c15
                    replace H := Option.bind_eq_some_iff.mp H
                    obtain ⟨⟨t322, t323, t324, t325⟩, A160, H⟩ := H
                    replace H : (octroilaw11_NeighTold.l0 k2 l0 a1 (wrap64 (x7_2 + 1)) t322 t323 t324 t325) = some r := H
                    have A16 := Aside0.mk A160
                    clear A160
                    have H' := Aside0.mk H
                    clear H
                    have p315 : 0 ≤ (x7_2 : Int) := of_decide_eq_true (by first | (with_reducible assumption) | assumption)
                    have q315 : x7_2 < (l0.length : Int) := of_decide_eq_true (by first | (with_reducible assumption) | assumption)
                    obtain ⟨ad315, e315, hx315_0, hx315_1⟩ := at_T29 HR0.out x7_2 p315 q315
                    cases e315
                    replace hx315_0 := (HB.out.cell (World.block_lt_of_cell? w _ hx315_0)).trans hx315_0
                    replace hx315_1 := (HB.out.cell (World.block_lt_of_cell? w _ hx315_1)).trans hx315_1
                    replace p315 := eq_true p315
                    replace q315 := eq_true q315
                    have p316 : 0 ≤ (x7_2 : Int) := of_decide_eq_true (by first | (with_reducible assumption) | assumption)
                    have q316 : x7_2 < (l0.length : Int) := of_decide_eq_true (by first | (with_reducible assumption) | assumption)
                    obtain ⟨ad316, e316, hx316_0, hx316_1⟩ := at_T29 HR0.out x7_2 p316 q316
                    obtain rfl : ad315 = ad316 := (by injection e316)
                    replace hx316_0 := (HB.out.cell (World.block_lt_of_cell? w _ hx316_0)).trans hx316_0
                    replace hx316_1 := (HB.out.cell (World.block_lt_of_cell? w _ hx316_1)).trans hx316_1
                    replace p316 := eq_true p316
                    replace q316 := eq_true q316
                    go_wp2_with (first | ((with_reducible refine gate_callee (f := 12) rfl ?_); refine goesL_ (some 47) rfl rfl Try.func12 (by kernel_rfl) rfl #[.pointer (some ⟨g314, 0, none⟩), .int .u16 (IntKind.u16.wrap ((rd_T29 l0 x7_2).f1))] rfl (by (try simp only [List.map_toArray, List.map_cons, List.map_nil]); first | done | rfl | (simp only [List.length_drop, List.length_take]; rfl)) ?_; (with_reducible refine (neigh_Neigh_Hello.calls k2 g314 x315000_2 x315001_2 x315002_2 x315003_2 (IntKind.u16.wrap ((rd_T29 l0 x7_2).f1)) t317 t318 t319 t320 w _ ?side1 ?side2 A14.out).mono ?_); (case side1 => repeat (first | (with_reducible first | exact HI314.out | apply IsS40.alloc | apply IsS40.drewN | apply IsS40.drew | apply IsS40.set_0 | apply IsS40.set_1 | apply IsS40.set_2 | apply IsS40.set_3) | exact HI314.out)); (case side2 => repeat (first | (with_reducible first | exact HB.out | apply below_alloc | apply pw_below_drewN | apply below_drew1 | refine below_set ?_ (IsS40.ge HI314.out)) | exact HB.out)); rintro e w17 ⟨rfl, hi, hb, hk⟩; refine ⟨_, rfl, ?_⟩; have n0_ := Aside0.mk (hb); have n1_ := Aside0.mk (hi); clear HB; clear HI314; have HB := n0_; have HI314 := n1_; clear n0_ n1_; (try clear hb); (try clear hb2); (try clear hk); (try clear hi); have p321 : 0 ≤ (x7_2 : Int) := of_decide_eq_true (by first | (with_reducible assumption) | assumption); have q321 : x7_2 < (l0.length : Int) := of_decide_eq_true (by first | (with_reducible assumption) | assumption); obtain ⟨ad321, e321, hx321_0, hx321_1⟩ := at_T29 HR0.out x7_2 p321 q321; obtain rfl : ad315 = ad321 := (by injection e321); replace hx321_0 := (HB.out.cell (World.block_lt_of_cell? w _ hx321_0)).trans hx321_0; replace hx321_1 := (HB.out.cell (World.block_lt_of_cell? w _ hx321_1)).trans hx321_1; replace p321 := eq_true p321; replace q321 := eq_true q321) | ((with_reducible refine gate_callee (f := 14) rfl ?_); refine goesL_ (some 55) rfl rfl Try.func14 (by kernel_rfl) rfl #[.pointer (some ⟨g314, 0, none⟩)] rfl (by (try simp only [List.map_toArray, List.map_cons, List.map_nil]); first | done | rfl | (simp only [List.length_drop, List.length_take]; rfl)) ?_; (with_reducible refine (neigh_Neigh_Miss.calls g314 t317 t318 t319 t320 t322 t323 t324 t325 w _ ?side1 ?side2 A16.out).mono ?_); (case side1 => repeat (first | (with_reducible first | exact HI314.out | apply IsS40.alloc | apply IsS40.drewN | apply IsS40.drew | apply IsS40.set_0 | apply IsS40.set_1 | apply IsS40.set_2 | apply IsS40.set_3) | exact HI314.out)); (case side2 => repeat (first | (with_reducible first | exact HB.out | apply below_alloc | apply pw_below_drewN | apply below_drew1 | refine below_set ?_ (IsS40.ge HI314.out)) | exact HB.out)); rintro e w18 ⟨rfl, hi, hb, hk⟩; refine ⟨_, rfl, ?_⟩; have n0_ := Aside0.mk (hb); have n1_ := Aside0.mk (hi); clear HB; clear HI314; have HB := n0_; have HI314 := n1_; clear n0_ n1_; (try clear hb); (try clear hb2); (try clear hk); (try clear hi)))
                    go_roundg k2
                    case measure => have := HJ4.out; have := HK2.out; omega
                    case rel => exact ⟨(wrap64 (x7_2 + 1)), (t322), (t323), (t324), (t325), (by first | rfl | (simp; done) | (simp [*]; done)), H', ⟨by have := HJ4.out; have := HK2.out; omega⟩, ⟨by repeat (first | (with_reducible first | exact HI314.out | apply IsS40.alloc | apply IsS40.drewN | apply IsS40.drew | apply IsS40.set_0 | apply IsS40.set_1 | apply IsS40.set_2 | apply IsS40.set_3) | exact HI314.out)⟩, ⟨by repeat (first | (with_reducible first | exact HB.out | apply below_alloc | apply pw_below_drewN | apply below_drew1 | refine below_set ?_ (IsS40.ge HI314.out)) | exact HB.out)⟩⟩
                  · rw [if_neg c15] at H
                    have c15b0 : (((rd_T29 l0 x7_2).f0) == 1) = false := beq_eq_false_iff_ne.mpr c15
                    have c15b1 : (((rd_T29 l0 x7_2).f0) != 1) = true := bne_iff_ne.mpr c15
                    have H' := Aside0.mk H
                    clear H
                    have p315 : 0 ≤ (x7_2 : Int) := of_decide_eq_true (by first | (with_reducible assumption) | assumption)
                    have q315 : x7_2 < (l0.length : Int) := of_decide_eq_true (by first | (with_reducible assumption) | assumption)
                    obtain ⟨ad315, e315, hx315_0, hx315_1⟩ := at_T29 HR0.out x7_2 p315 q315
                    cases e315
                    replace hx315_0 := (HB.out.cell (World.block_lt_of_cell? w _ hx315_0)).trans hx315_0
                    replace hx315_1 := (HB.out.cell (World.block_lt_of_cell? w _ hx315_1)).trans hx315_1
                    replace p315 := eq_true p315
                    replace q315 := eq_true q315
                    have p316 : 0 ≤ (x7_2 : Int) := of_decide_eq_true (by first | (with_reducible assumption) | assumption)
                    have q316 : x7_2 < (l0.length : Int) := of_decide_eq_true (by first | (with_reducible assumption) | assumption)
                    obtain ⟨ad316, e316, hx316_0, hx316_1⟩ := at_T29 HR0.out x7_2 p316 q316
                    obtain rfl : ad315 = ad316 := (by injection e316)
                    replace hx316_0 := (HB.out.cell (World.block_lt_of_cell? w _ hx316_0)).trans hx316_0
                    replace hx316_1 := (HB.out.cell (World.block_lt_of_cell? w _ hx316_1)).trans hx316_1
                    replace p316 := eq_true p316
                    replace q316 := eq_true q316
                    go_wp2_with (first | ((with_reducible refine gate_callee (f := 12) rfl ?_); refine goesL_ (some 47) rfl rfl Try.func12 (by kernel_rfl) rfl #[.pointer (some ⟨g314, 0, none⟩), .int .u16 (IntKind.u16.wrap ((rd_T29 l0 x7_2).f1))] rfl (by (try simp only [List.map_toArray, List.map_cons, List.map_nil]); first | done | rfl | (simp only [List.length_drop, List.length_take]; rfl)) ?_; (with_reducible refine (neigh_Neigh_Hello.calls k2 g314 x315000_2 x315001_2 x315002_2 x315003_2 (IntKind.u16.wrap ((rd_T29 l0 x7_2).f1)) t317 t318 t319 t320 w _ ?side1 ?side2 A14.out).mono ?_); (case side1 => repeat (first | (with_reducible first | exact HI314.out | apply IsS40.alloc | apply IsS40.drewN | apply IsS40.drew | apply IsS40.set_0 | apply IsS40.set_1 | apply IsS40.set_2 | apply IsS40.set_3) | exact HI314.out)); (case side2 => repeat (first | (with_reducible first | exact HB.out | apply below_alloc | apply pw_below_drewN | apply below_drew1 | refine below_set ?_ (IsS40.ge HI314.out)) | exact HB.out)); rintro e w19 ⟨rfl, hi, hb, hk⟩; refine ⟨_, rfl, ?_⟩; have n0_ := Aside0.mk (hb); have n1_ := Aside0.mk (hi); clear HB; clear HI314; have HB := n0_; have HI314 := n1_; clear n0_ n1_; (try clear hb); (try clear hb2); (try clear hk); (try clear hi); have p321 : 0 ≤ (x7_2 : Int) := of_decide_eq_true (by first | (with_reducible assumption) | assumption); have q321 : x7_2 < (l0.length : Int) := of_decide_eq_true (by first | (with_reducible assumption) | assumption); obtain ⟨ad321, e321, hx321_0, hx321_1⟩ := at_T29 HR0.out x7_2 p321 q321; obtain rfl : ad315 = ad321 := (by injection e321); replace hx321_0 := (HB.out.cell (World.block_lt_of_cell? w _ hx321_0)).trans hx321_0; replace hx321_1 := (HB.out.cell (World.block_lt_of_cell? w _ hx321_1)).trans hx321_1; replace p321 := eq_true p321; replace q321 := eq_true q321))
                    go_roundg k2
                    case measure => have := HJ4.out; have := HK2.out; omega
                    case rel => exact ⟨(wrap64 (x7_2 + 1)), (t317), (t318), (t319), (t320), (by first | rfl | (simp; done) | (simp [*]; done)), H', ⟨by have := HJ4.out; have := HK2.out; omega⟩, ⟨by repeat (first | (with_reducible first | exact HI314.out | apply IsS40.alloc | apply IsS40.drewN | apply IsS40.drew | apply IsS40.set_0 | apply IsS40.set_1 | apply IsS40.set_2 | apply IsS40.set_3) | exact HI314.out)⟩, ⟨by repeat (first | (with_reducible first | exact HB.out | apply below_alloc | apply pw_below_drewN | apply below_drew1 | refine below_set ?_ (IsS40.ge HI314.out)) | exact HB.out)⟩⟩
                · rw [if_neg c13] at H
                  have c13b0 : (((rd_T29 l0 x7_2).f0) == 0) = false := beq_eq_false_iff_ne.mpr c13
                  have c13b1 : (((rd_T29 l0 x7_2).f0) != 0) = true := bne_iff_ne.mpr c13
                  by_cases c20 : ((rd_T29 l0 x7_2).f0) = 1
                  · rw [if_pos c20] at H
                    have c20b0 : (((rd_T29 l0 x7_2).f0) == 1) = true := beq_iff_eq.mpr c20
                    have c20b1 : (((rd_T29 l0 x7_2).f0) != 1) = false := bne_eq_false_iff_eq.mpr c20
                    clear c20
                    replace H := Option.bind_eq_some_iff.mp H
                    obtain ⟨⟨t327, t328, t329, t330⟩, A210, H⟩ := H
                    replace H : (octroilaw11_NeighTold.l0 k2 l0 a1 (wrap64 (x7_2 + 1)) t327 t328 t329 t330) = some r := H
                    have A21 := Aside0.mk A210
                    clear A210
                    have H' := Aside0.mk H
                    clear H
                    have p315 : 0 ≤ (x7_2 : Int) := of_decide_eq_true (by first | (with_reducible assumption) | assumption)
                    have q315 : x7_2 < (l0.length : Int) := of_decide_eq_true (by first | (with_reducible assumption) | assumption)
                    obtain ⟨ad315, e315, hx315_0, hx315_1⟩ := at_T29 HR0.out x7_2 p315 q315
                    cases e315
                    replace hx315_0 := (HB.out.cell (World.block_lt_of_cell? w _ hx315_0)).trans hx315_0
                    replace hx315_1 := (HB.out.cell (World.block_lt_of_cell? w _ hx315_1)).trans hx315_1
                    replace p315 := eq_true p315
                    replace q315 := eq_true q315
                    have p326 : 0 ≤ (x7_2 : Int) := of_decide_eq_true (by first | (with_reducible assumption) | assumption)
                    have q326 : x7_2 < (l0.length : Int) := of_decide_eq_true (by first | (with_reducible assumption) | assumption)
                    obtain ⟨ad326, e326, hx326_0, hx326_1⟩ := at_T29 HR0.out x7_2 p326 q326
                    obtain rfl : ad315 = ad326 := (by injection e326)
                    replace hx326_0 := (HB.out.cell (World.block_lt_of_cell? w _ hx326_0)).trans hx326_0
                    replace hx326_1 := (HB.out.cell (World.block_lt_of_cell? w _ hx326_1)).trans hx326_1
                    replace p326 := eq_true p326
                    replace q326 := eq_true q326
                    go_wp2_with (first | ((with_reducible refine gate_callee (f := 14) rfl ?_); refine goesL_ (some 55) rfl rfl Try.func14 (by kernel_rfl) rfl #[.pointer (some ⟨g314, 0, none⟩)] rfl (by (try simp only [List.map_toArray, List.map_cons, List.map_nil]); first | done | rfl | (simp only [List.length_drop, List.length_take]; rfl)) ?_; (with_reducible refine (neigh_Neigh_Miss.calls g314 x315000_2 x315001_2 x315002_2 x315003_2 t327 t328 t329 t330 w _ ?side1 ?side2 A21.out).mono ?_); (case side1 => repeat (first | (with_reducible first | exact HI314.out | apply IsS40.alloc | apply IsS40.drewN | apply IsS40.drew | apply IsS40.set_0 | apply IsS40.set_1 | apply IsS40.set_2 | apply IsS40.set_3) | exact HI314.out)); (case side2 => repeat (first | (with_reducible first | exact HB.out | apply below_alloc | apply pw_below_drewN | apply below_drew1 | refine below_set ?_ (IsS40.ge HI314.out)) | exact HB.out)); rintro e w22 ⟨rfl, hi, hb, hk⟩; refine ⟨_, rfl, ?_⟩; have n0_ := Aside0.mk (hb); have n1_ := Aside0.mk (hi); clear HB; clear HI314; have HB := n0_; have HI314 := n1_; clear n0_ n1_; (try clear hb); (try clear hb2); (try clear hk); (try clear hi)))
                    go_roundg k2
                    case measure => have := HJ4.out; have := HK2.out; omega
                    case rel => exact ⟨(wrap64 (x7_2 + 1)), (t327), (t328), (t329), (t330), (by first | rfl | (simp; done) | (simp [*]; done)), H', ⟨by have := HJ4.out; have := HK2.out; omega⟩, ⟨by repeat (first | (with_reducible first | exact HI314.out | apply IsS40.alloc | apply IsS40.drewN | apply IsS40.drew | apply IsS40.set_0 | apply IsS40.set_1 | apply IsS40.set_2 | apply IsS40.set_3) | exact HI314.out)⟩, ⟨by repeat (first | (with_reducible first | exact HB.out | apply below_alloc | apply pw_below_drewN | apply below_drew1 | refine below_set ?_ (IsS40.ge HI314.out)) | exact HB.out)⟩⟩
                  · rw [if_neg c20] at H
                    have c20b0 : (((rd_T29 l0 x7_2).f0) == 1) = false := beq_eq_false_iff_ne.mpr c20
                    have c20b1 : (((rd_T29 l0 x7_2).f0) != 1) = true := bne_iff_ne.mpr c20
                    have H' := Aside0.mk H
                    clear H
                    have p315 : 0 ≤ (x7_2 : Int) := of_decide_eq_true (by first | (with_reducible assumption) | assumption)
                    have q315 : x7_2 < (l0.length : Int) := of_decide_eq_true (by first | (with_reducible assumption) | assumption)
                    obtain ⟨ad315, e315, hx315_0, hx315_1⟩ := at_T29 HR0.out x7_2 p315 q315
                    cases e315
                    replace hx315_0 := (HB.out.cell (World.block_lt_of_cell? w _ hx315_0)).trans hx315_0
                    replace hx315_1 := (HB.out.cell (World.block_lt_of_cell? w _ hx315_1)).trans hx315_1
                    replace p315 := eq_true p315
                    replace q315 := eq_true q315
                    have p326 : 0 ≤ (x7_2 : Int) := of_decide_eq_true (by first | (with_reducible assumption) | assumption)
                    have q326 : x7_2 < (l0.length : Int) := of_decide_eq_true (by first | (with_reducible assumption) | assumption)
                    obtain ⟨ad326, e326, hx326_0, hx326_1⟩ := at_T29 HR0.out x7_2 p326 q326
                    obtain rfl : ad315 = ad326 := (by injection e326)
                    replace hx326_0 := (HB.out.cell (World.block_lt_of_cell? w _ hx326_0)).trans hx326_0
                    replace hx326_1 := (HB.out.cell (World.block_lt_of_cell? w _ hx326_1)).trans hx326_1
                    replace p326 := eq_true p326
                    replace q326 := eq_true q326
                    go_wp2
                    go_roundg k2
                    case measure => have := HJ4.out; have := HK2.out; omega
                    case rel => exact ⟨(wrap64 (x7_2 + 1)), (x315000_2), (x315001_2), (x315002_2), (x315003_2), (by first | rfl | (simp; done) | (simp [*]; done)), H', ⟨by have := HJ4.out; have := HK2.out; omega⟩, ⟨by repeat (first | (with_reducible first | exact HI314.out | apply IsS40.alloc | apply IsS40.drewN | apply IsS40.drew | apply IsS40.set_0 | apply IsS40.set_1 | apply IsS40.set_2 | apply IsS40.set_3) | exact HI314.out)⟩, ⟨by repeat (first | (with_reducible first | exact HB.out | apply below_alloc | apply pw_below_drewN | apply below_drew1 | refine below_set ?_ (IsS40.ge HI314.out)) | exact HB.out)⟩⟩
              · rw [if_neg c12] at H
                exact absurd H (by simp)
            · rw [if_neg c11] at H
              have c11b0 : decide (x7_2 < (l0.length : Int)) = false := decide_eq_false c11
              clear c11
              replace H := Option.bind_eq_some_iff.mp H
              obtain ⟨⟨t331, t332, t333, t334, t335⟩, A230, H⟩ := H
              replace H : (if t331 = 65535 then ((neigh_Neigh_History.f t332 t333 t334 t335).bind fun bt336 => ((neigh_Neigh_Ihu.f bt336.2.1 bt336.2.2.1 bt336.2.2.2.1 bt336.2.2.2.2 a1).bind fun bt341 => ((neigh_Neigh_Cost.f bt341.1 bt341.2.1 bt341.2.2.1 bt341.2.2.2).bind fun bt345 => ((neigh_Neigh_History.f bt345.2.1 bt345.2.2.1 bt345.2.2.2.1 bt345.2.2.2.2).bind fun bt350 => (if bt350.1 = bt336.1 then ((neigh_Neigh_Rx.f bt350.2.1 bt350.2.2.1 bt350.2.2.2.1 bt350.2.2.2.2).bind fun bt355 => (if bt345.1 ≥ bt355.1 then (if bt345.1 ≤ 65535 then (if a1 < 0 then (some true) else (if a1 > 65535 then (some true) else (some (decide (bt345.1 ≥ a1))))) else (none)) else (none))) else (none)))))) else (none)) = some r := H
              have A23 := Aside0.mk A230
              clear A230
              by_cases c24 : t331 = 65535
              · rw [if_pos c24] at H
                have c24b0 : (t331 == 65535) = true := beq_iff_eq.mpr c24
                have c24b1 : (t331 != 65535) = false := bne_eq_false_iff_eq.mpr c24
                clear c24
                replace H := Option.bind_eq_some_iff.mp H
                obtain ⟨⟨t336, t337, t338, t339, t340⟩, A250, H⟩ := H
                replace H : ((neigh_Neigh_Ihu.f t337 t338 t339 t340 a1).bind fun bt341 => ((neigh_Neigh_Cost.f bt341.1 bt341.2.1 bt341.2.2.1 bt341.2.2.2).bind fun bt345 => ((neigh_Neigh_History.f bt345.2.1 bt345.2.2.1 bt345.2.2.2.1 bt345.2.2.2.2).bind fun bt350 => (if bt350.1 = t336 then ((neigh_Neigh_Rx.f bt350.2.1 bt350.2.2.1 bt350.2.2.2.1 bt350.2.2.2.2).bind fun bt355 => (if bt345.1 ≥ bt355.1 then (if bt345.1 ≤ 65535 then (if a1 < 0 then (some true) else (if a1 > 65535 then (some true) else (some (decide (bt345.1 ≥ a1))))) else (none)) else (none))) else (none))))) = some r := H
                have A25 := Aside0.mk A250
                clear A250
                replace H := Option.bind_eq_some_iff.mp H
                obtain ⟨⟨t341, t342, t343, t344⟩, A260, H⟩ := H
                replace H : ((neigh_Neigh_Cost.f t341 t342 t343 t344).bind fun bt345 => ((neigh_Neigh_History.f bt345.2.1 bt345.2.2.1 bt345.2.2.2.1 bt345.2.2.2.2).bind fun bt350 => (if bt350.1 = t336 then ((neigh_Neigh_Rx.f bt350.2.1 bt350.2.2.1 bt350.2.2.2.1 bt350.2.2.2.2).bind fun bt355 => (if bt345.1 ≥ bt355.1 then (if bt345.1 ≤ 65535 then (if a1 < 0 then (some true) else (if a1 > 65535 then (some true) else (some (decide (bt345.1 ≥ a1))))) else (none)) else (none))) else (none)))) = some r := H
                have A26 := Aside0.mk A260
                clear A260
                replace H := Option.bind_eq_some_iff.mp H
                obtain ⟨⟨t345, t346, t347, t348, t349⟩, A270, H⟩ := H
                replace H : ((neigh_Neigh_History.f t346 t347 t348 t349).bind fun bt350 => (if bt350.1 = t336 then ((neigh_Neigh_Rx.f bt350.2.1 bt350.2.2.1 bt350.2.2.2.1 bt350.2.2.2.2).bind fun bt355 => (if t345 ≥ bt355.1 then (if t345 ≤ 65535 then (if a1 < 0 then (some true) else (if a1 > 65535 then (some true) else (some (decide (t345 ≥ a1))))) else (none)) else (none))) else (none))) = some r := H
                have A27 := Aside0.mk A270
                clear A270
                replace H := Option.bind_eq_some_iff.mp H
                obtain ⟨⟨t350, t351, t352, t353, t354⟩, A280, H⟩ := H
                replace H : (if t350 = t336 then ((neigh_Neigh_Rx.f t351 t352 t353 t354).bind fun bt355 => (if t345 ≥ bt355.1 then (if t345 ≤ 65535 then (if a1 < 0 then (some true) else (if a1 > 65535 then (some true) else (some (decide (t345 ≥ a1))))) else (none)) else (none))) else (none)) = some r := H
                have A28 := Aside0.mk A280
                clear A280
                by_cases c29 : t350 = t336
                · rw [if_pos c29] at H
                  have c29b0 : (t350 == t336) = true := beq_iff_eq.mpr c29
                  have c29b1 : (t350 != t336) = false := bne_eq_false_iff_eq.mpr c29
                  clear c29
                  replace H := Option.bind_eq_some_iff.mp H
                  obtain ⟨⟨t355, t356, t357, t358, t359⟩, A300, H⟩ := H
                  replace H : (if t345 ≥ t355 then (if t345 ≤ 65535 then (if a1 < 0 then (some true) else (if a1 > 65535 then (some true) else (some (decide (t345 ≥ a1))))) else (none)) else (none)) = some r := H
                  have A30 := Aside0.mk A300
                  clear A300
                  by_cases c31 : t345 ≥ t355
                  · rw [if_pos c31] at H
                    have c31b0 : decide (t355 ≤ t345) = true := decide_eq_true c31
                    clear c31
                    by_cases c32 : t345 ≤ 65535
                    · rw [if_pos c32] at H
                      have c32b0 : decide (t345 ≤ 65535) = true := decide_eq_true c32
                      clear c32
                      by_cases c33 : a1 < 0
                      · rw [if_pos c33] at H
                        have c33b0 : decide (a1 < 0) = true := decide_eq_true c33
                        clear c33
                        obtain rfl := Option.some.inj H
                        go_wp2_with (first | ((with_reducible refine gate_callee (f := 22) rfl ?_); refine goesL_ (some 57) rfl rfl Try.func22 (by kernel_rfl) rfl #[.pointer (some ⟨g314, 0, none⟩)] rfl (by (try simp only [List.map_toArray, List.map_cons, List.map_nil]); first | done | rfl | (simp only [List.length_drop, List.length_take]; rfl)) ?_; (with_reducible refine (neigh_Neigh_Cost.calls g314 x315000_2 x315001_2 x315002_2 x315003_2 t331 t332 t333 t334 t335 w _ ?side1 ?side2 A23.out).mono ?_); (case side1 => repeat (first | (with_reducible first | exact HI314.out | apply IsS40.alloc | apply IsS40.drewN | apply IsS40.drew | apply IsS40.set_0 | apply IsS40.set_1 | apply IsS40.set_2 | apply IsS40.set_3) | exact HI314.out)); (case side2 => repeat (first | (with_reducible first | exact HB.out | apply below_alloc | apply pw_below_drewN | apply below_drew1 | refine below_set ?_ (IsS40.ge HI314.out)) | exact HB.out)); rintro e w34 ⟨rfl, hi, hb, hk⟩; refine ⟨_, rfl, ?_⟩; have n0_ := Aside0.mk (hb); have n1_ := Aside0.mk (hi); clear HB; clear HI314; have HB := n0_; have HI314 := n1_; clear n0_ n1_; (try clear hb); (try clear hb2); (try clear hk); (try clear hi)) | ((with_reducible refine gate_callee (f := 18) rfl ?_); refine goesL_ (some 60) rfl rfl Try.func18 (by kernel_rfl) rfl #[.pointer (some ⟨g314, 0, none⟩)] rfl (by (try simp only [List.map_toArray, List.map_cons, List.map_nil]); first | done | rfl | (simp only [List.length_drop, List.length_take]; rfl)) ?_; (with_reducible refine (neigh_Neigh_History.calls g314 t332 t333 t334 t335 t336 t337 t338 t339 t340 w _ ?side1 ?side2 A25.out).mono ?_); (case side1 => repeat (first | (with_reducible first | exact HI314.out | apply IsS40.alloc | apply IsS40.drewN | apply IsS40.drew | apply IsS40.set_0 | apply IsS40.set_1 | apply IsS40.set_2 | apply IsS40.set_3) | exact HI314.out)); (case side2 => repeat (first | (with_reducible first | exact HB.out | apply below_alloc | apply pw_below_drewN | apply below_drew1 | refine below_set ?_ (IsS40.ge HI314.out)) | exact HB.out)); rintro e w35 ⟨rfl, hi, hb, hk⟩; refine ⟨_, rfl, ?_⟩; have n0_ := Aside0.mk (hb); have n1_ := Aside0.mk (hi); clear HB; clear HI314; have HB := n0_; have HI314 := n1_; clear n0_ n1_; (try clear hb); (try clear hb2); (try clear hk); (try clear hi)) | ((with_reducible refine gate_callee (f := 16) rfl ?_); refine goesL_ (some 63) rfl rfl Try.func16 (by kernel_rfl) rfl #[.pointer (some ⟨g314, 0, none⟩), .int .i64 a1] rfl (by (try simp only [List.map_toArray, List.map_cons, List.map_nil]); first | done | rfl | (simp only [List.length_drop, List.length_take]; rfl)) ?_; (with_reducible refine (neigh_Neigh_Ihu.calls g314 t337 t338 t339 t340 a1 t341 t342 t343 t344 w _ ?side1 ?side2 A26.out).mono ?_); (case side1 => repeat (first | (with_reducible first | exact HI314.out | apply IsS40.alloc | apply IsS40.drewN | apply IsS40.drew | apply IsS40.set_0 | apply IsS40.set_1 | apply IsS40.set_2 | apply IsS40.set_3) | exact HI314.out)); (case side2 => repeat (first | (with_reducible first | exact HB.out | apply below_alloc | apply pw_below_drewN | apply below_drew1 | refine below_set ?_ (IsS40.ge HI314.out)) | exact HB.out)); rintro e w36 ⟨rfl, hi, hb, hk⟩; refine ⟨_, rfl, ?_⟩; have n0_ := Aside0.mk (hb); have n1_ := Aside0.mk (hi); clear HB; clear HI314; have HB := n0_; have HI314 := n1_; clear n0_ n1_; (try clear hb); (try clear hb2); (try clear hk); (try clear hi)) | ((with_reducible refine gate_callee (f := 22) rfl ?_); refine goesL_ (some 65) rfl rfl Try.func22 (by kernel_rfl) rfl #[.pointer (some ⟨g314, 0, none⟩)] rfl (by (try simp only [List.map_toArray, List.map_cons, List.map_nil]); first | done | rfl | (simp only [List.length_drop, List.length_take]; rfl)) ?_; (with_reducible refine (neigh_Neigh_Cost.calls g314 t341 t342 t343 t344 t345 t346 t347 t348 t349 w _ ?side1 ?side2 A27.out).mono ?_); (case side1 => repeat (first | (with_reducible first | exact HI314.out | apply IsS40.alloc | apply IsS40.drewN | apply IsS40.drew | apply IsS40.set_0 | apply IsS40.set_1 | apply IsS40.set_2 | apply IsS40.set_3) | exact HI314.out)); (case side2 => repeat (first | (with_reducible first | exact HB.out | apply below_alloc | apply pw_below_drewN | apply below_drew1 | refine below_set ?_ (IsS40.ge HI314.out)) | exact HB.out)); rintro e w37 ⟨rfl, hi, hb, hk⟩; refine ⟨_, rfl, ?_⟩; have n0_ := Aside0.mk (hb); have n1_ := Aside0.mk (hi); clear HB; clear HI314; have HB := n0_; have HI314 := n1_; clear n0_ n1_; (try clear hb); (try clear hb2); (try clear hk); (try clear hi)) | ((with_reducible refine gate_callee (f := 18) rfl ?_); refine goesL_ (some 67) rfl rfl Try.func18 (by kernel_rfl) rfl #[.pointer (some ⟨g314, 0, none⟩)] rfl (by (try simp only [List.map_toArray, List.map_cons, List.map_nil]); first | done | rfl | (simp only [List.length_drop, List.length_take]; rfl)) ?_; (with_reducible refine (neigh_Neigh_History.calls g314 t346 t347 t348 t349 t350 t351 t352 t353 t354 w _ ?side1 ?side2 A28.out).mono ?_); (case side1 => repeat (first | (with_reducible first | exact HI314.out | apply IsS40.alloc | apply IsS40.drewN | apply IsS40.drew | apply IsS40.set_0 | apply IsS40.set_1 | apply IsS40.set_2 | apply IsS40.set_3) | exact HI314.out)); (case side2 => repeat (first | (with_reducible first | exact HB.out | apply below_alloc | apply pw_below_drewN | apply below_drew1 | refine below_set ?_ (IsS40.ge HI314.out)) | exact HB.out)); rintro e w38 ⟨rfl, hi, hb, hk⟩; refine ⟨_, rfl, ?_⟩; have n0_ := Aside0.mk (hb); have n1_ := Aside0.mk (hi); clear HB; clear HI314; have HB := n0_; have HI314 := n1_; clear n0_ n1_; (try clear hb); (try clear hb2); (try clear hk); (try clear hi)) | (go_at_call 20; (with_reducible refine (neigh_Neigh_Rx.calls g314 t351 t352 t353 t354 t355 t356 t357 t358 t359 w _ ?side1 ?side2 A30.out).mono ?_); (case side1 => repeat (first | (with_reducible first | exact HI314.out | apply IsS40.alloc | apply IsS40.drewN | apply IsS40.drew | apply IsS40.set_0 | apply IsS40.set_1 | apply IsS40.set_2 | apply IsS40.set_3) | exact HI314.out)); (case side2 => repeat (first | (with_reducible first | exact HB.out | apply below_alloc | apply pw_below_drewN | apply below_drew1 | refine below_set ?_ (IsS40.ge HI314.out)) | exact HB.out)); rintro e w39 ⟨rfl, hi, hb, hk⟩; have n0_ := Aside0.mk (hb); have n1_ := Aside0.mk (hi); clear HB; clear HI314; have HB := n0_; have HI314 := n1_; clear n0_ n1_; (try clear hb); (try clear hb2); (try clear hk); (try clear hi)))
                        go_ret
                        exact ⟨by first | rfl | (simp [errW_none, errW_some] <;> rfl) | (simp [*, errW_none, errW_some] <;> rfl), by repeat (first | (with_reducible first | exact HB.out | apply below_alloc | apply pw_below_drewN | apply below_drew1 | refine below_set ?_ (IsS40.ge HI314.out)) | exact HB.out)⟩
                      · rw [if_neg c33] at H
                        have c33b0 : decide (a1 < 0) = false := decide_eq_false c33
                        clear c33
                        by_cases c40 : a1 > 65535
                        · rw [if_pos c40] at H
                          have c40b0 : decide (65535 < a1) = true := decide_eq_true c40
                          clear c40
                          obtain rfl := Option.some.inj H
                          go_wp2_with (first | ((with_reducible refine gate_callee (f := 22) rfl ?_); refine goesL_ (some 57) rfl rfl Try.func22 (by kernel_rfl) rfl #[.pointer (some ⟨g314, 0, none⟩)] rfl (by (try simp only [List.map_toArray, List.map_cons, List.map_nil]); first | done | rfl | (simp only [List.length_drop, List.length_take]; rfl)) ?_; (with_reducible refine (neigh_Neigh_Cost.calls g314 x315000_2 x315001_2 x315002_2 x315003_2 t331 t332 t333 t334 t335 w _ ?side1 ?side2 A23.out).mono ?_); (case side1 => repeat (first | (with_reducible first | exact HI314.out | apply IsS40.alloc | apply IsS40.drewN | apply IsS40.drew | apply IsS40.set_0 | apply IsS40.set_1 | apply IsS40.set_2 | apply IsS40.set_3) | exact HI314.out)); (case side2 => repeat (first | (with_reducible first | exact HB.out | apply below_alloc | apply pw_below_drewN | apply below_drew1 | refine below_set ?_ (IsS40.ge HI314.out)) | exact HB.out)); rintro e w41 ⟨rfl, hi, hb, hk⟩; refine ⟨_, rfl, ?_⟩; have n0_ := Aside0.mk (hb); have n1_ := Aside0.mk (hi); clear HB; clear HI314; have HB := n0_; have HI314 := n1_; clear n0_ n1_; (try clear hb); (try clear hb2); (try clear hk); (try clear hi)) | ((with_reducible refine gate_callee (f := 18) rfl ?_); refine goesL_ (some 60) rfl rfl Try.func18 (by kernel_rfl) rfl #[.pointer (some ⟨g314, 0, none⟩)] rfl (by (try simp only [List.map_toArray, List.map_cons, List.map_nil]); first | done | rfl | (simp only [List.length_drop, List.length_take]; rfl)) ?_; (with_reducible refine (neigh_Neigh_History.calls g314 t332 t333 t334 t335 t336 t337 t338 t339 t340 w _ ?side1 ?side2 A25.out).mono ?_); (case side1 => repeat (first | (with_reducible first | exact HI314.out | apply IsS40.alloc | apply IsS40.drewN | apply IsS40.drew | apply IsS40.set_0 | apply IsS40.set_1 | apply IsS40.set_2 | apply IsS40.set_3) | exact HI314.out)); (case side2 => repeat (first | (with_reducible first | exact HB.out | apply below_alloc | apply pw_below_drewN | apply below_drew1 | refine below_set ?_ (IsS40.ge HI314.out)) | exact HB.out)); rintro e w42 ⟨rfl, hi, hb, hk⟩; refine ⟨_, rfl, ?_⟩; have n0_ := Aside0.mk (hb); have n1_ := Aside0.mk (hi); clear HB; clear HI314; have HB := n0_; have HI314 := n1_; clear n0_ n1_; (try clear hb); (try clear hb2); (try clear hk); (try clear hi)) | ((with_reducible refine gate_callee (f := 16) rfl ?_); refine goesL_ (some 63) rfl rfl Try.func16 (by kernel_rfl) rfl #[.pointer (some ⟨g314, 0, none⟩), .int .i64 a1] rfl (by (try simp only [List.map_toArray, List.map_cons, List.map_nil]); first | done | rfl | (simp only [List.length_drop, List.length_take]; rfl)) ?_; (with_reducible refine (neigh_Neigh_Ihu.calls g314 t337 t338 t339 t340 a1 t341 t342 t343 t344 w _ ?side1 ?side2 A26.out).mono ?_); (case side1 => repeat (first | (with_reducible first | exact HI314.out | apply IsS40.alloc | apply IsS40.drewN | apply IsS40.drew | apply IsS40.set_0 | apply IsS40.set_1 | apply IsS40.set_2 | apply IsS40.set_3) | exact HI314.out)); (case side2 => repeat (first | (with_reducible first | exact HB.out | apply below_alloc | apply pw_below_drewN | apply below_drew1 | refine below_set ?_ (IsS40.ge HI314.out)) | exact HB.out)); rintro e w43 ⟨rfl, hi, hb, hk⟩; refine ⟨_, rfl, ?_⟩; have n0_ := Aside0.mk (hb); have n1_ := Aside0.mk (hi); clear HB; clear HI314; have HB := n0_; have HI314 := n1_; clear n0_ n1_; (try clear hb); (try clear hb2); (try clear hk); (try clear hi)) | ((with_reducible refine gate_callee (f := 22) rfl ?_); refine goesL_ (some 65) rfl rfl Try.func22 (by kernel_rfl) rfl #[.pointer (some ⟨g314, 0, none⟩)] rfl (by (try simp only [List.map_toArray, List.map_cons, List.map_nil]); first | done | rfl | (simp only [List.length_drop, List.length_take]; rfl)) ?_; (with_reducible refine (neigh_Neigh_Cost.calls g314 t341 t342 t343 t344 t345 t346 t347 t348 t349 w _ ?side1 ?side2 A27.out).mono ?_); (case side1 => repeat (first | (with_reducible first | exact HI314.out | apply IsS40.alloc | apply IsS40.drewN | apply IsS40.drew | apply IsS40.set_0 | apply IsS40.set_1 | apply IsS40.set_2 | apply IsS40.set_3) | exact HI314.out)); (case side2 => repeat (first | (with_reducible first | exact HB.out | apply below_alloc | apply pw_below_drewN | apply below_drew1 | refine below_set ?_ (IsS40.ge HI314.out)) | exact HB.out)); rintro e w44 ⟨rfl, hi, hb, hk⟩; refine ⟨_, rfl, ?_⟩; have n0_ := Aside0.mk (hb); have n1_ := Aside0.mk (hi); clear HB; clear HI314; have HB := n0_; have HI314 := n1_; clear n0_ n1_; (try clear hb); (try clear hb2); (try clear hk); (try clear hi)) | ((with_reducible refine gate_callee (f := 18) rfl ?_); refine goesL_ (some 67) rfl rfl Try.func18 (by kernel_rfl) rfl #[.pointer (some ⟨g314, 0, none⟩)] rfl (by (try simp only [List.map_toArray, List.map_cons, List.map_nil]); first | done | rfl | (simp only [List.length_drop, List.length_take]; rfl)) ?_; (with_reducible refine (neigh_Neigh_History.calls g314 t346 t347 t348 t349 t350 t351 t352 t353 t354 w _ ?side1 ?side2 A28.out).mono ?_); (case side1 => repeat (first | (with_reducible first | exact HI314.out | apply IsS40.alloc | apply IsS40.drewN | apply IsS40.drew | apply IsS40.set_0 | apply IsS40.set_1 | apply IsS40.set_2 | apply IsS40.set_3) | exact HI314.out)); (case side2 => repeat (first | (with_reducible first | exact HB.out | apply below_alloc | apply pw_below_drewN | apply below_drew1 | refine below_set ?_ (IsS40.ge HI314.out)) | exact HB.out)); rintro e w45 ⟨rfl, hi, hb, hk⟩; refine ⟨_, rfl, ?_⟩; have n0_ := Aside0.mk (hb); have n1_ := Aside0.mk (hi); clear HB; clear HI314; have HB := n0_; have HI314 := n1_; clear n0_ n1_; (try clear hb); (try clear hb2); (try clear hk); (try clear hi)) | (go_at_call 20; (with_reducible refine (neigh_Neigh_Rx.calls g314 t351 t352 t353 t354 t355 t356 t357 t358 t359 w _ ?side1 ?side2 A30.out).mono ?_); (case side1 => repeat (first | (with_reducible first | exact HI314.out | apply IsS40.alloc | apply IsS40.drewN | apply IsS40.drew | apply IsS40.set_0 | apply IsS40.set_1 | apply IsS40.set_2 | apply IsS40.set_3) | exact HI314.out)); (case side2 => repeat (first | (with_reducible first | exact HB.out | apply below_alloc | apply pw_below_drewN | apply below_drew1 | refine below_set ?_ (IsS40.ge HI314.out)) | exact HB.out)); rintro e w46 ⟨rfl, hi, hb, hk⟩; have n0_ := Aside0.mk (hb); have n1_ := Aside0.mk (hi); clear HB; clear HI314; have HB := n0_; have HI314 := n1_; clear n0_ n1_; (try clear hb); (try clear hb2); (try clear hk); (try clear hi)))
                          go_ret
                          exact ⟨by first | rfl | (simp [errW_none, errW_some] <;> rfl) | (simp [*, errW_none, errW_some] <;> rfl), by repeat (first | (with_reducible first | exact HB.out | apply below_alloc | apply pw_below_drewN | apply below_drew1 | refine below_set ?_ (IsS40.ge HI314.out)) | exact HB.out)⟩
                        · rw [if_neg c40] at H
                          have c40b0 : decide (65535 < a1) = false := decide_eq_false c40
                          clear c40
                          obtain rfl := Option.some.inj H
                          go_wp2_with (first | ((with_reducible refine gate_callee (f := 22) rfl ?_); refine goesL_ (some 57) rfl rfl Try.func22 (by kernel_rfl) rfl #[.pointer (some ⟨g314, 0, none⟩)] rfl (by (try simp only [List.map_toArray, List.map_cons, List.map_nil]); first | done | rfl | (simp only [List.length_drop, List.length_take]; rfl)) ?_; (with_reducible refine (neigh_Neigh_Cost.calls g314 x315000_2 x315001_2 x315002_2 x315003_2 t331 t332 t333 t334 t335 w _ ?side1 ?side2 A23.out).mono ?_); (case side1 => repeat (first | (with_reducible first | exact HI314.out | apply IsS40.alloc | apply IsS40.drewN | apply IsS40.drew | apply IsS40.set_0 | apply IsS40.set_1 | apply IsS40.set_2 | apply IsS40.set_3) | exact HI314.out)); (case side2 => repeat (first | (with_reducible first | exact HB.out | apply below_alloc | apply pw_below_drewN | apply below_drew1 | refine below_set ?_ (IsS40.ge HI314.out)) | exact HB.out)); rintro e w47 ⟨rfl, hi, hb, hk⟩; refine ⟨_, rfl, ?_⟩; have n0_ := Aside0.mk (hb); have n1_ := Aside0.mk (hi); clear HB; clear HI314; have HB := n0_; have HI314 := n1_; clear n0_ n1_; (try clear hb); (try clear hb2); (try clear hk); (try clear hi)) | ((with_reducible refine gate_callee (f := 18) rfl ?_); refine goesL_ (some 60) rfl rfl Try.func18 (by kernel_rfl) rfl #[.pointer (some ⟨g314, 0, none⟩)] rfl (by (try simp only [List.map_toArray, List.map_cons, List.map_nil]); first | done | rfl | (simp only [List.length_drop, List.length_take]; rfl)) ?_; (with_reducible refine (neigh_Neigh_History.calls g314 t332 t333 t334 t335 t336 t337 t338 t339 t340 w _ ?side1 ?side2 A25.out).mono ?_); (case side1 => repeat (first | (with_reducible first | exact HI314.out | apply IsS40.alloc | apply IsS40.drewN | apply IsS40.drew | apply IsS40.set_0 | apply IsS40.set_1 | apply IsS40.set_2 | apply IsS40.set_3) | exact HI314.out)); (case side2 => repeat (first | (with_reducible first | exact HB.out | apply below_alloc | apply pw_below_drewN | apply below_drew1 | refine below_set ?_ (IsS40.ge HI314.out)) | exact HB.out)); rintro e w48 ⟨rfl, hi, hb, hk⟩; refine ⟨_, rfl, ?_⟩; have n0_ := Aside0.mk (hb); have n1_ := Aside0.mk (hi); clear HB; clear HI314; have HB := n0_; have HI314 := n1_; clear n0_ n1_; (try clear hb); (try clear hb2); (try clear hk); (try clear hi)) | ((with_reducible refine gate_callee (f := 16) rfl ?_); refine goesL_ (some 63) rfl rfl Try.func16 (by kernel_rfl) rfl #[.pointer (some ⟨g314, 0, none⟩), .int .i64 a1] rfl (by (try simp only [List.map_toArray, List.map_cons, List.map_nil]); first | done | rfl | (simp only [List.length_drop, List.length_take]; rfl)) ?_; (with_reducible refine (neigh_Neigh_Ihu.calls g314 t337 t338 t339 t340 a1 t341 t342 t343 t344 w _ ?side1 ?side2 A26.out).mono ?_); (case side1 => repeat (first | (with_reducible first | exact HI314.out | apply IsS40.alloc | apply IsS40.drewN | apply IsS40.drew | apply IsS40.set_0 | apply IsS40.set_1 | apply IsS40.set_2 | apply IsS40.set_3) | exact HI314.out)); (case side2 => repeat (first | (with_reducible first | exact HB.out | apply below_alloc | apply pw_below_drewN | apply below_drew1 | refine below_set ?_ (IsS40.ge HI314.out)) | exact HB.out)); rintro e w49 ⟨rfl, hi, hb, hk⟩; refine ⟨_, rfl, ?_⟩; have n0_ := Aside0.mk (hb); have n1_ := Aside0.mk (hi); clear HB; clear HI314; have HB := n0_; have HI314 := n1_; clear n0_ n1_; (try clear hb); (try clear hb2); (try clear hk); (try clear hi)) | ((with_reducible refine gate_callee (f := 22) rfl ?_); refine goesL_ (some 65) rfl rfl Try.func22 (by kernel_rfl) rfl #[.pointer (some ⟨g314, 0, none⟩)] rfl (by (try simp only [List.map_toArray, List.map_cons, List.map_nil]); first | done | rfl | (simp only [List.length_drop, List.length_take]; rfl)) ?_; (with_reducible refine (neigh_Neigh_Cost.calls g314 t341 t342 t343 t344 t345 t346 t347 t348 t349 w _ ?side1 ?side2 A27.out).mono ?_); (case side1 => repeat (first | (with_reducible first | exact HI314.out | apply IsS40.alloc | apply IsS40.drewN | apply IsS40.drew | apply IsS40.set_0 | apply IsS40.set_1 | apply IsS40.set_2 | apply IsS40.set_3) | exact HI314.out)); (case side2 => repeat (first | (with_reducible first | exact HB.out | apply below_alloc | apply pw_below_drewN | apply below_drew1 | refine below_set ?_ (IsS40.ge HI314.out)) | exact HB.out)); rintro e w50 ⟨rfl, hi, hb, hk⟩; refine ⟨_, rfl, ?_⟩; have n0_ := Aside0.mk (hb); have n1_ := Aside0.mk (hi); clear HB; clear HI314; have HB := n0_; have HI314 := n1_; clear n0_ n1_; (try clear hb); (try clear hb2); (try clear hk); (try clear hi)) | ((with_reducible refine gate_callee (f := 18) rfl ?_); refine goesL_ (some 67) rfl rfl Try.func18 (by kernel_rfl) rfl #[.pointer (some ⟨g314, 0, none⟩)] rfl (by (try simp only [List.map_toArray, List.map_cons, List.map_nil]); first | done | rfl | (simp only [List.length_drop, List.length_take]; rfl)) ?_; (with_reducible refine (neigh_Neigh_History.calls g314 t346 t347 t348 t349 t350 t351 t352 t353 t354 w _ ?side1 ?side2 A28.out).mono ?_); (case side1 => repeat (first | (with_reducible first | exact HI314.out | apply IsS40.alloc | apply IsS40.drewN | apply IsS40.drew | apply IsS40.set_0 | apply IsS40.set_1 | apply IsS40.set_2 | apply IsS40.set_3) | exact HI314.out)); (case side2 => repeat (first | (with_reducible first | exact HB.out | apply below_alloc | apply pw_below_drewN | apply below_drew1 | refine below_set ?_ (IsS40.ge HI314.out)) | exact HB.out)); rintro e w51 ⟨rfl, hi, hb, hk⟩; refine ⟨_, rfl, ?_⟩; have n0_ := Aside0.mk (hb); have n1_ := Aside0.mk (hi); clear HB; clear HI314; have HB := n0_; have HI314 := n1_; clear n0_ n1_; (try clear hb); (try clear hb2); (try clear hk); (try clear hi)) | (go_at_call 20; (with_reducible refine (neigh_Neigh_Rx.calls g314 t351 t352 t353 t354 t355 t356 t357 t358 t359 w _ ?side1 ?side2 A30.out).mono ?_); (case side1 => repeat (first | (with_reducible first | exact HI314.out | apply IsS40.alloc | apply IsS40.drewN | apply IsS40.drew | apply IsS40.set_0 | apply IsS40.set_1 | apply IsS40.set_2 | apply IsS40.set_3) | exact HI314.out)); (case side2 => repeat (first | (with_reducible first | exact HB.out | apply below_alloc | apply pw_below_drewN | apply below_drew1 | refine below_set ?_ (IsS40.ge HI314.out)) | exact HB.out)); rintro e w52 ⟨rfl, hi, hb, hk⟩; have n0_ := Aside0.mk (hb); have n1_ := Aside0.mk (hi); clear HB; clear HI314; have HB := n0_; have HI314 := n1_; clear n0_ n1_; (try clear hb); (try clear hb2); (try clear hk); (try clear hi)))
                          go_ret
                          exact ⟨by first | rfl | (simp [errW_none, errW_some] <;> rfl) | (simp [*, errW_none, errW_some] <;> rfl), by repeat (first | (with_reducible first | exact HB.out | apply below_alloc | apply pw_below_drewN | apply below_drew1 | refine below_set ?_ (IsS40.ge HI314.out)) | exact HB.out)⟩
                    · rw [if_neg c32] at H
                      exact absurd H (by simp)
                  · rw [if_neg c31] at H
                    exact absurd H (by simp)
                · rw [if_neg c29] at H
                  exact absurd H (by simp)
              · rw [if_neg c24] at H
                exact absurd H (by simp)

end Go.Proofs.Ytchmcmioilmnpaa.L
