/- Printed by the session's own program out of the translation: for each Go function a Lean function with the same answers, and the proof that the code comes to them. No conditions. -/
import Derived.Test.YtfgaggocifmnoaaLx0
import Derived.Test.YtfgaggocifmnoaaLx1
import Derived.Test.YtfgaggocifmnoaaLx2
namespace Go.Proofs.Ytfgaggocifmnoaa.L
open Go.Proofs.YtfgaggocifmnoaaLab
open Go.RowKit Go.Proofs.YtfgaggocifmnoaaW.PrintWords Go.Proofs.YtfgaggocifmnoaaW.PrintLast Go.Proofs.YtfgaggocifmnoaaW.PrintMore
attribute [local go_sem] max2_int min2_int max_two min_two max_three min_three max_four min_four   -- for this text's walks alone
set_option linter.unusedVariables false
set_option linter.unusedSimpArgs false

/-! ### octroilaw03_TagsGrow: function 6 -/
def octroilaw03_TagsGrow.j0 : Nat → Int → Int → Bool → Int → Int → Bool → Option (Bool)
  | 0, _, _, _, _, _, _ => none
  | k + 1, x0, x1, x7, x8, x11, x12 => if x7 = true then (if x11 = 6 then ((tags_Has.f x8 x1).bind fun t157 => (if t157 = true then (if x12 = true then ((tags_Depth.f k x8).bind fun t158 => ((tags_Depth.f k x0).bind fun t159 => (if t158 = (wrap64 (t159 + 1)) then ((tags_Within.f x0 x8).bind fun t160 => (if t160 = true then ((tags_Within.f x8 x0).bind fun t161 => (some (!t161))) else (some false))) else (some false)))) else (some false)) else (some false))) else (some false)) else (some false)
def octroilaw03_TagsGrow.f (k : Nat) (a0 : Int) (a1 : Int) (a2 : Int) : Option (Bool) := (octroilaw03_awake.f k).bind fun t149 => ((tags_Add.f a0 a1).bind fun bt150 => (if bt150.2 = 0 then ((tags_Add.f bt150.1 a1).bind fun bt153 => (if a2 = a1 then (octroilaw03_TagsGrow.j0 k a0 a1 t149 bt150.1 bt153.2 true) else ((tags_Has.f bt150.1 a2).bind fun t155 => ((tags_Has.f a0 a2).bind fun t156 => (octroilaw03_TagsGrow.j0 k a0 a1 t149 bt150.1 bt153.2 (t155 == t156)))))) else (if t149 = true then (if bt150.1 = 0 then ((tags_Has.f a0 a1).bind fun t152 => (if t152 = true then (some true) else (if a1 < 0 then (some true) else (some (decide (a1 ≥ 16)))))) else (some false)) else (some false))))
theorem octroilaw03_TagsGrow.mono_l : ∀ k, (∀ y0 y1 y2 y3 y4 y5, LeO (octroilaw03_TagsGrow.j0 k y0 y1 y2 y3 y4 y5) (octroilaw03_TagsGrow.j0 (k + 1) y0 y1 y2 y3 y4 y5))
  | 0 => fun _ _ _ _ _ _ r h => by simp [octroilaw03_TagsGrow.j0] at h
  | k + 1 => by
    have ih0 := octroilaw03_TagsGrow.mono_l k
    · intro y0 y1 y2 y3 y4 y5
      unfold octroilaw03_TagsGrow.j0
      repeat' first
      | (with_reducible exact ih0 _ _ _ _ _ _)
      | (with_reducible exact octroilaw03_awake.mono _)
      | (with_reducible exact tags_Depth.mono _ _)
      | (with_reducible exact LeO.refl _)
      | (with_reducible exact LeO.none _)
      | (with_reducible refine LeO.ite ?_ ?_)
      | (with_reducible refine LeO.bind ?_ (fun _ => ?_))
      | exact ih0 _ _ _ _ _ _
      | exact octroilaw03_awake.mono _
      | exact tags_Depth.mono _ _
      | exact LeO.none _
      | refine LeO.ite ?_ ?_
      | refine LeO.bind ?_ (fun _ => ?_)
theorem octroilaw03_TagsGrow.mono : ∀ a0 a1 a2 k, LeO (octroilaw03_TagsGrow.f k a0 a1 a2) (octroilaw03_TagsGrow.f (k + 1) a0 a1 a2) := by
  intro a0 a1 a2 k
  have ih0 := octroilaw03_TagsGrow.mono_l k
  unfold octroilaw03_TagsGrow.f
  repeat' first
      | (with_reducible exact ih0 _ _ _ _ _ _)
      | (with_reducible exact octroilaw03_awake.mono _)
      | (with_reducible exact tags_Depth.mono _ _)
      | (with_reducible exact LeO.refl _)
      | (with_reducible exact LeO.none _)
      | (with_reducible refine LeO.ite ?_ ?_)
      | (with_reducible refine LeO.bind ?_ (fun _ => ?_))
      | exact ih0 _ _ _ _ _ _
      | exact octroilaw03_awake.mono _
      | exact tags_Depth.mono _ _
      | exact LeO.none _
      | refine LeO.ite ?_ ?_
      | refine LeO.bind ?_ (fun _ => ?_)
set_option maxHeartbeats 8000000 in
set_option maxRecDepth 100000 in
theorem octroilaw03_TagsGrow.calls (k : Nat) (a0 : Int) (a1 : Int) (a2 : Int) (r : Bool) (w : World) (h : octroilaw03_TagsGrow.f k a0 a1 a2 = some r) :
    Calls Try.prog 6 #[.int .u16 a0, .int .i64 a1, .int .i64 a2] w fun e w' => e = .returned (.bool r) ∧ Below w.heap.size w w' := by
  have HB := Aside0.mk (Below.refl w.heap.size w)
  have H : ((octroilaw03_awake.f k).bind fun t149 => ((tags_Add.f a0 a1).bind fun bt150 => (if bt150.2 = 0 then ((tags_Add.f bt150.1 a1).bind fun bt153 => (if a2 = a1 then (octroilaw03_TagsGrow.j0 k a0 a1 t149 bt150.1 bt153.2 true) else ((tags_Has.f bt150.1 a2).bind fun t155 => ((tags_Has.f a0 a2).bind fun t156 => (octroilaw03_TagsGrow.j0 k a0 a1 t149 bt150.1 bt153.2 (t155 == t156)))))) else (if t149 = true then (if bt150.1 = 0 then ((tags_Has.f a0 a1).bind fun t152 => (if t152 = true then (some true) else (if a1 < 0 then (some true) else (some (decide (a1 ≥ 16)))))) else (some false)) else (some false))))) = some r := h
  clear h
  replace H := Option.bind_eq_some_iff.mp H
  obtain ⟨t149, A40, H⟩ := H
  replace H : ((tags_Add.f a0 a1).bind fun bt150 => (if bt150.2 = 0 then ((tags_Add.f bt150.1 a1).bind fun bt153 => (if a2 = a1 then (octroilaw03_TagsGrow.j0 k a0 a1 t149 bt150.1 bt153.2 true) else ((tags_Has.f bt150.1 a2).bind fun t155 => ((tags_Has.f a0 a2).bind fun t156 => (octroilaw03_TagsGrow.j0 k a0 a1 t149 bt150.1 bt153.2 (t155 == t156)))))) else (if t149 = true then (if bt150.1 = 0 then ((tags_Has.f a0 a1).bind fun t152 => (if t152 = true then (some true) else (if a1 < 0 then (some true) else (some (decide (a1 ≥ 16)))))) else (some false)) else (some false)))) = some r := H
  have A4 := Aside0.mk A40
  clear A40
  replace H := Option.bind_eq_some_iff.mp H
  obtain ⟨⟨t150, t151⟩, A50, H⟩ := H
  replace H : (if t151 = 0 then ((tags_Add.f t150 a1).bind fun bt153 => (if a2 = a1 then (octroilaw03_TagsGrow.j0 k a0 a1 t149 t150 bt153.2 true) else ((tags_Has.f t150 a2).bind fun t155 => ((tags_Has.f a0 a2).bind fun t156 => (octroilaw03_TagsGrow.j0 k a0 a1 t149 t150 bt153.2 (t155 == t156)))))) else (if t149 = true then (if t150 = 0 then ((tags_Has.f a0 a1).bind fun t152 => (if t152 = true then (some true) else (if a1 < 0 then (some true) else (some (decide (a1 ≥ 16)))))) else (some false)) else (some false))) = some r := H
  have A5 := Aside0.mk A50
  clear A50
  by_cases c6 : t151 = 0
  · rw [if_pos c6] at H
    have c6b0 : (t151 == 0) = true := beq_iff_eq.mpr c6
    have c6b1 : (t151 != 0) = false := bne_eq_false_iff_eq.mpr c6
    clear c6
    replace H := Option.bind_eq_some_iff.mp H
    obtain ⟨⟨t153, t154⟩, A70, H⟩ := H
    replace H : (if a2 = a1 then (octroilaw03_TagsGrow.j0 k a0 a1 t149 t150 t154 true) else ((tags_Has.f t150 a2).bind fun t155 => ((tags_Has.f a0 a2).bind fun t156 => (octroilaw03_TagsGrow.j0 k a0 a1 t149 t150 t154 (t155 == t156))))) = some r := H
    have A7 := Aside0.mk A70
    clear A70
    have HC8 := Aside0.mk H
    clear H
    go_enter Try.func6, Try.ntmps6
    go_upto_region 6 with (first | ((with_reducible refine gate_callee (f := 10) rfl ?_); refine goesL_ (some 13) rfl rfl Try.func10 (by kernel_rfl) rfl #[] rfl (by (try simp only [List.map_toArray, List.map_cons, List.map_nil]); first | done | rfl | (simp only [List.length_drop, List.length_take]; rfl)) ?_; (with_reducible refine (octroilaw03_awake.calls k  t149 _ A4.out).mono ?_); rintro e w9 ⟨rfl, hb⟩; refine ⟨_, rfl, ?_⟩; have n0_ := Aside0.mk (below_step (by repeat (first | (with_reducible first | exact HB.out | apply below_alloc | apply pw_below_drewN | apply below_drew1) | exact HB.out)) hb); clear HB; have HB := n0_; clear n0_; (try clear hb); (try clear hb2); (try clear hk); (try clear hi)) | ((with_reducible refine gate_callee (f := 11) rfl ?_); refine goesL_ (some 17) rfl rfl Try.func11 (by kernel_rfl) rfl #[.int .u16 a0, .int .i64 a1] rfl (by (try simp only [List.map_toArray, List.map_cons, List.map_nil]); first | done | rfl | (simp only [List.length_drop, List.length_take]; rfl)) ?_; (with_reducible refine (tags_Add.calls a0 a1 t150 t151 _ A5.out).mono ?_); rintro e w' ⟨rfl, ⟨nd, rfl⟩⟩; refine ⟨_, rfl, ?_⟩) | ((with_reducible refine gate_callee (f := 11) rfl ?_); refine goesL_ (some 43) rfl rfl Try.func11 (by kernel_rfl) rfl #[.int .u16 t150, .int .i64 a1] rfl (by (try simp only [List.map_toArray, List.map_cons, List.map_nil]); first | done | rfl | (simp only [List.length_drop, List.length_take]; rfl)) ?_; (with_reducible refine (tags_Add.calls t150 a1 t153 t154 _ A7.out).mono ?_); rintro e w' ⟨rfl, ⟨nd, rfl⟩⟩; refine ⟨_, rfl, ?_⟩))
    (try simp only [Act.put, List.setIfInBounds_toArray, List.set_cons_zero, List.set_cons_succ])
    go_cut [12] (fun v12 wc => ∃ (kq : Nat) (x12_7 : Bool), v12 = .bool x12_7 ∧ Aside0 (octroilaw03_TagsGrow.j0 kq a0 a1 t149 t150 t154 x12_7 = some r) ∧ Aside0 (kq ≤ k) ∧ Aside0 (Below w.heap.size w wc))
    case first =>
      have H := HC8.out
      clear HC8
      by_cases c10 : a2 = a1
      · rw [if_pos c10] at H
        have c10b0 : (a2 == a1) = true := beq_iff_eq.mpr c10
        have c10b1 : (a2 != a1) = false := bne_eq_false_iff_eq.mpr c10
        clear c10
        (first | rw [c10b0] | (simp only [i64_w, i32_w]; rw [c10b0]) | skip)
        have H' := Aside0.mk H
        clear H
        go_wp2
        go_meet
        case rel => exact ⟨_, (true), (by first | rfl | (simp; done) | (simp [*]; done)), H', ⟨by first | omega | exact Nat.le_refl _⟩, ⟨by repeat (first | (with_reducible first | exact HB.out | apply below_alloc | apply pw_below_drewN | apply below_drew1) | exact HB.out)⟩⟩
      · rw [if_neg c10] at H
        have c10b0 : (a2 == a1) = false := beq_eq_false_iff_ne.mpr c10
        have c10b1 : (a2 != a1) = true := bne_iff_ne.mpr c10
        (first | rw [c10b0] | (simp only [i64_w, i32_w]; rw [c10b0]) | skip)
        replace H := Option.bind_eq_some_iff.mp H
        obtain ⟨t155, A110, H⟩ := H
        replace H : ((tags_Has.f a0 a2).bind fun t156 => (octroilaw03_TagsGrow.j0 k a0 a1 t149 t150 t154 (t155 == t156))) = some r := H
        have A11 := Aside0.mk A110
        clear A110
        replace H := Option.bind_eq_some_iff.mp H
        obtain ⟨t156, A120, H⟩ := H
        replace H : (octroilaw03_TagsGrow.j0 k a0 a1 t149 t150 t154 (t155 == t156)) = some r := H
        have A12 := Aside0.mk A120
        clear A120
        have H' := Aside0.mk H
        clear H
        go_wp2_with (first | (go_at_call 16; (with_reducible refine (tags_Has.calls t150 a2 t155 _ A11.out).mono ?_); rintro e w' ⟨rfl, ⟨nd, rfl⟩⟩) | (go_at_call 16; (with_reducible refine (tags_Has.calls a0 a2 t156 _ A12.out).mono ?_); rintro e w' ⟨rfl, ⟨nd, rfl⟩⟩))
        go_meet
        case rel => exact ⟨_, ((t155 == t156)), (by first | rfl | (simp; done) | (simp [*]; done)), H', ⟨by first | omega | exact Nat.le_refl _⟩, ⟨by repeat (first | (with_reducible first | exact HB.out | apply below_alloc | apply pw_below_drewN | apply below_drew1) | exact HB.out)⟩⟩
    case rest =>
      clear HC8
      try clear c1
      try clear p2
      try clear c6
      try clear c6b0
      try clear c6b1
      try clear c10
      try clear c10b0
      try clear c10b1
      try clear c11
      obtain ⟨kq, x12_7, rfl, HA, HJ7, HB⟩ := hcut
      cases kq with
      | zero => exact absurd HA.out (by simp [octroilaw03_TagsGrow.j0])
      | succ kj7 =>
        have H := HA.out
        clear HA
        simp only [octroilaw03_TagsGrow.j0] at H
        by_cases c13 : t149 = true
        · subst c13
          have H1 : (if t154 = 6 then ((tags_Has.f t150 a1).bind fun t157 => (if t157 = true then (if x12_7 = true then ((tags_Depth.f kj7 t150).bind fun t158 => ((tags_Depth.f kj7 a0).bind fun t159 => (if t158 = (wrap64 (t159 + 1)) then ((tags_Within.f a0 t150).bind fun t160 => (if t160 = true then ((tags_Within.f t150 a0).bind fun t161 => (some (!t161))) else (some false))) else (some false)))) else (some false)) else (some false))) else (some false)) = some r := by rw [if_pos rfl] at H; exact H
          clear H
          have H := H1
          clear H1
          by_cases c14 : t154 = 6
          · rw [if_pos c14] at H
            have c14b0 : (t154 == 6) = true := beq_iff_eq.mpr c14
            have c14b1 : (t154 != 6) = false := bne_eq_false_iff_eq.mpr c14
            clear c14
            replace H := Option.bind_eq_some_iff.mp H
            obtain ⟨t157, A150, H⟩ := H
            replace H : (if t157 = true then (if x12_7 = true then ((tags_Depth.f kj7 t150).bind fun t158 => ((tags_Depth.f kj7 a0).bind fun t159 => (if t158 = (wrap64 (t159 + 1)) then ((tags_Within.f a0 t150).bind fun t160 => (if t160 = true then ((tags_Within.f t150 a0).bind fun t161 => (some (!t161))) else (some false))) else (some false)))) else (some false)) else (some false)) = some r := H
            have A15 := Aside0.mk A150
            clear A150
            by_cases c16 : t157 = true
            · subst c16
              have H1 : (if x12_7 = true then ((tags_Depth.f kj7 t150).bind fun t158 => ((tags_Depth.f kj7 a0).bind fun t159 => (if t158 = (wrap64 (t159 + 1)) then ((tags_Within.f a0 t150).bind fun t160 => (if t160 = true then ((tags_Within.f t150 a0).bind fun t161 => (some (!t161))) else (some false))) else (some false)))) else (some false)) = some r := by rw [if_pos rfl] at H; exact H
              clear H
              have H := H1
              clear H1
              by_cases c17 : x12_7 = true
              · subst c17
                have H1 : ((tags_Depth.f kj7 t150).bind fun t158 => ((tags_Depth.f kj7 a0).bind fun t159 => (if t158 = (wrap64 (t159 + 1)) then ((tags_Within.f a0 t150).bind fun t160 => (if t160 = true then ((tags_Within.f t150 a0).bind fun t161 => (some (!t161))) else (some false))) else (some false)))) = some r := by rw [if_pos rfl] at H; exact H
                clear H
                have H := H1
                clear H1
                replace H := Option.bind_eq_some_iff.mp H
                obtain ⟨t158, A180, H⟩ := H
                replace H : ((tags_Depth.f kj7 a0).bind fun t159 => (if t158 = (wrap64 (t159 + 1)) then ((tags_Within.f a0 t150).bind fun t160 => (if t160 = true then ((tags_Within.f t150 a0).bind fun t161 => (some (!t161))) else (some false))) else (some false))) = some r := H
                have A18 := Aside0.mk A180
                clear A180
                replace H := Option.bind_eq_some_iff.mp H
                obtain ⟨t159, A190, H⟩ := H
                replace H : (if t158 = (wrap64 (t159 + 1)) then ((tags_Within.f a0 t150).bind fun t160 => (if t160 = true then ((tags_Within.f t150 a0).bind fun t161 => (some (!t161))) else (some false))) else (some false)) = some r := H
                have A19 := Aside0.mk A190
                clear A190
                by_cases c20 : t158 = (wrap64 (t159 + 1))
                · rw [if_pos c20] at H
                  have c20b0 : (t158 == (wrap64 (t159 + 1))) = true := beq_iff_eq.mpr c20
                  have c20b1 : (t158 != (wrap64 (t159 + 1))) = false := bne_eq_false_iff_eq.mpr c20
                  clear c20
                  replace H := Option.bind_eq_some_iff.mp H
                  obtain ⟨t160, A210, H⟩ := H
                  replace H : (if t160 = true then ((tags_Within.f t150 a0).bind fun t161 => (some (!t161))) else (some false)) = some r := H
                  have A21 := Aside0.mk A210
                  clear A210
                  by_cases c22 : t160 = true
                  · subst c22
                    have H1 : ((tags_Within.f t150 a0).bind fun t161 => (some (!t161))) = some r := by rw [if_pos rfl] at H; exact H
                    clear H
                    have H := H1
                    clear H1
                    replace H := Option.bind_eq_some_iff.mp H
                    obtain ⟨t161, A230, H⟩ := H
                    replace H : (some (!t161)) = some r := H
                    have A23 := Aside0.mk A230
                    clear A230
                    obtain rfl := Option.some.inj H
                    go_wp2_with (first | (go_at_call 16; (with_reducible refine (tags_Has.calls t150 a1 true _ A15.out).mono ?_); rintro e w' ⟨rfl, ⟨nd, rfl⟩⟩) | (go_at_call 15; (with_reducible refine (tags_Depth.calls kj7 t150 t158 _ A18.out).mono ?_); rintro e w' ⟨rfl, ⟨nd, rfl⟩⟩) | (go_at_call 15; (with_reducible refine (tags_Depth.calls kj7 a0 t159 _ A19.out).mono ?_); rintro e w' ⟨rfl, ⟨nd, rfl⟩⟩) | (go_at_call 17; (with_reducible refine (tags_Within.calls a0 t150 true _ A21.out).mono ?_); rintro e w' ⟨rfl, ⟨nd, rfl⟩⟩) | (go_at_call 17; (with_reducible refine (tags_Within.calls t150 a0 t161 _ A23.out).mono ?_); rintro e w' ⟨rfl, ⟨nd, rfl⟩⟩))
                    go_ret
                    exact ⟨by first | rfl | (simp [errW_none, errW_some] <;> rfl) | (simp [*, errW_none, errW_some] <;> rfl), by repeat (first | (with_reducible first | exact HB.out | apply below_alloc | apply pw_below_drewN | apply below_drew1) | exact HB.out)⟩
                  · replace c22 := Bool.eq_false_iff.mpr c22
                    subst c22
                    have H1 : (some false) = some r := by rw [if_neg (show ¬ (false = true) by decide)] at H; exact H
                    clear H
                    have H := H1
                    clear H1
                    obtain rfl := Option.some.inj H
                    go_wp2_with (first | (go_at_call 16; (with_reducible refine (tags_Has.calls t150 a1 true _ A15.out).mono ?_); rintro e w' ⟨rfl, ⟨nd, rfl⟩⟩) | (go_at_call 15; (with_reducible refine (tags_Depth.calls kj7 t150 t158 _ A18.out).mono ?_); rintro e w' ⟨rfl, ⟨nd, rfl⟩⟩) | (go_at_call 15; (with_reducible refine (tags_Depth.calls kj7 a0 t159 _ A19.out).mono ?_); rintro e w' ⟨rfl, ⟨nd, rfl⟩⟩) | (go_at_call 17; (with_reducible refine (tags_Within.calls a0 t150 false _ A21.out).mono ?_); rintro e w' ⟨rfl, ⟨nd, rfl⟩⟩))
                    go_ret
                    exact ⟨by first | rfl | (simp [errW_none, errW_some] <;> rfl) | (simp [*, errW_none, errW_some] <;> rfl), by repeat (first | (with_reducible first | exact HB.out | apply below_alloc | apply pw_below_drewN | apply below_drew1) | exact HB.out)⟩
                · rw [if_neg c20] at H
                  have c20b0 : (t158 == (wrap64 (t159 + 1))) = false := beq_eq_false_iff_ne.mpr c20
                  have c20b1 : (t158 != (wrap64 (t159 + 1))) = true := bne_iff_ne.mpr c20
                  obtain rfl := Option.some.inj H
                  go_wp2_with (first | (go_at_call 16; (with_reducible refine (tags_Has.calls t150 a1 true _ A15.out).mono ?_); rintro e w' ⟨rfl, ⟨nd, rfl⟩⟩) | (go_at_call 15; (with_reducible refine (tags_Depth.calls kj7 t150 t158 _ A18.out).mono ?_); rintro e w' ⟨rfl, ⟨nd, rfl⟩⟩) | (go_at_call 15; (with_reducible refine (tags_Depth.calls kj7 a0 t159 _ A19.out).mono ?_); rintro e w' ⟨rfl, ⟨nd, rfl⟩⟩))
                  go_ret
                  exact ⟨by first | rfl | (simp [errW_none, errW_some] <;> rfl) | (simp [*, errW_none, errW_some] <;> rfl), by repeat (first | (with_reducible first | exact HB.out | apply below_alloc | apply pw_below_drewN | apply below_drew1) | exact HB.out)⟩
              · replace c17 := Bool.eq_false_iff.mpr c17
                subst c17
                have H1 : (some false) = some r := by rw [if_neg (show ¬ (false = true) by decide)] at H; exact H
                clear H
                have H := H1
                clear H1
                obtain rfl := Option.some.inj H
                go_wp2_with (first | (go_at_call 16; (with_reducible refine (tags_Has.calls t150 a1 true _ A15.out).mono ?_); rintro e w' ⟨rfl, ⟨nd, rfl⟩⟩))
                go_ret
                exact ⟨by first | rfl | (simp [errW_none, errW_some] <;> rfl) | (simp [*, errW_none, errW_some] <;> rfl), by repeat (first | (with_reducible first | exact HB.out | apply below_alloc | apply pw_below_drewN | apply below_drew1) | exact HB.out)⟩
            · replace c16 := Bool.eq_false_iff.mpr c16
              subst c16
              have H1 : (some false) = some r := by rw [if_neg (show ¬ (false = true) by decide)] at H; exact H
              clear H
              have H := H1
              clear H1
              obtain rfl := Option.some.inj H
              go_wp2_with (first | (go_at_call 16; (with_reducible refine (tags_Has.calls t150 a1 false _ A15.out).mono ?_); rintro e w' ⟨rfl, ⟨nd, rfl⟩⟩))
              go_ret
              exact ⟨by first | rfl | (simp [errW_none, errW_some] <;> rfl) | (simp [*, errW_none, errW_some] <;> rfl), by repeat (first | (with_reducible first | exact HB.out | apply below_alloc | apply pw_below_drewN | apply below_drew1) | exact HB.out)⟩
          · rw [if_neg c14] at H
            have c14b0 : (t154 == 6) = false := beq_eq_false_iff_ne.mpr c14
            have c14b1 : (t154 != 6) = true := bne_iff_ne.mpr c14
            obtain rfl := Option.some.inj H
            go_wp2
            go_ret
            exact ⟨by first | rfl | (simp [errW_none, errW_some] <;> rfl) | (simp [*, errW_none, errW_some] <;> rfl), by repeat (first | (with_reducible first | exact HB.out | apply below_alloc | apply pw_below_drewN | apply below_drew1) | exact HB.out)⟩
        · replace c13 := Bool.eq_false_iff.mpr c13
          subst c13
          have H1 : (some false) = some r := by rw [if_neg (show ¬ (false = true) by decide)] at H; exact H
          clear H
          have H := H1
          clear H1
          obtain rfl := Option.some.inj H
          go_wp2
          go_ret
          exact ⟨by first | rfl | (simp [errW_none, errW_some] <;> rfl) | (simp [*, errW_none, errW_some] <;> rfl), by repeat (first | (with_reducible first | exact HB.out | apply below_alloc | apply pw_below_drewN | apply below_drew1) | exact HB.out)⟩
  · rw [if_neg c6] at H
    have c6b0 : (t151 == 0) = false := beq_eq_false_iff_ne.mpr c6
    have c6b1 : (t151 != 0) = true := bne_iff_ne.mpr c6
    by_cases c24 : t149 = true
    · subst c24
      have H1 : (if t150 = 0 then ((tags_Has.f a0 a1).bind fun t152 => (if t152 = true then (some true) else (if a1 < 0 then (some true) else (some (decide (a1 ≥ 16)))))) else (some false)) = some r := by rw [if_pos rfl] at H; exact H
      clear H
      have H := H1
      clear H1
      by_cases c25 : t150 = 0
      · rw [if_pos c25] at H
        have c25b0 : (t150 == 0) = true := beq_iff_eq.mpr c25
        have c25b1 : (t150 != 0) = false := bne_eq_false_iff_eq.mpr c25
        clear c25
        replace H := Option.bind_eq_some_iff.mp H
        obtain ⟨t152, A260, H⟩ := H
        replace H : (if t152 = true then (some true) else (if a1 < 0 then (some true) else (some (decide (a1 ≥ 16))))) = some r := H
        have A26 := Aside0.mk A260
        clear A260
        by_cases c27 : t152 = true
        · subst c27
          have H1 : (some true) = some r := by rw [if_pos rfl] at H; exact H
          clear H
          have H := H1
          clear H1
          obtain rfl := Option.some.inj H
          go_enter Try.func6, Try.ntmps6
          go_wp2_with (first | ((with_reducible refine gate_callee (f := 10) rfl ?_); refine goesL_ (some 13) rfl rfl Try.func10 (by kernel_rfl) rfl #[] rfl (by (try simp only [List.map_toArray, List.map_cons, List.map_nil]); first | done | rfl | (simp only [List.length_drop, List.length_take]; rfl)) ?_; (with_reducible refine (octroilaw03_awake.calls k  true _ A4.out).mono ?_); rintro e w28 ⟨rfl, hb⟩; refine ⟨_, rfl, ?_⟩; have n0_ := Aside0.mk (below_step (by repeat (first | (with_reducible first | exact HB.out | apply below_alloc | apply pw_below_drewN | apply below_drew1) | exact HB.out)) hb); clear HB; have HB := n0_; clear n0_; (try clear hb); (try clear hb2); (try clear hk); (try clear hi)) | ((with_reducible refine gate_callee (f := 11) rfl ?_); refine goesL_ (some 17) rfl rfl Try.func11 (by kernel_rfl) rfl #[.int .u16 a0, .int .i64 a1] rfl (by (try simp only [List.map_toArray, List.map_cons, List.map_nil]); first | done | rfl | (simp only [List.length_drop, List.length_take]; rfl)) ?_; (with_reducible refine (tags_Add.calls a0 a1 t150 t151 _ A5.out).mono ?_); rintro e w' ⟨rfl, ⟨nd, rfl⟩⟩; refine ⟨_, rfl, ?_⟩) | (go_at_call 16; (with_reducible refine (tags_Has.calls a0 a1 true _ A26.out).mono ?_); rintro e w' ⟨rfl, ⟨nd, rfl⟩⟩))
          go_ret
          exact ⟨by first | rfl | (simp [errW_none, errW_some] <;> rfl) | (simp [*, errW_none, errW_some] <;> rfl), by repeat (first | (with_reducible first | exact HB.out | apply below_alloc | apply pw_below_drewN | apply below_drew1) | exact HB.out)⟩
        · replace c27 := Bool.eq_false_iff.mpr c27
          subst c27
          have H1 : (if a1 < 0 then (some true) else (some (decide (a1 ≥ 16)))) = some r := by rw [if_neg (show ¬ (false = true) by decide)] at H; exact H
          clear H
          have H := H1
          clear H1
          by_cases c29 : a1 < 0
          · rw [if_pos c29] at H
            have c29b0 : decide (a1 < 0) = true := decide_eq_true c29
            clear c29
            obtain rfl := Option.some.inj H
            go_enter Try.func6, Try.ntmps6
            go_wp2_with (first | ((with_reducible refine gate_callee (f := 10) rfl ?_); refine goesL_ (some 13) rfl rfl Try.func10 (by kernel_rfl) rfl #[] rfl (by (try simp only [List.map_toArray, List.map_cons, List.map_nil]); first | done | rfl | (simp only [List.length_drop, List.length_take]; rfl)) ?_; (with_reducible refine (octroilaw03_awake.calls k  true _ A4.out).mono ?_); rintro e w30 ⟨rfl, hb⟩; refine ⟨_, rfl, ?_⟩; have n0_ := Aside0.mk (below_step (by repeat (first | (with_reducible first | exact HB.out | apply below_alloc | apply pw_below_drewN | apply below_drew1) | exact HB.out)) hb); clear HB; have HB := n0_; clear n0_; (try clear hb); (try clear hb2); (try clear hk); (try clear hi)) | ((with_reducible refine gate_callee (f := 11) rfl ?_); refine goesL_ (some 17) rfl rfl Try.func11 (by kernel_rfl) rfl #[.int .u16 a0, .int .i64 a1] rfl (by (try simp only [List.map_toArray, List.map_cons, List.map_nil]); first | done | rfl | (simp only [List.length_drop, List.length_take]; rfl)) ?_; (with_reducible refine (tags_Add.calls a0 a1 t150 t151 _ A5.out).mono ?_); rintro e w' ⟨rfl, ⟨nd, rfl⟩⟩; refine ⟨_, rfl, ?_⟩) | (go_at_call 16; (with_reducible refine (tags_Has.calls a0 a1 false _ A26.out).mono ?_); rintro e w' ⟨rfl, ⟨nd, rfl⟩⟩))
            go_ret
            exact ⟨by first | rfl | (simp [errW_none, errW_some] <;> rfl) | (simp [*, errW_none, errW_some] <;> rfl), by repeat (first | (with_reducible first | exact HB.out | apply below_alloc | apply pw_below_drewN | apply below_drew1) | exact HB.out)⟩
          · rw [if_neg c29] at H
            have c29b0 : decide (a1 < 0) = false := decide_eq_false c29
            clear c29
            obtain rfl := Option.some.inj H
            go_enter Try.func6, Try.ntmps6
            go_wp2_with (first | ((with_reducible refine gate_callee (f := 10) rfl ?_); refine goesL_ (some 13) rfl rfl Try.func10 (by kernel_rfl) rfl #[] rfl (by (try simp only [List.map_toArray, List.map_cons, List.map_nil]); first | done | rfl | (simp only [List.length_drop, List.length_take]; rfl)) ?_; (with_reducible refine (octroilaw03_awake.calls k  true _ A4.out).mono ?_); rintro e w31 ⟨rfl, hb⟩; refine ⟨_, rfl, ?_⟩; have n0_ := Aside0.mk (below_step (by repeat (first | (with_reducible first | exact HB.out | apply below_alloc | apply pw_below_drewN | apply below_drew1) | exact HB.out)) hb); clear HB; have HB := n0_; clear n0_; (try clear hb); (try clear hb2); (try clear hk); (try clear hi)) | ((with_reducible refine gate_callee (f := 11) rfl ?_); refine goesL_ (some 17) rfl rfl Try.func11 (by kernel_rfl) rfl #[.int .u16 a0, .int .i64 a1] rfl (by (try simp only [List.map_toArray, List.map_cons, List.map_nil]); first | done | rfl | (simp only [List.length_drop, List.length_take]; rfl)) ?_; (with_reducible refine (tags_Add.calls a0 a1 t150 t151 _ A5.out).mono ?_); rintro e w' ⟨rfl, ⟨nd, rfl⟩⟩; refine ⟨_, rfl, ?_⟩) | (go_at_call 16; (with_reducible refine (tags_Has.calls a0 a1 false _ A26.out).mono ?_); rintro e w' ⟨rfl, ⟨nd, rfl⟩⟩))
            go_ret
            exact ⟨by first | rfl | (simp [errW_none, errW_some] <;> rfl) | (simp [*, errW_none, errW_some] <;> rfl), by repeat (first | (with_reducible first | exact HB.out | apply below_alloc | apply pw_below_drewN | apply below_drew1) | exact HB.out)⟩
      · rw [if_neg c25] at H
        have c25b0 : (t150 == 0) = false := beq_eq_false_iff_ne.mpr c25
        have c25b1 : (t150 != 0) = true := bne_iff_ne.mpr c25
        obtain rfl := Option.some.inj H
        go_enter Try.func6, Try.ntmps6
        go_wp2_with (first | ((with_reducible refine gate_callee (f := 10) rfl ?_); refine goesL_ (some 13) rfl rfl Try.func10 (by kernel_rfl) rfl #[] rfl (by (try simp only [List.map_toArray, List.map_cons, List.map_nil]); first | done | rfl | (simp only [List.length_drop, List.length_take]; rfl)) ?_; (with_reducible refine (octroilaw03_awake.calls k  true _ A4.out).mono ?_); rintro e w32 ⟨rfl, hb⟩; refine ⟨_, rfl, ?_⟩; have n0_ := Aside0.mk (below_step (by repeat (first | (with_reducible first | exact HB.out | apply below_alloc | apply pw_below_drewN | apply below_drew1) | exact HB.out)) hb); clear HB; have HB := n0_; clear n0_; (try clear hb); (try clear hb2); (try clear hk); (try clear hi)) | ((with_reducible refine gate_callee (f := 11) rfl ?_); refine goesL_ (some 17) rfl rfl Try.func11 (by kernel_rfl) rfl #[.int .u16 a0, .int .i64 a1] rfl (by (try simp only [List.map_toArray, List.map_cons, List.map_nil]); first | done | rfl | (simp only [List.length_drop, List.length_take]; rfl)) ?_; (with_reducible refine (tags_Add.calls a0 a1 t150 t151 _ A5.out).mono ?_); rintro e w' ⟨rfl, ⟨nd, rfl⟩⟩; refine ⟨_, rfl, ?_⟩))
        go_ret
        exact ⟨by first | rfl | (simp [errW_none, errW_some] <;> rfl) | (simp [*, errW_none, errW_some] <;> rfl), by repeat (first | (with_reducible first | exact HB.out | apply below_alloc | apply pw_below_drewN | apply below_drew1) | exact HB.out)⟩
    · replace c24 := Bool.eq_false_iff.mpr c24
      subst c24
      have H1 : (some false) = some r := by rw [if_neg (show ¬ (false = true) by decide)] at H; exact H
      clear H
      have H := H1
      clear H1
      obtain rfl := Option.some.inj H
      go_enter Try.func6, Try.ntmps6
      go_wp2_with (first | ((with_reducible refine gate_callee (f := 10) rfl ?_); refine goesL_ (some 13) rfl rfl Try.func10 (by kernel_rfl) rfl #[] rfl (by (try simp only [List.map_toArray, List.map_cons, List.map_nil]); first | done | rfl | (simp only [List.length_drop, List.length_take]; rfl)) ?_; (with_reducible refine (octroilaw03_awake.calls k  false _ A4.out).mono ?_); rintro e w33 ⟨rfl, hb⟩; refine ⟨_, rfl, ?_⟩; have n0_ := Aside0.mk (below_step (by repeat (first | (with_reducible first | exact HB.out | apply below_alloc | apply pw_below_drewN | apply below_drew1) | exact HB.out)) hb); clear HB; have HB := n0_; clear n0_; (try clear hb); (try clear hb2); (try clear hk); (try clear hi)) | ((with_reducible refine gate_callee (f := 11) rfl ?_); refine goesL_ (some 17) rfl rfl Try.func11 (by kernel_rfl) rfl #[.int .u16 a0, .int .i64 a1] rfl (by (try simp only [List.map_toArray, List.map_cons, List.map_nil]); first | done | rfl | (simp only [List.length_drop, List.length_take]; rfl)) ?_; (with_reducible refine (tags_Add.calls a0 a1 t150 t151 _ A5.out).mono ?_); rintro e w' ⟨rfl, ⟨nd, rfl⟩⟩; refine ⟨_, rfl, ?_⟩))
      go_ret
      exact ⟨by first | rfl | (simp [errW_none, errW_some] <;> rfl) | (simp [*, errW_none, errW_some] <;> rfl), by repeat (first | (with_reducible first | exact HB.out | apply below_alloc | apply pw_below_drewN | apply below_drew1) | exact HB.out)⟩

/-- THE ONE PURE STATEMENT of octroilaw03_TagsGrow: yours. -/
def octroilaw03_TagsGrow.Pure : Prop := ∀ (a0 : Int) (a1 : Int) (a2 : Int), (Lit.int .u16 a0).wf = true → (Lit.int .i64 a1).wf = true → (Lit.int .i64 a2).wf = true → ∃ k, octroilaw03_TagsGrow.f k a0 a1 a2 = some true
theorem octroilaw03_TagsGrow.walk (P : octroilaw03_TagsGrow.Pure) (a0 : Int) (a1 : Int) (a2 : Int) (w : World) (w0 : (Lit.int .u16 a0).wf = true) (w1 : (Lit.int .i64 a1).wf = true) (w2 : (Lit.int .i64 a2).wf = true) :
    Calls Try.prog 6 #[.int .u16 a0, .int .i64 a1, .int .i64 a2] w fun e w' => e = .returned (.bool true) ∧ Below w.heap.size w w' := by
  obtain ⟨k, h⟩ := P a0 a1 a2 w0 w1 w2
  refine (octroilaw03_TagsGrow.calls k a0 a1 a2 true w h).mono ?_
  rintro e w' ⟨rfl, hd⟩
  exact ⟨rfl, hd⟩

/-! ### octroilaw03_TagsWithin: function 7 -/
def octroilaw03_TagsWithin.j0 : Nat → Int → Int → Bool → Bool → Option (Bool)
  | 0, _, _, _, _ => none
  | k + 1, x0, x1, x7, x49 => if x49 = true then (some false) else (if x7 = true then ((tags_Within.f x0 (Go.bits .or .u16 x0 x1)).bind fun t170 => (if t170 = true then ((tags_Within.f (Go.bits .and .u16 x0 x1) x0).bind fun t171 => (if t171 = true then ((tags_Within.f 0 x0).bind fun t172 => (some t172)) else (some false))) else (some false))) else (some false))
def octroilaw03_TagsWithin.f (k : Nat) (a0 : Int) (a1 : Int) (a2 : Int) : Option (Bool) := (octroilaw03_awake.f k).bind fun t162 => ((tags_Within.f a0 a1).bind fun t163 => ((tags_Within.f a1 a2).bind fun t164 => (if t163 = true then ((tags_Depth.f k a0).bind fun t165 => ((tags_Depth.f k a1).bind fun t166 => (if t165 > t166 then (octroilaw03_TagsWithin.j0 k a0 a1 t162 true) else (if t164 = true then ((tags_Within.f a0 a2).bind fun t167 => (if t167 = true then ((tags_Within.f a1 a0).bind fun t168 => (if t168 = true then (octroilaw03_TagsWithin.j0 k a0 a1 t162 (a0 != a1)) else (octroilaw03_TagsWithin.j0 k a0 a1 t162 false))) else (octroilaw03_TagsWithin.j0 k a0 a1 t162 true))) else ((tags_Within.f a1 a0).bind fun t169 => (if t169 = true then (octroilaw03_TagsWithin.j0 k a0 a1 t162 (a0 != a1)) else (octroilaw03_TagsWithin.j0 k a0 a1 t162 false))))))) else (octroilaw03_TagsWithin.j0 k a0 a1 t162 false))))
theorem octroilaw03_TagsWithin.mono_l : ∀ k, (∀ y0 y1 y2 y3, LeO (octroilaw03_TagsWithin.j0 k y0 y1 y2 y3) (octroilaw03_TagsWithin.j0 (k + 1) y0 y1 y2 y3))
  | 0 => fun _ _ _ _ r h => by simp [octroilaw03_TagsWithin.j0] at h
  | k + 1 => by
    have ih0 := octroilaw03_TagsWithin.mono_l k
    · intro y0 y1 y2 y3
      unfold octroilaw03_TagsWithin.j0
      repeat' first
      | (with_reducible exact ih0 _ _ _ _)
      | (with_reducible exact octroilaw03_awake.mono _)
      | (with_reducible exact tags_Depth.mono _ _)
      | (with_reducible exact LeO.refl _)
      | (with_reducible exact LeO.none _)
      | (with_reducible refine LeO.ite ?_ ?_)
      | (with_reducible refine LeO.bind ?_ (fun _ => ?_))
      | exact ih0 _ _ _ _
      | exact octroilaw03_awake.mono _
      | exact tags_Depth.mono _ _
      | exact LeO.none _
      | refine LeO.ite ?_ ?_
      | refine LeO.bind ?_ (fun _ => ?_)
theorem octroilaw03_TagsWithin.mono : ∀ a0 a1 a2 k, LeO (octroilaw03_TagsWithin.f k a0 a1 a2) (octroilaw03_TagsWithin.f (k + 1) a0 a1 a2) := by
  intro a0 a1 a2 k
  have ih0 := octroilaw03_TagsWithin.mono_l k
  unfold octroilaw03_TagsWithin.f
  repeat' first
      | (with_reducible exact ih0 _ _ _ _)
      | (with_reducible exact octroilaw03_awake.mono _)
      | (with_reducible exact tags_Depth.mono _ _)
      | (with_reducible exact LeO.refl _)
      | (with_reducible exact LeO.none _)
      | (with_reducible refine LeO.ite ?_ ?_)
      | (with_reducible refine LeO.bind ?_ (fun _ => ?_))
      | exact ih0 _ _ _ _
      | exact octroilaw03_awake.mono _
      | exact tags_Depth.mono _ _
      | exact LeO.none _
      | refine LeO.ite ?_ ?_
      | refine LeO.bind ?_ (fun _ => ?_)
set_option maxHeartbeats 8000000 in
set_option maxRecDepth 100000 in
theorem octroilaw03_TagsWithin.calls (k : Nat) (a0 : Int) (a1 : Int) (a2 : Int) (r : Bool) (w : World) (h : octroilaw03_TagsWithin.f k a0 a1 a2 = some r) :
    Calls Try.prog 7 #[.int .u16 a0, .int .u16 a1, .int .u16 a2] w fun e w' => e = .returned (.bool r) ∧ Below w.heap.size w w' := by
  have HB := Aside0.mk (Below.refl w.heap.size w)
  have H : ((octroilaw03_awake.f k).bind fun t162 => ((tags_Within.f a0 a1).bind fun t163 => ((tags_Within.f a1 a2).bind fun t164 => (if t163 = true then ((tags_Depth.f k a0).bind fun t165 => ((tags_Depth.f k a1).bind fun t166 => (if t165 > t166 then (octroilaw03_TagsWithin.j0 k a0 a1 t162 true) else (if t164 = true then ((tags_Within.f a0 a2).bind fun t167 => (if t167 = true then ((tags_Within.f a1 a0).bind fun t168 => (if t168 = true then (octroilaw03_TagsWithin.j0 k a0 a1 t162 (a0 != a1)) else (octroilaw03_TagsWithin.j0 k a0 a1 t162 false))) else (octroilaw03_TagsWithin.j0 k a0 a1 t162 true))) else ((tags_Within.f a1 a0).bind fun t169 => (if t169 = true then (octroilaw03_TagsWithin.j0 k a0 a1 t162 (a0 != a1)) else (octroilaw03_TagsWithin.j0 k a0 a1 t162 false))))))) else (octroilaw03_TagsWithin.j0 k a0 a1 t162 false))))) = some r := h
  clear h
  replace H := Option.bind_eq_some_iff.mp H
  obtain ⟨t162, A40, H⟩ := H
  replace H : ((tags_Within.f a0 a1).bind fun t163 => ((tags_Within.f a1 a2).bind fun t164 => (if t163 = true then ((tags_Depth.f k a0).bind fun t165 => ((tags_Depth.f k a1).bind fun t166 => (if t165 > t166 then (octroilaw03_TagsWithin.j0 k a0 a1 t162 true) else (if t164 = true then ((tags_Within.f a0 a2).bind fun t167 => (if t167 = true then ((tags_Within.f a1 a0).bind fun t168 => (if t168 = true then (octroilaw03_TagsWithin.j0 k a0 a1 t162 (a0 != a1)) else (octroilaw03_TagsWithin.j0 k a0 a1 t162 false))) else (octroilaw03_TagsWithin.j0 k a0 a1 t162 true))) else ((tags_Within.f a1 a0).bind fun t169 => (if t169 = true then (octroilaw03_TagsWithin.j0 k a0 a1 t162 (a0 != a1)) else (octroilaw03_TagsWithin.j0 k a0 a1 t162 false))))))) else (octroilaw03_TagsWithin.j0 k a0 a1 t162 false)))) = some r := H
  have A4 := Aside0.mk A40
  clear A40
  replace H := Option.bind_eq_some_iff.mp H
  obtain ⟨t163, A50, H⟩ := H
  replace H : ((tags_Within.f a1 a2).bind fun t164 => (if t163 = true then ((tags_Depth.f k a0).bind fun t165 => ((tags_Depth.f k a1).bind fun t166 => (if t165 > t166 then (octroilaw03_TagsWithin.j0 k a0 a1 t162 true) else (if t164 = true then ((tags_Within.f a0 a2).bind fun t167 => (if t167 = true then ((tags_Within.f a1 a0).bind fun t168 => (if t168 = true then (octroilaw03_TagsWithin.j0 k a0 a1 t162 (a0 != a1)) else (octroilaw03_TagsWithin.j0 k a0 a1 t162 false))) else (octroilaw03_TagsWithin.j0 k a0 a1 t162 true))) else ((tags_Within.f a1 a0).bind fun t169 => (if t169 = true then (octroilaw03_TagsWithin.j0 k a0 a1 t162 (a0 != a1)) else (octroilaw03_TagsWithin.j0 k a0 a1 t162 false))))))) else (octroilaw03_TagsWithin.j0 k a0 a1 t162 false))) = some r := H
  have A5 := Aside0.mk A50
  clear A50
  replace H := Option.bind_eq_some_iff.mp H
  obtain ⟨t164, A60, H⟩ := H
  replace H : (if t163 = true then ((tags_Depth.f k a0).bind fun t165 => ((tags_Depth.f k a1).bind fun t166 => (if t165 > t166 then (octroilaw03_TagsWithin.j0 k a0 a1 t162 true) else (if t164 = true then ((tags_Within.f a0 a2).bind fun t167 => (if t167 = true then ((tags_Within.f a1 a0).bind fun t168 => (if t168 = true then (octroilaw03_TagsWithin.j0 k a0 a1 t162 (a0 != a1)) else (octroilaw03_TagsWithin.j0 k a0 a1 t162 false))) else (octroilaw03_TagsWithin.j0 k a0 a1 t162 true))) else ((tags_Within.f a1 a0).bind fun t169 => (if t169 = true then (octroilaw03_TagsWithin.j0 k a0 a1 t162 (a0 != a1)) else (octroilaw03_TagsWithin.j0 k a0 a1 t162 false))))))) else (octroilaw03_TagsWithin.j0 k a0 a1 t162 false)) = some r := H
  have A6 := Aside0.mk A60
  clear A60
  have HC7 := Aside0.mk H
  clear H
  go_enter Try.func7, Try.ntmps7
  go_upto_region 4 with (first | ((with_reducible refine gate_callee (f := 10) rfl ?_); refine goesL_ (some 10) rfl rfl Try.func10 (by kernel_rfl) rfl #[] rfl (by (try simp only [List.map_toArray, List.map_cons, List.map_nil]); first | done | rfl | (simp only [List.length_drop, List.length_take]; rfl)) ?_; (with_reducible refine (octroilaw03_awake.calls k  t162 _ A4.out).mono ?_); rintro e w8 ⟨rfl, hb⟩; refine ⟨_, rfl, ?_⟩; have n0_ := Aside0.mk (below_step (by repeat (first | (with_reducible first | exact HB.out | apply below_alloc | apply pw_below_drewN | apply below_drew1) | exact HB.out)) hb); clear HB; have HB := n0_; clear n0_; (try clear hb); (try clear hb2); (try clear hk); (try clear hi)) | ((with_reducible refine gate_callee (f := 17) rfl ?_); refine goesL_ (some 13) rfl rfl Try.func17 (by kernel_rfl) rfl #[.int .u16 a0, .int .u16 a1] rfl (by (try simp only [List.map_toArray, List.map_cons, List.map_nil]); first | done | rfl | (simp only [List.length_drop, List.length_take]; rfl)) ?_; (with_reducible refine (tags_Within.calls a0 a1 t163 _ A5.out).mono ?_); rintro e w' ⟨rfl, ⟨nd, rfl⟩⟩; refine ⟨_, rfl, ?_⟩) | ((with_reducible refine gate_callee (f := 17) rfl ?_); refine goesL_ (some 16) rfl rfl Try.func17 (by kernel_rfl) rfl #[.int .u16 a1, .int .u16 a2] rfl (by (try simp only [List.map_toArray, List.map_cons, List.map_nil]); first | done | rfl | (simp only [List.length_drop, List.length_take]; rfl)) ?_; (with_reducible refine (tags_Within.calls a1 a2 t164 _ A6.out).mono ?_); rintro e w' ⟨rfl, ⟨nd, rfl⟩⟩; refine ⟨_, rfl, ?_⟩))
  (try simp only [Act.put, List.setIfInBounds_toArray, List.set_cons_zero, List.set_cons_succ])
  go_cut [49] (fun v49 wc => ∃ (kq : Nat) (x49_6 : Bool), v49 = .bool x49_6 ∧ Aside0 (octroilaw03_TagsWithin.j0 kq a0 a1 t162 x49_6 = some r) ∧ Aside0 (kq ≤ k) ∧ Aside0 (Below w.heap.size w wc))
  case first =>
    have H := HC7.out
    clear HC7
    by_cases c9 : t163 = true
    · subst c9
      have H1 : ((tags_Depth.f k a0).bind fun t165 => ((tags_Depth.f k a1).bind fun t166 => (if t165 > t166 then (octroilaw03_TagsWithin.j0 k a0 a1 t162 true) else (if t164 = true then ((tags_Within.f a0 a2).bind fun t167 => (if t167 = true then ((tags_Within.f a1 a0).bind fun t168 => (if t168 = true then (octroilaw03_TagsWithin.j0 k a0 a1 t162 (a0 != a1)) else (octroilaw03_TagsWithin.j0 k a0 a1 t162 false))) else (octroilaw03_TagsWithin.j0 k a0 a1 t162 true))) else ((tags_Within.f a1 a0).bind fun t169 => (if t169 = true then (octroilaw03_TagsWithin.j0 k a0 a1 t162 (a0 != a1)) else (octroilaw03_TagsWithin.j0 k a0 a1 t162 false))))))) = some r := by rw [if_pos rfl] at H; exact H
      clear H
      have H := H1
      clear H1
      replace H := Option.bind_eq_some_iff.mp H
      obtain ⟨t165, A100, H⟩ := H
      replace H : ((tags_Depth.f k a1).bind fun t166 => (if t165 > t166 then (octroilaw03_TagsWithin.j0 k a0 a1 t162 true) else (if t164 = true then ((tags_Within.f a0 a2).bind fun t167 => (if t167 = true then ((tags_Within.f a1 a0).bind fun t168 => (if t168 = true then (octroilaw03_TagsWithin.j0 k a0 a1 t162 (a0 != a1)) else (octroilaw03_TagsWithin.j0 k a0 a1 t162 false))) else (octroilaw03_TagsWithin.j0 k a0 a1 t162 true))) else ((tags_Within.f a1 a0).bind fun t169 => (if t169 = true then (octroilaw03_TagsWithin.j0 k a0 a1 t162 (a0 != a1)) else (octroilaw03_TagsWithin.j0 k a0 a1 t162 false)))))) = some r := H
      have A10 := Aside0.mk A100
      clear A100
      replace H := Option.bind_eq_some_iff.mp H
      obtain ⟨t166, A110, H⟩ := H
      replace H : (if t165 > t166 then (octroilaw03_TagsWithin.j0 k a0 a1 t162 true) else (if t164 = true then ((tags_Within.f a0 a2).bind fun t167 => (if t167 = true then ((tags_Within.f a1 a0).bind fun t168 => (if t168 = true then (octroilaw03_TagsWithin.j0 k a0 a1 t162 (a0 != a1)) else (octroilaw03_TagsWithin.j0 k a0 a1 t162 false))) else (octroilaw03_TagsWithin.j0 k a0 a1 t162 true))) else ((tags_Within.f a1 a0).bind fun t169 => (if t169 = true then (octroilaw03_TagsWithin.j0 k a0 a1 t162 (a0 != a1)) else (octroilaw03_TagsWithin.j0 k a0 a1 t162 false))))) = some r := H
      have A11 := Aside0.mk A110
      clear A110
      by_cases c12 : t165 > t166
      · rw [if_pos c12] at H
        have c12b0 : decide (t166 < t165) = true := decide_eq_true c12
        clear c12
        (first | rw [c12b0] | (simp only [i64_w, i32_w]; rw [c12b0]) | skip)
        have H' := Aside0.mk H
        clear H
        go_wp2_with (first | (go_at_call 15; (with_reducible refine (tags_Depth.calls k a0 t165 _ A10.out).mono ?_); rintro e w' ⟨rfl, ⟨nd, rfl⟩⟩) | (go_at_call 15; (with_reducible refine (tags_Depth.calls k a1 t166 _ A11.out).mono ?_); rintro e w' ⟨rfl, ⟨nd, rfl⟩⟩))
        go_meet
        case rel => exact ⟨_, (true), (by first | rfl | (simp; done) | (simp [*]; done)), H', ⟨by first | omega | exact Nat.le_refl _⟩, ⟨by repeat (first | (with_reducible first | exact HB.out | apply below_alloc | apply pw_below_drewN | apply below_drew1) | exact HB.out)⟩⟩
      · rw [if_neg c12] at H
        have c12b0 : decide (t166 < t165) = false := decide_eq_false c12
        clear c12
        (first | rw [c12b0] | (simp only [i64_w, i32_w]; rw [c12b0]) | skip)
        by_cases c13 : t164 = true
        · subst c13
          have H1 : ((tags_Within.f a0 a2).bind fun t167 => (if t167 = true then ((tags_Within.f a1 a0).bind fun t168 => (if t168 = true then (octroilaw03_TagsWithin.j0 k a0 a1 t162 (a0 != a1)) else (octroilaw03_TagsWithin.j0 k a0 a1 t162 false))) else (octroilaw03_TagsWithin.j0 k a0 a1 t162 true))) = some r := by rw [if_pos rfl] at H; exact H
          clear H
          have H := H1
          clear H1
          replace H := Option.bind_eq_some_iff.mp H
          obtain ⟨t167, A140, H⟩ := H
          replace H : (if t167 = true then ((tags_Within.f a1 a0).bind fun t168 => (if t168 = true then (octroilaw03_TagsWithin.j0 k a0 a1 t162 (a0 != a1)) else (octroilaw03_TagsWithin.j0 k a0 a1 t162 false))) else (octroilaw03_TagsWithin.j0 k a0 a1 t162 true)) = some r := H
          have A14 := Aside0.mk A140
          clear A140
          by_cases c15 : t167 = true
          · subst c15
            have H1 : ((tags_Within.f a1 a0).bind fun t168 => (if t168 = true then (octroilaw03_TagsWithin.j0 k a0 a1 t162 (a0 != a1)) else (octroilaw03_TagsWithin.j0 k a0 a1 t162 false))) = some r := by rw [if_pos rfl] at H; exact H
            clear H
            have H := H1
            clear H1
            replace H := Option.bind_eq_some_iff.mp H
            obtain ⟨t168, A160, H⟩ := H
            replace H : (if t168 = true then (octroilaw03_TagsWithin.j0 k a0 a1 t162 (a0 != a1)) else (octroilaw03_TagsWithin.j0 k a0 a1 t162 false)) = some r := H
            have A16 := Aside0.mk A160
            clear A160
            by_cases c17 : t168 = true
            · subst c17
              have H1 : (octroilaw03_TagsWithin.j0 k a0 a1 t162 (a0 != a1)) = some r := by rw [if_pos rfl] at H; exact H
              clear H
              have H := H1
              clear H1
              have H' := Aside0.mk H
              clear H
              go_wp2_with (first | (go_at_call 15; (with_reducible refine (tags_Depth.calls k a0 t165 _ A10.out).mono ?_); rintro e w' ⟨rfl, ⟨nd, rfl⟩⟩) | (go_at_call 15; (with_reducible refine (tags_Depth.calls k a1 t166 _ A11.out).mono ?_); rintro e w' ⟨rfl, ⟨nd, rfl⟩⟩) | (go_at_call 17; (with_reducible refine (tags_Within.calls a0 a2 true _ A14.out).mono ?_); rintro e w' ⟨rfl, ⟨nd, rfl⟩⟩) | (go_at_call 17; (with_reducible refine (tags_Within.calls a1 a0 true _ A16.out).mono ?_); rintro e w' ⟨rfl, ⟨nd, rfl⟩⟩))
              go_meet
              case rel => exact ⟨_, ((a0 != a1)), (by first | rfl | (simp; done) | (simp [*]; done)), H', ⟨by first | omega | exact Nat.le_refl _⟩, ⟨by repeat (first | (with_reducible first | exact HB.out | apply below_alloc | apply pw_below_drewN | apply below_drew1) | exact HB.out)⟩⟩
            · replace c17 := Bool.eq_false_iff.mpr c17
              subst c17
              have H1 : (octroilaw03_TagsWithin.j0 k a0 a1 t162 false) = some r := by rw [if_neg (show ¬ (false = true) by decide)] at H; exact H
              clear H
              have H := H1
              clear H1
              have H' := Aside0.mk H
              clear H
              go_wp2_with (first | (go_at_call 15; (with_reducible refine (tags_Depth.calls k a0 t165 _ A10.out).mono ?_); rintro e w' ⟨rfl, ⟨nd, rfl⟩⟩) | (go_at_call 15; (with_reducible refine (tags_Depth.calls k a1 t166 _ A11.out).mono ?_); rintro e w' ⟨rfl, ⟨nd, rfl⟩⟩) | (go_at_call 17; (with_reducible refine (tags_Within.calls a0 a2 true _ A14.out).mono ?_); rintro e w' ⟨rfl, ⟨nd, rfl⟩⟩) | (go_at_call 17; (with_reducible refine (tags_Within.calls a1 a0 false _ A16.out).mono ?_); rintro e w' ⟨rfl, ⟨nd, rfl⟩⟩))
              go_meet
              case rel => exact ⟨_, (false), (by first | rfl | (simp; done) | (simp [*]; done)), H', ⟨by first | omega | exact Nat.le_refl _⟩, ⟨by repeat (first | (with_reducible first | exact HB.out | apply below_alloc | apply pw_below_drewN | apply below_drew1) | exact HB.out)⟩⟩
          · replace c15 := Bool.eq_false_iff.mpr c15
            subst c15
            have H1 : (octroilaw03_TagsWithin.j0 k a0 a1 t162 true) = some r := by rw [if_neg (show ¬ (false = true) by decide)] at H; exact H
            clear H
            have H := H1
            clear H1
            have H' := Aside0.mk H
            clear H
            go_wp2_with (first | (go_at_call 15; (with_reducible refine (tags_Depth.calls k a0 t165 _ A10.out).mono ?_); rintro e w' ⟨rfl, ⟨nd, rfl⟩⟩) | (go_at_call 15; (with_reducible refine (tags_Depth.calls k a1 t166 _ A11.out).mono ?_); rintro e w' ⟨rfl, ⟨nd, rfl⟩⟩) | (go_at_call 17; (with_reducible refine (tags_Within.calls a0 a2 false _ A14.out).mono ?_); rintro e w' ⟨rfl, ⟨nd, rfl⟩⟩))
            go_meet
            case rel => exact ⟨_, (true), (by first | rfl | (simp; done) | (simp [*]; done)), H', ⟨by first | omega | exact Nat.le_refl _⟩, ⟨by repeat (first | (with_reducible first | exact HB.out | apply below_alloc | apply pw_below_drewN | apply below_drew1) | exact HB.out)⟩⟩
        · replace c13 := Bool.eq_false_iff.mpr c13
          subst c13
          have H1 : ((tags_Within.f a1 a0).bind fun t169 => (if t169 = true then (octroilaw03_TagsWithin.j0 k a0 a1 t162 (a0 != a1)) else (octroilaw03_TagsWithin.j0 k a0 a1 t162 false))) = some r := by rw [if_neg (show ¬ (false = true) by decide)] at H; exact H
          clear H
          have H := H1
          clear H1
          replace H := Option.bind_eq_some_iff.mp H
          obtain ⟨t169, A180, H⟩ := H
          replace H : (if t169 = true then (octroilaw03_TagsWithin.j0 k a0 a1 t162 (a0 != a1)) else (octroilaw03_TagsWithin.j0 k a0 a1 t162 false)) = some r := H
          have A18 := Aside0.mk A180
          clear A180
          by_cases c19 : t169 = true
          · subst c19
            have H1 : (octroilaw03_TagsWithin.j0 k a0 a1 t162 (a0 != a1)) = some r := by rw [if_pos rfl] at H; exact H
            clear H
            have H := H1
            clear H1
            have H' := Aside0.mk H
            clear H
            go_wp2_with (first | (go_at_call 15; (with_reducible refine (tags_Depth.calls k a0 t165 _ A10.out).mono ?_); rintro e w' ⟨rfl, ⟨nd, rfl⟩⟩) | (go_at_call 15; (with_reducible refine (tags_Depth.calls k a1 t166 _ A11.out).mono ?_); rintro e w' ⟨rfl, ⟨nd, rfl⟩⟩) | (go_at_call 17; (with_reducible refine (tags_Within.calls a1 a0 true _ A18.out).mono ?_); rintro e w' ⟨rfl, ⟨nd, rfl⟩⟩))
            go_meet
            case rel => exact ⟨_, ((a0 != a1)), (by first | rfl | (simp; done) | (simp [*]; done)), H', ⟨by first | omega | exact Nat.le_refl _⟩, ⟨by repeat (first | (with_reducible first | exact HB.out | apply below_alloc | apply pw_below_drewN | apply below_drew1) | exact HB.out)⟩⟩
          · replace c19 := Bool.eq_false_iff.mpr c19
            subst c19
            have H1 : (octroilaw03_TagsWithin.j0 k a0 a1 t162 false) = some r := by rw [if_neg (show ¬ (false = true) by decide)] at H; exact H
            clear H
            have H := H1
            clear H1
            have H' := Aside0.mk H
            clear H
            go_wp2_with (first | (go_at_call 15; (with_reducible refine (tags_Depth.calls k a0 t165 _ A10.out).mono ?_); rintro e w' ⟨rfl, ⟨nd, rfl⟩⟩) | (go_at_call 15; (with_reducible refine (tags_Depth.calls k a1 t166 _ A11.out).mono ?_); rintro e w' ⟨rfl, ⟨nd, rfl⟩⟩) | (go_at_call 17; (with_reducible refine (tags_Within.calls a1 a0 false _ A18.out).mono ?_); rintro e w' ⟨rfl, ⟨nd, rfl⟩⟩))
            go_meet
            case rel => exact ⟨_, (false), (by first | rfl | (simp; done) | (simp [*]; done)), H', ⟨by first | omega | exact Nat.le_refl _⟩, ⟨by repeat (first | (with_reducible first | exact HB.out | apply below_alloc | apply pw_below_drewN | apply below_drew1) | exact HB.out)⟩⟩
    · replace c9 := Bool.eq_false_iff.mpr c9
      subst c9
      have H1 : (octroilaw03_TagsWithin.j0 k a0 a1 t162 false) = some r := by rw [if_neg (show ¬ (false = true) by decide)] at H; exact H
      clear H
      have H := H1
      clear H1
      have H' := Aside0.mk H
      clear H
      go_wp2
      go_meet
      case rel => exact ⟨_, (false), (by first | rfl | (simp; done) | (simp [*]; done)), H', ⟨by first | omega | exact Nat.le_refl _⟩, ⟨by repeat (first | (with_reducible first | exact HB.out | apply below_alloc | apply pw_below_drewN | apply below_drew1) | exact HB.out)⟩⟩
  case rest =>
    clear HC7
    try clear c1
    try clear p2
    try clear c7
    try clear c9
    try clear c10
    try clear c12
    try clear c12b0
    try clear c13
    try clear c15
    try clear c17
    try clear c19
    obtain ⟨kq, x49_6, rfl, HA, HJ6, HB⟩ := hcut
    cases kq with
    | zero => exact absurd HA.out (by simp [octroilaw03_TagsWithin.j0])
    | succ kj6 =>
      have H := HA.out
      clear HA
      simp only [octroilaw03_TagsWithin.j0] at H
      by_cases c20 : x49_6 = true
      · subst c20
        have H1 : (some false) = some r := by rw [if_pos rfl] at H; exact H
        clear H
        have H := H1
        clear H1
        obtain rfl := Option.some.inj H
        go_wp2
        go_ret
        exact ⟨by first | rfl | (simp [errW_none, errW_some] <;> rfl) | (simp [*, errW_none, errW_some] <;> rfl), by repeat (first | (with_reducible first | exact HB.out | apply below_alloc | apply pw_below_drewN | apply below_drew1) | exact HB.out)⟩
      · replace c20 := Bool.eq_false_iff.mpr c20
        subst c20
        have H1 : (if t162 = true then ((tags_Within.f a0 (Go.bits .or .u16 a0 a1)).bind fun t170 => (if t170 = true then ((tags_Within.f (Go.bits .and .u16 a0 a1) a0).bind fun t171 => (if t171 = true then ((tags_Within.f 0 a0).bind fun t172 => (some t172)) else (some false))) else (some false))) else (some false)) = some r := by rw [if_neg (show ¬ (false = true) by decide)] at H; exact H
        clear H
        have H := H1
        clear H1
        by_cases c21 : t162 = true
        · subst c21
          have H1 : ((tags_Within.f a0 (Go.bits .or .u16 a0 a1)).bind fun t170 => (if t170 = true then ((tags_Within.f (Go.bits .and .u16 a0 a1) a0).bind fun t171 => (if t171 = true then ((tags_Within.f 0 a0).bind fun t172 => (some t172)) else (some false))) else (some false))) = some r := by rw [if_pos rfl] at H; exact H
          clear H
          have H := H1
          clear H1
          replace H := Option.bind_eq_some_iff.mp H
          obtain ⟨t170, A220, H⟩ := H
          replace H : (if t170 = true then ((tags_Within.f (Go.bits .and .u16 a0 a1) a0).bind fun t171 => (if t171 = true then ((tags_Within.f 0 a0).bind fun t172 => (some t172)) else (some false))) else (some false)) = some r := H
          have A22 := Aside0.mk A220
          clear A220
          by_cases c23 : t170 = true
          · subst c23
            have H1 : ((tags_Within.f (Go.bits .and .u16 a0 a1) a0).bind fun t171 => (if t171 = true then ((tags_Within.f 0 a0).bind fun t172 => (some t172)) else (some false))) = some r := by rw [if_pos rfl] at H; exact H
            clear H
            have H := H1
            clear H1
            replace H := Option.bind_eq_some_iff.mp H
            obtain ⟨t171, A240, H⟩ := H
            replace H : (if t171 = true then ((tags_Within.f 0 a0).bind fun t172 => (some t172)) else (some false)) = some r := H
            have A24 := Aside0.mk A240
            clear A240
            by_cases c25 : t171 = true
            · subst c25
              have H1 : ((tags_Within.f 0 a0).bind fun t172 => (some t172)) = some r := by rw [if_pos rfl] at H; exact H
              clear H
              have H := H1
              clear H1
              replace H := Option.bind_eq_some_iff.mp H
              obtain ⟨t172, A260, H⟩ := H
              replace H : (some t172) = some r := H
              have A26 := Aside0.mk A260
              clear A260
              obtain rfl := Option.some.inj H
              go_wp2_with (first | (go_at_call 17; (with_reducible refine (tags_Within.calls a0 (Go.bits .or .u16 a0 a1) true _ A22.out).mono ?_); rintro e w' ⟨rfl, ⟨nd, rfl⟩⟩) | (go_at_call 17; (with_reducible refine (tags_Within.calls (Go.bits .and .u16 a0 a1) a0 true _ A24.out).mono ?_); rintro e w' ⟨rfl, ⟨nd, rfl⟩⟩) | (go_at_call 17; (with_reducible refine (tags_Within.calls 0 a0 t172 _ A26.out).mono ?_); rintro e w' ⟨rfl, ⟨nd, rfl⟩⟩))
              go_ret
              exact ⟨by first | rfl | (simp [errW_none, errW_some] <;> rfl) | (simp [*, errW_none, errW_some] <;> rfl), by repeat (first | (with_reducible first | exact HB.out | apply below_alloc | apply pw_below_drewN | apply below_drew1) | exact HB.out)⟩
            · replace c25 := Bool.eq_false_iff.mpr c25
              subst c25
              have H1 : (some false) = some r := by rw [if_neg (show ¬ (false = true) by decide)] at H; exact H
              clear H
              have H := H1
              clear H1
              obtain rfl := Option.some.inj H
              go_wp2_with (first | (go_at_call 17; (with_reducible refine (tags_Within.calls a0 (Go.bits .or .u16 a0 a1) true _ A22.out).mono ?_); rintro e w' ⟨rfl, ⟨nd, rfl⟩⟩) | (go_at_call 17; (with_reducible refine (tags_Within.calls (Go.bits .and .u16 a0 a1) a0 false _ A24.out).mono ?_); rintro e w' ⟨rfl, ⟨nd, rfl⟩⟩))
              go_ret
              exact ⟨by first | rfl | (simp [errW_none, errW_some] <;> rfl) | (simp [*, errW_none, errW_some] <;> rfl), by repeat (first | (with_reducible first | exact HB.out | apply below_alloc | apply pw_below_drewN | apply below_drew1) | exact HB.out)⟩
          · replace c23 := Bool.eq_false_iff.mpr c23
            subst c23
            have H1 : (some false) = some r := by rw [if_neg (show ¬ (false = true) by decide)] at H; exact H
            clear H
            have H := H1
            clear H1
            obtain rfl := Option.some.inj H
            go_wp2_with (first | (go_at_call 17; (with_reducible refine (tags_Within.calls a0 (Go.bits .or .u16 a0 a1) false _ A22.out).mono ?_); rintro e w' ⟨rfl, ⟨nd, rfl⟩⟩))
            go_ret
            exact ⟨by first | rfl | (simp [errW_none, errW_some] <;> rfl) | (simp [*, errW_none, errW_some] <;> rfl), by repeat (first | (with_reducible first | exact HB.out | apply below_alloc | apply pw_below_drewN | apply below_drew1) | exact HB.out)⟩
        · replace c21 := Bool.eq_false_iff.mpr c21
          subst c21
          have H1 : (some false) = some r := by rw [if_neg (show ¬ (false = true) by decide)] at H; exact H
          clear H
          have H := H1
          clear H1
          obtain rfl := Option.some.inj H
          go_wp2
          go_ret
          exact ⟨by first | rfl | (simp [errW_none, errW_some] <;> rfl) | (simp [*, errW_none, errW_some] <;> rfl), by repeat (first | (with_reducible first | exact HB.out | apply below_alloc | apply pw_below_drewN | apply below_drew1) | exact HB.out)⟩

/-- THE ONE PURE STATEMENT of octroilaw03_TagsWithin: yours. -/
def octroilaw03_TagsWithin.Pure : Prop := ∀ (a0 : Int) (a1 : Int) (a2 : Int), (Lit.int .u16 a0).wf = true → (Lit.int .u16 a1).wf = true → (Lit.int .u16 a2).wf = true → ∃ k, octroilaw03_TagsWithin.f k a0 a1 a2 = some true
theorem octroilaw03_TagsWithin.walk (P : octroilaw03_TagsWithin.Pure) (a0 : Int) (a1 : Int) (a2 : Int) (w : World) (w0 : (Lit.int .u16 a0).wf = true) (w1 : (Lit.int .u16 a1).wf = true) (w2 : (Lit.int .u16 a2).wf = true) :
    Calls Try.prog 7 #[.int .u16 a0, .int .u16 a1, .int .u16 a2] w fun e w' => e = .returned (.bool true) ∧ Below w.heap.size w w' := by
  obtain ⟨k, h⟩ := P a0 a1 a2 w0 w1 w2
  refine (octroilaw03_TagsWithin.calls k a0 a1 a2 true w h).mono ?_
  rintro e w' ⟨rfl, hd⟩
  exact ⟨rfl, hd⟩

/-! ### tags_All: function 18 -/
def tags_All.l0 : Nat → Int → List Int → Int → Option (List Int)
  | 0, _, _, _ => none
  | k + 1, x0, x3, x5 => if x5 < 16 then ((tags_Has.f x0 x5).bind fun t173 => (if t173 = true then (if x3.length < 17592186044416 then (tags_All.l0 k x0 (x3 ++ [x5]) (wrap64 (x5 + 1))) else (none)) else (tags_All.l0 k x0 x3 (wrap64 (x5 + 1))))) else (some x3)
def tags_All.f (k : Nat) (a0 : Int) : Option (List Int) := tags_All.l0 k a0 ([] : List Int) 0
theorem tags_All.mono_l : ∀ k, (∀ y0 y1 y2, LeO (tags_All.l0 k y0 y1 y2) (tags_All.l0 (k + 1) y0 y1 y2))
  | 0 => fun _ _ _ r h => by simp [tags_All.l0] at h
  | k + 1 => by
    have ih0 := tags_All.mono_l k
    · intro y0 y1 y2
      unfold tags_All.l0
      repeat' first
      | (with_reducible exact ih0 _ _ _)
      | (with_reducible exact LeO.refl _)
      | (with_reducible exact LeO.none _)
      | (with_reducible refine LeO.ite ?_ ?_)
      | (with_reducible refine LeO.bind ?_ (fun _ => ?_))
      | exact ih0 _ _ _
      | exact LeO.none _
      | refine LeO.ite ?_ ?_
      | refine LeO.bind ?_ (fun _ => ?_)
theorem tags_All.mono : ∀ a0 k, LeO (tags_All.f k a0) (tags_All.f (k + 1) a0) := by
  intro a0 k
  have ih0 := tags_All.mono_l k
  unfold tags_All.f
  repeat' first
      | (with_reducible exact ih0 _ _ _)
      | (with_reducible exact LeO.refl _)
      | (with_reducible exact LeO.none _)
      | (with_reducible refine LeO.ite ?_ ?_)
      | (with_reducible refine LeO.bind ?_ (fun _ => ?_))
      | exact ih0 _ _ _
      | exact LeO.none _
      | refine LeO.ite ?_ ?_
      | refine LeO.bind ?_ (fun _ => ?_)
set_option maxHeartbeats 8000000 in
set_option maxRecDepth 100000 in
theorem tags_All.calls (k : Nat) (a0 : Int) (r : List Int) (w : World) (h : tags_All.f k a0 = some r) :
    Calls Try.prog 18 #[.int .u16 a0] w fun e w' => ∃ v0_ : Value, e = .returned (v0_) ∧ Kd.R (Kd.int .i64) 3 w' w.heap.size (fun _ => True) v0_ r ∧ Below w.heap.size w w' := by
  have HB := Aside0.mk (Below.refl w.heap.size w)
  have H : (tags_All.l0 k a0 ([] : List Int) 0) = some r := h
  clear h
  have H' := Aside0.mk H
  clear H
  go_enter Try.func18, Try.ntmps18
  go_wp2
  go_loopg [3, 5] k (fun kq v3 v5 w' => ∃ (x3_1 : List Int) (x5_1 : Int), v5 = .int .i64 x5_1 ∧ Aside0 (tags_All.l0 kq a0 x3_1 x5_1 = some r) ∧ Aside0 (kq ≤ k) ∧ Aside0 (Kd.R (Kd.int .i64) 3 w' w.heap.size (fun _ => True) v3 x3_1) ∧ Aside0 (Below w.heap.size w w'))
  case atStart => exact ⟨(([] : List Int)), (0), (by first | rfl | (simp; done) | (simp [*]; done)), H', ⟨Nat.le_refl _⟩, ⟨by first | exact Kd.R_nil _ _ _ _ _ | exact Kd.N_nil _ _ _ _ _ | exact Kd.V_nil _ _ _ _ _ | exact Kd.Q_nil _ _ _ _ _ | exact Kd.S_nil _ _ _ _ _⟩, ⟨by repeat (first | (with_reducible first | exact HB.out | apply below_alloc | apply pw_below_drewN | apply below_drew1) | exact HB.out)⟩⟩
  case round =>
    clear H'
    try clear c1
    obtain ⟨x3_1, x5_1, rfl, HA, HK1, HO_3, HB⟩ := hrel
    cases gk with
    | zero => exact absurd HA.out (by simp [tags_All.l0])
    | succ k1 =>
      have H := HA.out
      clear HA
      simp only [tags_All.l0] at H
      by_cases c2 : x5_1 < 16
      · rw [if_pos c2] at H
        have c2b0 : decide (x5_1 < 16) = true := decide_eq_true c2
        clear c2
        replace H := Option.bind_eq_some_iff.mp H
        obtain ⟨t173, A30, H⟩ := H
        replace H : (if t173 = true then (if x3_1.length < 17592186044416 then (tags_All.l0 k1 a0 (x3_1 ++ [x5_1]) (wrap64 (x5_1 + 1))) else (none)) else (tags_All.l0 k1 a0 x3_1 (wrap64 (x5_1 + 1)))) = some r := H
        have A3 := Aside0.mk A30
        clear A30
        by_cases c4 : t173 = true
        · subst c4
          have H1 : (if x3_1.length < 17592186044416 then (tags_All.l0 k1 a0 (x3_1 ++ [x5_1]) (wrap64 (x5_1 + 1))) else (none)) = some r := by rw [if_pos rfl] at H; exact H
          clear H
          have H := H1
          clear H1
          by_cases c5 : x3_1.length < 17592186044416
          · rw [if_pos c5] at H
            have LMc5 := Aside0.mk c5
            clear c5
            obtain ⟨y174, hy174⟩ : ∃ y_ : List Int, y_ = (x3_1 ++ [x5_1]) := ⟨_, rfl⟩
            replace H : (tags_All.l0 k1 a0 y174 (wrap64 (x5_1 + 1))) = some r := by first | (rw [hy174]; with_reducible exact H) | (have H2_ := (Option.bind_some _ _).symm.trans H; rw [hy174]; with_reducible exact H2_) | (have H2_ := (Option.bind_some _ _).symm.trans H; with_reducible exact H2_) | with_reducible exact H | (rw [hy174]; exact H) | exact H
            have Ny174 := Aside0.mk hy174
            clear hy174
            have H' := Aside0.mk H
            clear H
            go_wp2_with (first | ((with_reducible refine gate_callee (f := 16) rfl ?_); refine goesL_ (some 10) rfl rfl Try.func16 (by kernel_rfl) rfl #[.int .u16 a0, .int .i64 x5_1] rfl (by (try simp only [List.map_toArray, List.map_cons, List.map_nil]); first | done | rfl | (simp only [List.length_drop, List.length_take]; rfl)) ?_; (with_reducible refine (tags_Has.calls a0 x5_1 true _ A3.out).mono ?_); rintro e w' ⟨rfl, ⟨nd, rfl⟩⟩; refine ⟨_, rfl, ?_⟩) | ((with_reducible refine gate_builtin (b := .append) (xs := #[.tmp 11, .tmp 13]) rfl ?_); at_builtin; refine Kd.R_append (Kd.int .i64) (w0 := w) w.heap.size rfl (.tmp 11) (.tmp 13) 23 3 (.int .i64 0) 8 rfl Try.underlying23 info3 rfl (by decide) (by omega) u3 x3_1 x5_1 [.int .i64 x5_1] (fun _ => True) (fun _ => False) rfl rfl ?aP (fun _ hk => hk.elim) ?aF ?aO ?aB ?aS ?aL ?_; (case aP => exact rfl); (case aB => exact (by repeat (first | (with_reducible first | exact HB.out | apply below_alloc | apply pw_below_drewN | apply below_drew1) | exact HB.out))); (case aF => exact (fun _ _ => trivial)); (case aO => exact (by (with_reducible repeat (first | apply Kd.R_alloc | apply Kd.R_drewN | apply Kd.R_drew)); exact HO_3.out)); (case aS => exact (below_size (by repeat (first | (with_reducible first | exact HB.out | apply below_alloc | apply pw_below_drewN | apply below_drew1) | exact HB.out)))); (case aL => have := LMc5.out; omega); intro v175 w6 ho hb hg hat; rw [← Ny174.out] at ho; have n0_ := Aside0.mk (hb); have n1_ := Aside0.mk (ho); clear HB; clear HO_3; have HB := n0_; have HO176 := n1_; clear n0_ n1_; clear ho hb hg hat))
            go_roundg k1
            case measure => have := HK1.out; omega
            case rel => exact ⟨(y174), (wrap64 (x5_1 + 1)), (by first | rfl | (simp; done) | (simp [*]; done)), H', ⟨by have := HK1.out; omega⟩, ⟨by (with_reducible repeat (first | apply Kd.R_alloc | apply Kd.R_drewN | apply Kd.R_drew)); exact HO176.out⟩, ⟨by repeat (first | (with_reducible first | exact HB.out | apply below_alloc | apply pw_below_drewN | apply below_drew1) | exact HB.out)⟩⟩
          · rw [if_neg c5] at H
            exact absurd H (by simp)
        · replace c4 := Bool.eq_false_iff.mpr c4
          subst c4
          have H1 : (tags_All.l0 k1 a0 x3_1 (wrap64 (x5_1 + 1))) = some r := by rw [if_neg (show ¬ (false = true) by decide)] at H; exact H
          clear H
          have H := H1
          clear H1
          have H' := Aside0.mk H
          clear H
          go_wp2_with (first | ((with_reducible refine gate_callee (f := 16) rfl ?_); refine goesL_ (some 10) rfl rfl Try.func16 (by kernel_rfl) rfl #[.int .u16 a0, .int .i64 x5_1] rfl (by (try simp only [List.map_toArray, List.map_cons, List.map_nil]); first | done | rfl | (simp only [List.length_drop, List.length_take]; rfl)) ?_; (with_reducible refine (tags_Has.calls a0 x5_1 false _ A3.out).mono ?_); rintro e w' ⟨rfl, ⟨nd, rfl⟩⟩; refine ⟨_, rfl, ?_⟩))
          go_roundg k1
          case measure => have := HK1.out; omega
          case rel => exact ⟨(x3_1), (wrap64 (x5_1 + 1)), (by first | rfl | (simp; done) | (simp [*]; done)), H', ⟨by have := HK1.out; omega⟩, ⟨by (with_reducible repeat (first | apply Kd.R_alloc | apply Kd.R_drewN | apply Kd.R_drew)); exact HO_3.out⟩, ⟨by repeat (first | (with_reducible first | exact HB.out | apply below_alloc | apply pw_below_drewN | apply below_drew1) | exact HB.out)⟩⟩
      · rw [if_neg c2] at H
        have c2b0 : decide (x5_1 < 16) = false := decide_eq_false c2
        clear c2
        obtain rfl := Option.some.inj H
        go_wp2
        go_ret
        exact ⟨_, by first | rfl | (simp [errW_none, errW_some] <;> rfl) | (simp [*, errW_none, errW_some] <;> rfl), by (with_reducible repeat (first | apply Kd.R_alloc | apply Kd.R_drewN | apply Kd.R_drew)); exact HO_3.out, by repeat (first | (with_reducible first | exact HB.out | apply below_alloc | apply pw_below_drewN | apply below_drew1) | exact HB.out)⟩

/-! ### octroilaw03_TagsBack: function 8 -/
def octroilaw03_TagsBack.f (k : Nat) (a0 : Int) : Option (Bool) := (octroilaw03_awake.f k).bind fun t177 => ((tags_All.f k a0).bind fun t178 => ((tags_Of.f k t178).bind fun bt181 => (if t177 = true then (if bt181.2 = 0 then (if bt181.1 = a0 then ((tags_Depth.f k a0).bind fun t183 => (some ((t178.length : Int) == t183))) else (some false)) else (some false)) else (some false))))
theorem octroilaw03_TagsBack.mono : ∀ a0 k, LeO (octroilaw03_TagsBack.f k a0) (octroilaw03_TagsBack.f (k + 1) a0) := by
  intro a0 k
  unfold octroilaw03_TagsBack.f
  repeat' first
      | (with_reducible exact octroilaw03_awake.mono _)
      | (with_reducible exact tags_All.mono _ _)
      | (with_reducible exact tags_Depth.mono _ _)
      | (with_reducible exact tags_Of.mono _ _)
      | (with_reducible exact LeO.refl _)
      | (with_reducible exact LeO.none _)
      | (with_reducible refine LeO.ite ?_ ?_)
      | (with_reducible refine LeO.bind ?_ (fun _ => ?_))
      | exact octroilaw03_awake.mono _
      | exact tags_All.mono _ _
      | exact tags_Depth.mono _ _
      | exact tags_Of.mono _ _
      | exact LeO.none _
      | refine LeO.ite ?_ ?_
      | refine LeO.bind ?_ (fun _ => ?_)
set_option maxHeartbeats 8000000 in
set_option maxRecDepth 100000 in
theorem octroilaw03_TagsBack.calls (k : Nat) (a0 : Int) (r : Bool) (w : World) (h : octroilaw03_TagsBack.f k a0 = some r) :
    Calls Try.prog 8 #[.int .u16 a0] w fun e w' => e = .returned (.bool r) ∧ Below w.heap.size w w' := by
  have HB := Aside0.mk (Below.refl w.heap.size w)
  have H : ((octroilaw03_awake.f k).bind fun t177 => ((tags_All.f k a0).bind fun t178 => ((tags_Of.f k t178).bind fun bt181 => (if t177 = true then (if bt181.2 = 0 then (if bt181.1 = a0 then ((tags_Depth.f k a0).bind fun t183 => (some ((t178.length : Int) == t183))) else (some false)) else (some false)) else (some false))))) = some r := h
  clear h
  replace H := Option.bind_eq_some_iff.mp H
  obtain ⟨t177, A20, H⟩ := H
  replace H : ((tags_All.f k a0).bind fun t178 => ((tags_Of.f k t178).bind fun bt181 => (if t177 = true then (if bt181.2 = 0 then (if bt181.1 = a0 then ((tags_Depth.f k a0).bind fun t183 => (some ((t178.length : Int) == t183))) else (some false)) else (some false)) else (some false)))) = some r := H
  have A2 := Aside0.mk A20
  clear A20
  replace H := Option.bind_eq_some_iff.mp H
  obtain ⟨t178, A30, H⟩ := H
  replace H : ((tags_Of.f k t178).bind fun bt181 => (if t177 = true then (if bt181.2 = 0 then (if bt181.1 = a0 then ((tags_Depth.f k a0).bind fun t183 => (some ((t178.length : Int) == t183))) else (some false)) else (some false)) else (some false))) = some r := H
  have A3 := Aside0.mk A30
  clear A30
  replace H := Option.bind_eq_some_iff.mp H
  obtain ⟨⟨t181, t182⟩, A40, H⟩ := H
  replace H : (if t177 = true then (if t182 = 0 then (if t181 = a0 then ((tags_Depth.f k a0).bind fun t183 => (some ((t178.length : Int) == t183))) else (some false)) else (some false)) else (some false)) = some r := H
  have A4 := Aside0.mk A40
  clear A40
  by_cases c5 : t177 = true
  · subst c5
    have H1 : (if t182 = 0 then (if t181 = a0 then ((tags_Depth.f k a0).bind fun t183 => (some ((t178.length : Int) == t183))) else (some false)) else (some false)) = some r := by rw [if_pos rfl] at H; exact H
    clear H
    have H := H1
    clear H1
    by_cases c6 : t182 = 0
    · rw [if_pos c6] at H
      have c6b0 : (t182 == 0) = true := beq_iff_eq.mpr c6
      have c6b1 : (t182 != 0) = false := bne_eq_false_iff_eq.mpr c6
      clear c6
      by_cases c7 : t181 = a0
      · rw [if_pos c7] at H
        have c7b0 : (t181 == a0) = true := beq_iff_eq.mpr c7
        have c7b1 : (t181 != a0) = false := bne_eq_false_iff_eq.mpr c7
        clear c7
        replace H := Option.bind_eq_some_iff.mp H
        obtain ⟨t183, A80, H⟩ := H
        replace H : (some ((t178.length : Int) == t183)) = some r := H
        have A8 := Aside0.mk A80
        clear A80
        obtain rfl := Option.some.inj H
        go_enter Try.func8, Try.ntmps8
        go_wp2_with (first | ((with_reducible refine gate_callee (f := 10) rfl ?_); refine goesL_ (some 7) rfl rfl Try.func10 (by kernel_rfl) rfl #[] rfl (by (try simp only [List.map_toArray, List.map_cons, List.map_nil]); first | done | rfl | (simp only [List.length_drop, List.length_take]; rfl)) ?_; (with_reducible refine (octroilaw03_awake.calls k  true _ A2.out).mono ?_); rintro e w9 ⟨rfl, hb⟩; refine ⟨_, rfl, ?_⟩; have n0_ := Aside0.mk (below_step (by repeat (first | (with_reducible first | exact HB.out | apply below_alloc | apply pw_below_drewN | apply below_drew1) | exact HB.out)) hb); clear HB; have HB := n0_; clear n0_; (try clear hb); (try clear hb2); (try clear hk); (try clear hi)) | ((with_reducible refine gate_callee (f := 18) rfl ?_); refine goesL_ (some 9) rfl rfl Try.func18 (by kernel_rfl) rfl #[.int .u16 a0] rfl (by (try simp only [List.map_toArray, List.map_cons, List.map_nil]); first | done | rfl | (simp only [List.length_drop, List.length_take]; rfl)) ?_; (with_reducible refine (tags_All.calls k a0 t178 _ A3.out).mono ?_); rintro e w10 ⟨v179, rfl, ho0, hb⟩; refine ⟨_, rfl, ?_⟩; have n0_ := Aside0.mk (Kd.R_lower ho0 (below_size (by repeat (first | (with_reducible first | exact HB.out | apply below_alloc | apply pw_below_drewN | apply below_drew1) | exact HB.out)))); have n1_ := Aside0.mk (below_step (by repeat (first | (with_reducible first | exact HB.out | apply below_alloc | apply pw_below_drewN | apply below_drew1) | exact HB.out)) hb); clear HB; have HO180 := n0_; have HB := n1_; clear n0_ n1_; (try clear hb); (try clear hb2); (try clear hk); (try clear hi); (try clear ho0); obtain ⟨Ao11, co11, eo11⟩ := Kd.R_slice HO180.out; subst eo11) | ((with_reducible refine gate_callee (f := 13) rfl ?_); refine goesL_ (some 12) rfl rfl Try.func13 (by kernel_rfl) rfl #[.slice Ao11 t178.length co11] rfl (by (try simp only [List.map_toArray, List.map_cons, List.map_nil]); first | done | rfl | (simp only [List.length_drop, List.length_take]; rfl)) ?_; (with_reducible refine (tags_Of.calls k _ _ t178 t181 t182 _ ?side1 ?side2 A4.out).mono ?_); (case side1 => repeat (first | exact (Kd.R_reads' HO180.out).2.2 | (with_reducible refine Kd.C_alloc ?_ _) | (with_reducible refine Kd.C_drewN ?_ _) | (with_reducible refine Kd.C_drew ?_))); (case side2 => exact (Kd.R_reads' HO180.out).2.1); rintro e w' ⟨rfl, ⟨nd, rfl⟩⟩; refine ⟨_, rfl, ?_⟩) | (go_at_call 15; (with_reducible refine (tags_Depth.calls k a0 t183 _ A8.out).mono ?_); rintro e w' ⟨rfl, ⟨nd, rfl⟩⟩))
        go_ret
        exact ⟨by first | rfl | (simp [errW_none, errW_some] <;> rfl) | (simp [*, errW_none, errW_some] <;> rfl), by repeat (first | (with_reducible first | exact HB.out | apply below_alloc | apply pw_below_drewN | apply below_drew1) | exact HB.out)⟩
      · rw [if_neg c7] at H
        have c7b0 : (t181 == a0) = false := beq_eq_false_iff_ne.mpr c7
        have c7b1 : (t181 != a0) = true := bne_iff_ne.mpr c7
        obtain rfl := Option.some.inj H
        go_enter Try.func8, Try.ntmps8
        go_wp2_with (first | ((with_reducible refine gate_callee (f := 10) rfl ?_); refine goesL_ (some 7) rfl rfl Try.func10 (by kernel_rfl) rfl #[] rfl (by (try simp only [List.map_toArray, List.map_cons, List.map_nil]); first | done | rfl | (simp only [List.length_drop, List.length_take]; rfl)) ?_; (with_reducible refine (octroilaw03_awake.calls k  true _ A2.out).mono ?_); rintro e w12 ⟨rfl, hb⟩; refine ⟨_, rfl, ?_⟩; have n0_ := Aside0.mk (below_step (by repeat (first | (with_reducible first | exact HB.out | apply below_alloc | apply pw_below_drewN | apply below_drew1) | exact HB.out)) hb); clear HB; have HB := n0_; clear n0_; (try clear hb); (try clear hb2); (try clear hk); (try clear hi)) | ((with_reducible refine gate_callee (f := 18) rfl ?_); refine goesL_ (some 9) rfl rfl Try.func18 (by kernel_rfl) rfl #[.int .u16 a0] rfl (by (try simp only [List.map_toArray, List.map_cons, List.map_nil]); first | done | rfl | (simp only [List.length_drop, List.length_take]; rfl)) ?_; (with_reducible refine (tags_All.calls k a0 t178 _ A3.out).mono ?_); rintro e w13 ⟨v179, rfl, ho0, hb⟩; refine ⟨_, rfl, ?_⟩; have n0_ := Aside0.mk (Kd.R_lower ho0 (below_size (by repeat (first | (with_reducible first | exact HB.out | apply below_alloc | apply pw_below_drewN | apply below_drew1) | exact HB.out)))); have n1_ := Aside0.mk (below_step (by repeat (first | (with_reducible first | exact HB.out | apply below_alloc | apply pw_below_drewN | apply below_drew1) | exact HB.out)) hb); clear HB; have HO180 := n0_; have HB := n1_; clear n0_ n1_; (try clear hb); (try clear hb2); (try clear hk); (try clear hi); (try clear ho0); obtain ⟨Ao14, co14, eo14⟩ := Kd.R_slice HO180.out; subst eo14) | ((with_reducible refine gate_callee (f := 13) rfl ?_); refine goesL_ (some 12) rfl rfl Try.func13 (by kernel_rfl) rfl #[.slice Ao14 t178.length co14] rfl (by (try simp only [List.map_toArray, List.map_cons, List.map_nil]); first | done | rfl | (simp only [List.length_drop, List.length_take]; rfl)) ?_; (with_reducible refine (tags_Of.calls k _ _ t178 t181 t182 _ ?side1 ?side2 A4.out).mono ?_); (case side1 => repeat (first | exact (Kd.R_reads' HO180.out).2.2 | (with_reducible refine Kd.C_alloc ?_ _) | (with_reducible refine Kd.C_drewN ?_ _) | (with_reducible refine Kd.C_drew ?_))); (case side2 => exact (Kd.R_reads' HO180.out).2.1); rintro e w' ⟨rfl, ⟨nd, rfl⟩⟩; refine ⟨_, rfl, ?_⟩))
        go_ret
        exact ⟨by first | rfl | (simp [errW_none, errW_some] <;> rfl) | (simp [*, errW_none, errW_some] <;> rfl), by repeat (first | (with_reducible first | exact HB.out | apply below_alloc | apply pw_below_drewN | apply below_drew1) | exact HB.out)⟩
    · rw [if_neg c6] at H
      have c6b0 : (t182 == 0) = false := beq_eq_false_iff_ne.mpr c6
      have c6b1 : (t182 != 0) = true := bne_iff_ne.mpr c6
      obtain rfl := Option.some.inj H
      go_enter Try.func8, Try.ntmps8
      go_wp2_with (first | ((with_reducible refine gate_callee (f := 10) rfl ?_); refine goesL_ (some 7) rfl rfl Try.func10 (by kernel_rfl) rfl #[] rfl (by (try simp only [List.map_toArray, List.map_cons, List.map_nil]); first | done | rfl | (simp only [List.length_drop, List.length_take]; rfl)) ?_; (with_reducible refine (octroilaw03_awake.calls k  true _ A2.out).mono ?_); rintro e w15 ⟨rfl, hb⟩; refine ⟨_, rfl, ?_⟩; have n0_ := Aside0.mk (below_step (by repeat (first | (with_reducible first | exact HB.out | apply below_alloc | apply pw_below_drewN | apply below_drew1) | exact HB.out)) hb); clear HB; have HB := n0_; clear n0_; (try clear hb); (try clear hb2); (try clear hk); (try clear hi)) | ((with_reducible refine gate_callee (f := 18) rfl ?_); refine goesL_ (some 9) rfl rfl Try.func18 (by kernel_rfl) rfl #[.int .u16 a0] rfl (by (try simp only [List.map_toArray, List.map_cons, List.map_nil]); first | done | rfl | (simp only [List.length_drop, List.length_take]; rfl)) ?_; (with_reducible refine (tags_All.calls k a0 t178 _ A3.out).mono ?_); rintro e w16 ⟨v179, rfl, ho0, hb⟩; refine ⟨_, rfl, ?_⟩; have n0_ := Aside0.mk (Kd.R_lower ho0 (below_size (by repeat (first | (with_reducible first | exact HB.out | apply below_alloc | apply pw_below_drewN | apply below_drew1) | exact HB.out)))); have n1_ := Aside0.mk (below_step (by repeat (first | (with_reducible first | exact HB.out | apply below_alloc | apply pw_below_drewN | apply below_drew1) | exact HB.out)) hb); clear HB; have HO180 := n0_; have HB := n1_; clear n0_ n1_; (try clear hb); (try clear hb2); (try clear hk); (try clear hi); (try clear ho0); obtain ⟨Ao17, co17, eo17⟩ := Kd.R_slice HO180.out; subst eo17) | ((with_reducible refine gate_callee (f := 13) rfl ?_); refine goesL_ (some 12) rfl rfl Try.func13 (by kernel_rfl) rfl #[.slice Ao17 t178.length co17] rfl (by (try simp only [List.map_toArray, List.map_cons, List.map_nil]); first | done | rfl | (simp only [List.length_drop, List.length_take]; rfl)) ?_; (with_reducible refine (tags_Of.calls k _ _ t178 t181 t182 _ ?side1 ?side2 A4.out).mono ?_); (case side1 => repeat (first | exact (Kd.R_reads' HO180.out).2.2 | (with_reducible refine Kd.C_alloc ?_ _) | (with_reducible refine Kd.C_drewN ?_ _) | (with_reducible refine Kd.C_drew ?_))); (case side2 => exact (Kd.R_reads' HO180.out).2.1); rintro e w' ⟨rfl, ⟨nd, rfl⟩⟩; refine ⟨_, rfl, ?_⟩))
      go_ret
      exact ⟨by first | rfl | (simp [errW_none, errW_some] <;> rfl) | (simp [*, errW_none, errW_some] <;> rfl), by repeat (first | (with_reducible first | exact HB.out | apply below_alloc | apply pw_below_drewN | apply below_drew1) | exact HB.out)⟩
  · replace c5 := Bool.eq_false_iff.mpr c5
    subst c5
    have H1 : (some false) = some r := by rw [if_neg (show ¬ (false = true) by decide)] at H; exact H
    clear H
    have H := H1
    clear H1
    obtain rfl := Option.some.inj H
    go_enter Try.func8, Try.ntmps8
    go_wp2_with (first | ((with_reducible refine gate_callee (f := 10) rfl ?_); refine goesL_ (some 7) rfl rfl Try.func10 (by kernel_rfl) rfl #[] rfl (by (try simp only [List.map_toArray, List.map_cons, List.map_nil]); first | done | rfl | (simp only [List.length_drop, List.length_take]; rfl)) ?_; (with_reducible refine (octroilaw03_awake.calls k  false _ A2.out).mono ?_); rintro e w18 ⟨rfl, hb⟩; refine ⟨_, rfl, ?_⟩; have n0_ := Aside0.mk (below_step (by repeat (first | (with_reducible first | exact HB.out | apply below_alloc | apply pw_below_drewN | apply below_drew1) | exact HB.out)) hb); clear HB; have HB := n0_; clear n0_; (try clear hb); (try clear hb2); (try clear hk); (try clear hi)) | ((with_reducible refine gate_callee (f := 18) rfl ?_); refine goesL_ (some 9) rfl rfl Try.func18 (by kernel_rfl) rfl #[.int .u16 a0] rfl (by (try simp only [List.map_toArray, List.map_cons, List.map_nil]); first | done | rfl | (simp only [List.length_drop, List.length_take]; rfl)) ?_; (with_reducible refine (tags_All.calls k a0 t178 _ A3.out).mono ?_); rintro e w19 ⟨v179, rfl, ho0, hb⟩; refine ⟨_, rfl, ?_⟩; have n0_ := Aside0.mk (Kd.R_lower ho0 (below_size (by repeat (first | (with_reducible first | exact HB.out | apply below_alloc | apply pw_below_drewN | apply below_drew1) | exact HB.out)))); have n1_ := Aside0.mk (below_step (by repeat (first | (with_reducible first | exact HB.out | apply below_alloc | apply pw_below_drewN | apply below_drew1) | exact HB.out)) hb); clear HB; have HO180 := n0_; have HB := n1_; clear n0_ n1_; (try clear hb); (try clear hb2); (try clear hk); (try clear hi); (try clear ho0); obtain ⟨Ao20, co20, eo20⟩ := Kd.R_slice HO180.out; subst eo20) | ((with_reducible refine gate_callee (f := 13) rfl ?_); refine goesL_ (some 12) rfl rfl Try.func13 (by kernel_rfl) rfl #[.slice Ao20 t178.length co20] rfl (by (try simp only [List.map_toArray, List.map_cons, List.map_nil]); first | done | rfl | (simp only [List.length_drop, List.length_take]; rfl)) ?_; (with_reducible refine (tags_Of.calls k _ _ t178 t181 t182 _ ?side1 ?side2 A4.out).mono ?_); (case side1 => repeat (first | exact (Kd.R_reads' HO180.out).2.2 | (with_reducible refine Kd.C_alloc ?_ _) | (with_reducible refine Kd.C_drewN ?_ _) | (with_reducible refine Kd.C_drew ?_))); (case side2 => exact (Kd.R_reads' HO180.out).2.1); rintro e w' ⟨rfl, ⟨nd, rfl⟩⟩; refine ⟨_, rfl, ?_⟩))
    go_ret
    exact ⟨by first | rfl | (simp [errW_none, errW_some] <;> rfl) | (simp [*, errW_none, errW_some] <;> rfl), by repeat (first | (with_reducible first | exact HB.out | apply below_alloc | apply pw_below_drewN | apply below_drew1) | exact HB.out)⟩

/-- THE ONE PURE STATEMENT of octroilaw03_TagsBack: yours. -/
def octroilaw03_TagsBack.Pure : Prop := ∀ (a0 : Int), (Lit.int .u16 a0).wf = true → ∃ k, octroilaw03_TagsBack.f k a0 = some true
theorem octroilaw03_TagsBack.walk (P : octroilaw03_TagsBack.Pure) (a0 : Int) (w : World) (w0 : (Lit.int .u16 a0).wf = true) :
    Calls Try.prog 8 #[.int .u16 a0] w fun e w' => e = .returned (.bool true) ∧ Below w.heap.size w w' := by
  obtain ⟨k, h⟩ := P a0 w0
  refine (octroilaw03_TagsBack.calls k a0 true w h).mono ?_
  rintro e w' ⟨rfl, hd⟩
  exact ⟨rfl, hd⟩

end Go.Proofs.Ytfgaggocifmnoaa.L
