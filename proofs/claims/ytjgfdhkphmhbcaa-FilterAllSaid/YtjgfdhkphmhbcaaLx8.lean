/- Printed by the session's own program out of the translation: for each Go function a Lean function with the same answers, and the proof that the code comes to them. No conditions. -/
import Derived.Test.YtjgfdhkphmhbcaaLx0
import Derived.Test.YtjgfdhkphmhbcaaLx5
namespace Go.Proofs.Ytjgfdhkphmhbcaa.L
open Go.Proofs.YtjgfdhkphmhbcaaLab
open Go.RowKit Go.Proofs.YtjgfdhkphmhbcaaW.PrintWords Go.Proofs.YtjgfdhkphmhbcaaW.PrintLast Go.Proofs.YtjgfdhkphmhbcaaW.PrintMore
attribute [local go_sem] max2_int min2_int max_two min_two max_three min_three max_four min_four   -- for this text's walks alone
set_option linter.unusedVariables false
set_option linter.unusedSimpArgs false

/-! ### octroilaw13_FilterAll: function 9 -/
mutual
def octroilaw13_FilterAll.j0 : Nat → Bool → Int → Int → Int → Bool → Bool → Option (Bool)
  | 0, _, _, _, _, _, _ => none
  | k + 1, x0, x1, x2, x3, x9, x24 => if x24 = true then (some x9) else (octroilaw13_FilterAll.l0 k x0 x1 x2 x3 x9 0 0 x2)
def octroilaw13_FilterAll.l0 : Nat → Bool → Int → Int → Int → Bool → Int → Int → Int → Option (Bool)
  | 0, _, _, _, _, _, _, _, _ => none
  | k + 1, x0, x1, x2, x3, x9, x11, x227000, x227001 => if x11 < x2 then (if 0 ≤ (IntKind.u64.wrap (wrap64 (31 - x11))) then (if (Go.bits .and .u32 x1 (shl .u32 1 (IntKind.u64.wrap (wrap64 (31 - x11))))) = 0 then (octroilaw13_FilterAll.l0 k x0 x1 x2 x3 x9 (wrap64 (x11 + 1)) x227000 x227001) else (octroilaw13_FilterAll.l0 k x0 x1 x2 x3 x9 (wrap64 (x11 + 1)) (Go.bits .or .u32 x227000 (shl .u32 1 (IntKind.u64.wrap (wrap64 (31 - x11))))) x227001)) else (none)) else ((some (([(⟨x0, (⟨0, 0⟩ : S35), 0, 32, 0, 0⟩ : S42)] : List (S42)) : List (S42))).bind fun y227 => ((filter_Permits.f k y227 x227000 x227001 x3).bind fun bt230 => ((filter_Permits.f k ([] : List (S42)) x227000 x227001 x3).bind fun bt232 => (if x9 = true then ((filter_May.f k y227).bind fun t234 => (if t234 = true then (if (bt230.1 == x0) = true then (if bt230.2 = 0 then (some (bt232.2 == (-1))) else (some false)) else (some false)) else (some false))) else (some false)))))
end
def octroilaw13_FilterAll.f (k : Nat) (a0 : Bool) (a1 : Int) (a2 : Int) (a3 : Int) : Option (Bool) := (octroilaw13_awake.f k).bind fun t225 => (if a2 < 0 then (octroilaw13_FilterAll.j0 k a0 a1 a2 a3 t225 true) else (octroilaw13_FilterAll.j0 k a0 a1 a2 a3 t225 (decide (a2 > 32))))
theorem octroilaw13_FilterAll.mono_l : ∀ k, (∀ y0 y1 y2 y3 y4 y5, LeO (octroilaw13_FilterAll.j0 k y0 y1 y2 y3 y4 y5) (octroilaw13_FilterAll.j0 (k + 1) y0 y1 y2 y3 y4 y5)) ∧ (∀ y0 y1 y2 y3 y4 y5 y6 y7, LeO (octroilaw13_FilterAll.l0 k y0 y1 y2 y3 y4 y5 y6 y7) (octroilaw13_FilterAll.l0 (k + 1) y0 y1 y2 y3 y4 y5 y6 y7))
  | 0 => ⟨fun _ _ _ _ _ _ r h => by simp [octroilaw13_FilterAll.j0] at h, fun _ _ _ _ _ _ _ _ r h => by simp [octroilaw13_FilterAll.l0] at h⟩
  | k + 1 => by
    obtain ⟨ih0, ih1⟩ := octroilaw13_FilterAll.mono_l k
    refine ⟨?_, ?_⟩
    · intro y0 y1 y2 y3 y4 y5
      unfold octroilaw13_FilterAll.j0
      repeat' first
      | (with_reducible exact ih0 _ _ _ _ _ _)
      | (with_reducible exact ih1 _ _ _ _ _ _ _ _)
      | (with_reducible exact filter_May.mono _ _)
      | (with_reducible exact filter_Permits.mono _ _ _ _ _)
      | (with_reducible exact octroilaw13_awake.mono _)
      | (with_reducible exact LeO.refl _)
      | (with_reducible exact LeO.none _)
      | (with_reducible refine LeO.ite ?_ ?_)
      | (with_reducible refine LeO.bind ?_ (fun _ => ?_))
      | exact ih0 _ _ _ _ _ _
      | exact ih1 _ _ _ _ _ _ _ _
      | exact filter_May.mono _ _
      | exact filter_Permits.mono _ _ _ _ _
      | exact octroilaw13_awake.mono _
      | exact LeO.none _
      | refine LeO.ite ?_ ?_
      | refine LeO.bind ?_ (fun _ => ?_)
    · intro y0 y1 y2 y3 y4 y5 y6 y7
      unfold octroilaw13_FilterAll.l0
      repeat' first
      | (with_reducible exact ih0 _ _ _ _ _ _)
      | (with_reducible exact ih1 _ _ _ _ _ _ _ _)
      | (with_reducible exact filter_May.mono _ _)
      | (with_reducible exact filter_Permits.mono _ _ _ _ _)
      | (with_reducible exact octroilaw13_awake.mono _)
      | (with_reducible exact LeO.refl _)
      | (with_reducible exact LeO.none _)
      | (with_reducible refine LeO.ite ?_ ?_)
      | (with_reducible refine LeO.bind ?_ (fun _ => ?_))
      | exact ih0 _ _ _ _ _ _
      | exact ih1 _ _ _ _ _ _ _ _
      | exact filter_May.mono _ _
      | exact filter_Permits.mono _ _ _ _ _
      | exact octroilaw13_awake.mono _
      | exact LeO.none _
      | refine LeO.ite ?_ ?_
      | refine LeO.bind ?_ (fun _ => ?_)
theorem octroilaw13_FilterAll.mono : ∀ a0 a1 a2 a3 k, LeO (octroilaw13_FilterAll.f k a0 a1 a2 a3) (octroilaw13_FilterAll.f (k + 1) a0 a1 a2 a3) := by
  intro a0 a1 a2 a3 k
  obtain ⟨ih0, ih1⟩ := octroilaw13_FilterAll.mono_l k
  unfold octroilaw13_FilterAll.f
  repeat' first
      | (with_reducible exact ih0 _ _ _ _ _ _)
      | (with_reducible exact ih1 _ _ _ _ _ _ _ _)
      | (with_reducible exact filter_May.mono _ _)
      | (with_reducible exact filter_Permits.mono _ _ _ _ _)
      | (with_reducible exact octroilaw13_awake.mono _)
      | (with_reducible exact LeO.refl _)
      | (with_reducible exact LeO.none _)
      | (with_reducible refine LeO.ite ?_ ?_)
      | (with_reducible refine LeO.bind ?_ (fun _ => ?_))
      | exact ih0 _ _ _ _ _ _
      | exact ih1 _ _ _ _ _ _ _ _
      | exact filter_May.mono _ _
      | exact filter_Permits.mono _ _ _ _ _
      | exact octroilaw13_awake.mono _
      | exact LeO.none _
      | refine LeO.ite ?_ ?_
      | refine LeO.bind ?_ (fun _ => ?_)
set_option maxHeartbeats 8000000 in
set_option maxRecDepth 100000 in
theorem octroilaw13_FilterAll.calls (k : Nat) (a0 : Bool) (a1 : Int) (a2 : Int) (a3 : Int) (r : Bool) (w : World) (h : octroilaw13_FilterAll.f k a0 a1 a2 a3 = some r) :
    Calls Try.prog 9 #[.bool a0, .int .u32 a1, .int .i64 a2, .int .u16 a3] w fun e w' => e = .returned (.bool r) ∧ Below w.heap.size w w' := by
  have hu35 := Try.underlying35
  have hu42 := Try.underlying42
  have HB := Aside0.mk (Below.refl w.heap.size w)
  have H : ((octroilaw13_awake.f k).bind fun t225 => (if a2 < 0 then (octroilaw13_FilterAll.j0 k a0 a1 a2 a3 t225 true) else (octroilaw13_FilterAll.j0 k a0 a1 a2 a3 t225 (decide (a2 > 32))))) = some r := h
  clear h
  replace H := Option.bind_eq_some_iff.mp H
  obtain ⟨t225, A50, H⟩ := H
  replace H : (if a2 < 0 then (octroilaw13_FilterAll.j0 k a0 a1 a2 a3 t225 true) else (octroilaw13_FilterAll.j0 k a0 a1 a2 a3 t225 (decide (a2 > 32)))) = some r := H
  have A5 := Aside0.mk A50
  clear A50
  have HC6 := Aside0.mk H
  clear H
  go_enter Try.func9, Try.ntmps9
  go_upto_region 2 with (first | ((with_reducible refine gate_callee (f := 17) rfl ?_); refine goesL_ (some 18) rfl rfl Try.func17 (by kernel_rfl) rfl #[] rfl (by (try simp only [List.map_toArray, List.map_cons, List.map_nil]); first | done | rfl | (simp only [List.length_drop, List.length_take]; rfl)) ?_; (with_reducible refine (octroilaw13_awake.calls k  t225 _ A5.out).mono ?_); rintro e w7 ⟨rfl, hb⟩; refine ⟨_, rfl, ?_⟩; have n0_ := Aside0.mk (below_step (by repeat (first | (with_reducible first | exact HB.out | apply below_alloc | apply pw_below_drewN | apply below_drew1) | exact HB.out)) hb); clear HB; have HB := n0_; clear n0_; (try clear hb); (try clear hb2); (try clear hk); (try clear hi)))
  (try simp only [Act.put, List.setIfInBounds_toArray, List.set_cons_zero, List.set_cons_succ])
  go_cut [24] (fun v24 wc => ∃ (kq : Nat) (x24_5 : Bool), v24 = .bool x24_5 ∧ Aside0 (octroilaw13_FilterAll.j0 kq a0 a1 a2 a3 t225 x24_5 = some r) ∧ Aside0 (kq ≤ k) ∧ Aside0 (Below w.heap.size w wc))
  case first =>
    have H := HC6.out
    clear HC6
    by_cases c8 : a2 < 0
    · rw [if_pos c8] at H
      have c8b0 : decide (a2 < 0) = true := decide_eq_true c8
      clear c8
      (first | rw [c8b0] | (simp only [i64_w, i32_w]; rw [c8b0]) | skip)
      have H' := Aside0.mk H
      clear H
      go_wp2
      go_meet
      case rel => exact ⟨_, (true), (by first | rfl | (simp; done) | (simp [*]; done)), H', ⟨by first | omega | exact Nat.le_refl _⟩, ⟨by repeat (first | (with_reducible first | exact HB.out | apply below_alloc | apply pw_below_drewN | apply below_drew1) | exact HB.out)⟩⟩
    · rw [if_neg c8] at H
      have c8b0 : decide (a2 < 0) = false := decide_eq_false c8
      clear c8
      (first | rw [c8b0] | (simp only [i64_w, i32_w]; rw [c8b0]) | skip)
      have H' := Aside0.mk H
      clear H
      go_wp2
      go_meet
      case rel => exact ⟨_, (decide (a2 > 32)), (by first | rfl | (simp; done) | (simp [*]; done)), H', ⟨by first | omega | exact Nat.le_refl _⟩, ⟨by repeat (first | (with_reducible first | exact HB.out | apply below_alloc | apply pw_below_drewN | apply below_drew1) | exact HB.out)⟩⟩
  case rest =>
    clear HC6
    try clear c1
    try clear p2
    try clear c8
    try clear c8b0
    obtain ⟨kq, x24_5, rfl, HA, HJ5, HB⟩ := hcut
    cases kq with
    | zero => exact absurd HA.out (by simp [octroilaw13_FilterAll.j0])
    | succ kj5 =>
      have H := HA.out
      clear HA
      simp only [octroilaw13_FilterAll.j0] at H
      by_cases c9 : x24_5 = true
      · subst c9
        have H1 : (some t225) = some r := by rw [if_pos rfl] at H; exact H
        clear H
        have H := H1
        clear H1
        obtain rfl := Option.some.inj H
        go_wp2
        go_ret
        exact ⟨by first | rfl | (simp [errW_none, errW_some] <;> rfl) | (simp [*, errW_none, errW_some] <;> rfl), by repeat (first | (with_reducible first | exact HB.out | apply below_alloc | apply pw_below_drewN | apply below_drew1) | exact HB.out)⟩
      · replace c9 := Bool.eq_false_iff.mpr c9
        subst c9
        have H1 : (octroilaw13_FilterAll.l0 kj5 a0 a1 a2 a3 t225 0 0 a2) = some r := by rw [if_neg (show ¬ (false = true) by decide)] at H; exact H
        clear H
        have H := H1
        clear H1
        have H' := Aside0.mk H
        clear H
        go_wp2_with (first | ((with_reducible refine gate_dst (N := 10) rfl ?_); refine box_event ?hg (N := 10) ?hd (cs := #[.int .u32 0, .int .i64 0]) (t := 35) ?hr ?_; (case hd => rfl); (case hg => rfl); (case hr => first | (go_simp; done) | (go_simp; rfl)); intro gb226 hg w10 hbox hb; have n0_ := Aside0.mk (below_step (by repeat (first | (with_reducible first | exact HB.out | apply below_alloc | apply pw_below_drewN | apply below_drew1) | exact HB.out)) hb); have n1_ := Aside0.mk (hbox); have n2_ := Aside0.mk ((by rw [hg]; exact (below_size (by repeat (first | (with_reducible first | exact HB.out | apply below_alloc | apply pw_below_drewN | apply below_drew1) | exact HB.out))) : w.heap.size ≤ gb226)); have n3_ := Aside0.mk ((by rw [hg]; exact (below_size (by repeat (first | (with_reducible first | exact HB.out | apply below_alloc | apply pw_below_drewN | apply below_drew1) | exact HB.out))) : w.heap.size ≤ gb226)); clear HB; have HB := n0_; have BK226 := n1_; have GW226 := n2_; have GE226 := n3_; clear n0_ n1_ n2_ n3_; clear hb hbox hg; have hcz11_0 : w10.cell? ⟨gb226, 0, none⟩ = some (.int .u32 0) := (blk_cell BK226.out 0).trans rfl; have hcz11_1 : w10.cell? ⟨gb226, 1, none⟩ = some (.int .i64 0) := (blk_cell BK226.out 1).trans rfl; have hfz11_0 := blk_frozen BK226.out 0; have hfz11_1 := blk_frozen BK226.out 1))
        go_loopg [11] kj5 (fun kq v11 w' => ∃ (x11_2 : Int) (x227000_2 : Int), v11 = .int .i64 x11_2 ∧ Aside0 (octroilaw13_FilterAll.l0 kq a0 a1 a2 a3 t225 x11_2 x227000_2 a2 = some r) ∧ Aside0 (kq ≤ kj5) ∧ Aside0 (w'.heap[gb226]? = some (.cells #[.int .u32 x227000_2, .int .i64 a2] 35 (0, 0))) ∧ Aside0 (Below w.heap.size w w'))
        case atStart => exact ⟨(0), (0), (by first | rfl | (simp; done) | (simp [*]; done)), H', ⟨Nat.le_refl _⟩, ⟨by (with_reducible repeat (first | refine blk_drewN ?_ _ | refine blk_drew ?_ | refine blk_alloc ?_ _)); refine blk_put (cs := #[.int .u32 0, .int .i64 0]) ?_ 1 _ rfl; (with_reducible repeat (first | refine blk_drewN ?_ _ | refine blk_drew ?_ | refine blk_alloc ?_ _)); refine blk_put (cs := #[.int .u32 0, .int .i64 0]) ?_ 0 _ rfl; (with_reducible repeat (first | refine blk_drewN ?_ _ | refine blk_drew ?_ | refine blk_alloc ?_ _)); exact BK226.out⟩, ⟨by repeat (first | (with_reducible first | exact HB.out | apply below_alloc | apply pw_below_drewN | apply below_drew1 | refine below_set ?_ GE226.out) | exact HB.out)⟩⟩
        case round =>
          clear H'
          try clear c1
          try clear p2
          try clear c8
          try clear c8b0
          try clear c9
          try clear hcz11_0
          try clear hcz11_1
          try clear hfz11_0
          try clear hfz11_1
          try clear p2
          obtain ⟨x11_2, x227000_2, rfl, HA, HK2, BK226, HB⟩ := hrel
          cases gk with
          | zero => exact absurd HA.out (by simp [octroilaw13_FilterAll.l0])
          | succ k2 =>
            have H := HA.out
            clear HA
            simp only [octroilaw13_FilterAll.l0] at H
            by_cases c12 : x11_2 < a2
            · rw [if_pos c12] at H
              have c12b0 : decide (x11_2 < a2) = true := decide_eq_true c12
              clear c12
              obtain ⟨ji13, hji13⟩ : ∃ j_ : Int, (IntKind.u64.wrap (wrap64 (31 - x11_2))) = j_ := ⟨_, rfl⟩
              replace H : (if 0 ≤ (ji13) then (if (Go.bits .and .u32 a1 (shl .u32 1 (ji13))) = 0 then (octroilaw13_FilterAll.l0 k2 a0 a1 a2 a3 t225 (wrap64 (x11_2 + 1)) x227000_2 a2) else (octroilaw13_FilterAll.l0 k2 a0 a1 a2 a3 t225 (wrap64 (x11_2 + 1)) (Go.bits .or .u32 x227000_2 (shl .u32 1 (ji13))) a2)) else (none)) = some r := by first | (rw [hji13] at H; exact H) | (simp only [hji13] at H ⊢; exact H)
              by_cases c14 : 0 ≤ (ji13)
              · rw [if_pos c14] at H
                have c14b0 := eq_true c14
                have c14b1 : decide (0 ≤ (ji13)) = true := decide_eq_true c14
                clear c14
                obtain ⟨ji15, hji15⟩ : ∃ j_ : Int, (shl .u32 1 (ji13)) = j_ := ⟨_, rfl⟩
                replace H : (if (Go.bits .and .u32 a1 (ji15)) = 0 then (octroilaw13_FilterAll.l0 k2 a0 a1 a2 a3 t225 (wrap64 (x11_2 + 1)) x227000_2 a2) else (octroilaw13_FilterAll.l0 k2 a0 a1 a2 a3 t225 (wrap64 (x11_2 + 1)) (Go.bits .or .u32 x227000_2 (ji15)) a2)) = some r := by first | (rw [hji15] at H; exact H) | (simp only [hji15] at H ⊢; exact H)
                have hji15_ : (IntKind.u32.wrap (1 * 2 ^ min (ji13).toNat 32)) = ji15 := hji15
                have hji15z : (ji13) ≤ 32 → (IntKind.u32.wrap (1 * 2 ^ (ji13).toNat)) = ji15 := shl_small hji15
                have hji15u : (IntKind.u32.wrap (2 ^ min (ji13).toNat 32)) = ji15 := by have h_ := hji15_; rw [Int.one_mul] at h_; exact h_
                have hji15v : (ji13) ≤ 32 → (IntKind.u32.wrap (2 ^ (ji13).toNat)) = ji15 := fun hle_ => by have h_ := hji15z hle_; rw [Int.one_mul] at h_; exact h_
                by_cases c16 : (Go.bits .and .u32 a1 (ji15)) = 0
                · rw [if_pos c16] at H
                  have c16b0 : ((Go.bits .and .u32 a1 (ji15)) == 0) = true := beq_iff_eq.mpr c16
                  have c16b1 : ((Go.bits .and .u32 a1 (ji15)) != 0) = false := bne_eq_false_iff_eq.mpr c16
                  clear c16
                  have H' := Aside0.mk H
                  clear H
                  go_wp2
                  go_roundg k2
                  case measure => have := HJ5.out; have := HK2.out; omega
                  case rel => exact ⟨(wrap64 (x11_2 + 1)), (x227000_2), (by first | rfl | (simp; done) | (simp [*]; done)), H', ⟨by have := HJ5.out; have := HK2.out; omega⟩, ⟨by (with_reducible repeat (first | refine blk_drewN ?_ _ | refine blk_drew ?_ | refine blk_alloc ?_ _)); exact BK226.out⟩, ⟨by repeat (first | (with_reducible first | exact HB.out | apply below_alloc | apply pw_below_drewN | apply below_drew1 | refine below_set ?_ GE226.out) | exact HB.out)⟩⟩
                · rw [if_neg c16] at H
                  have c16b0 : ((Go.bits .and .u32 a1 (ji15)) == 0) = false := beq_eq_false_iff_ne.mpr c16
                  have c16b1 : ((Go.bits .and .u32 a1 (ji15)) != 0) = true := bne_iff_ne.mpr c16
                  have H' := Aside0.mk H
                  clear H
                  have hcz17_0 : wr.cell? ⟨gb226, 0, none⟩ = some (.int .u32 x227000_2) := (blk_cell BK226.out 0).trans rfl
                  have hcz17_1 : wr.cell? ⟨gb226, 1, none⟩ = some (.int .i64 a2) := (blk_cell BK226.out 1).trans rfl
                  have hfz17_0 := blk_frozen BK226.out 0
                  have hfz17_1 := blk_frozen BK226.out 1
                  go_wp2
                  go_roundg k2
                  case measure => have := HJ5.out; have := HK2.out; omega
                  case rel => exact ⟨(wrap64 (x11_2 + 1)), (Go.bits .or .u32 x227000_2 (ji15)), (by first | rfl | (simp; done) | (simp [*]; done)), H', ⟨by have := HJ5.out; have := HK2.out; omega⟩, ⟨by (with_reducible repeat (first | refine blk_drewN ?_ _ | refine blk_drew ?_ | refine blk_alloc ?_ _)); refine blk_put (cs := #[.int .u32 x227000_2, .int .i64 a2]) ?_ 0 _ rfl; (with_reducible repeat (first | refine blk_drewN ?_ _ | refine blk_drew ?_ | refine blk_alloc ?_ _)); exact BK226.out⟩, ⟨by repeat (first | (with_reducible first | exact HB.out | apply below_alloc | apply pw_below_drewN | apply below_drew1 | refine below_set ?_ GE226.out) | exact HB.out)⟩⟩
              · rw [if_neg c14] at H
                exact absurd H (by simp)
            · rw [if_neg c12] at H
              have c12b0 : decide (x11_2 < a2) = false := decide_eq_false c12
              clear c12
              obtain ⟨y227, hy227⟩ : ∃ y_ : List (S42), y_ = (([(⟨a0, (⟨0, 0⟩ : S35), 0, 32, 0, 0⟩ : S42)] : List (S42))) := ⟨_, rfl⟩
              replace H : ((filter_Permits.f k2 y227 x227000_2 a2 a3).bind fun bt230 => ((filter_Permits.f k2 ([] : List (S42)) x227000_2 a2 a3).bind fun bt232 => (if t225 = true then ((filter_May.f k2 y227).bind fun t234 => (if t234 = true then (if (bt230.1 == a0) = true then (if bt230.2 = 0 then (some (bt232.2 == (-1))) else (some false)) else (some false)) else (some false))) else (some false)))) = some r := by first | (rw [hy227]; with_reducible exact H) | (have H2_ := (Option.bind_some _ _).symm.trans H; rw [hy227]; with_reducible exact H2_) | (have H2_ := (Option.bind_some _ _).symm.trans H; with_reducible exact H2_) | with_reducible exact H | (rw [hy227]; exact H) | exact H
              have Ny227 := Aside0.mk hy227
              clear hy227
              replace H := Option.bind_eq_some_iff.mp H
              obtain ⟨⟨t230, t231⟩, A180, H⟩ := H
              replace H : ((filter_Permits.f k2 ([] : List (S42)) x227000_2 a2 a3).bind fun bt232 => (if t225 = true then ((filter_May.f k2 y227).bind fun t234 => (if t234 = true then (if (t230 == a0) = true then (if t231 = 0 then (some (bt232.2 == (-1))) else (some false)) else (some false)) else (some false))) else (some false))) = some r := H
              have A18 := Aside0.mk A180
              clear A180
              replace H := Option.bind_eq_some_iff.mp H
              obtain ⟨⟨t232, t233⟩, A190, H⟩ := H
              replace H : (if t225 = true then ((filter_May.f k2 y227).bind fun t234 => (if t234 = true then (if (t230 == a0) = true then (if t231 = 0 then (some (t233 == (-1))) else (some false)) else (some false)) else (some false))) else (some false)) = some r := H
              have A19 := Aside0.mk A190
              clear A190
              by_cases c20 : t225 = true
              · subst c20
                have H1 : ((filter_May.f k2 y227).bind fun t234 => (if t234 = true then (if (t230 == a0) = true then (if t231 = 0 then (some (t233 == (-1))) else (some false)) else (some false)) else (some false))) = some r := by rw [if_pos rfl] at H; exact H
                clear H
                have H := H1
                clear H1
                replace H := Option.bind_eq_some_iff.mp H
                obtain ⟨t234, A210, H⟩ := H
                replace H : (if t234 = true then (if (t230 == a0) = true then (if t231 = 0 then (some (t233 == (-1))) else (some false)) else (some false)) else (some false)) = some r := H
                have A21 := Aside0.mk A210
                clear A210
                by_cases c22 : t234 = true
                · subst c22
                  have H1 : (if (t230 == a0) = true then (if t231 = 0 then (some (t233 == (-1))) else (some false)) else (some false)) = some r := by rw [if_pos rfl] at H; exact H
                  clear H
                  have H := H1
                  clear H1
                  by_cases c23 : (t230 == a0) = true
                  · rw [if_pos c23] at H
                    have c23b0 : (t230 == a0) = true := c23
                    (try (have c23b1 : decide (t230 = a0) = true := by simpa using c23))
                    (try (have c23b2 : (t230 == a0) = true := by simpa using c23))
                    clear c23
                    by_cases c24 : t231 = 0
                    · rw [if_pos c24] at H
                      have c24b0 : (t231 == 0) = true := beq_iff_eq.mpr c24
                      have c24b1 : (t231 != 0) = false := bne_eq_false_iff_eq.mpr c24
                      clear c24
                      obtain rfl := Option.some.inj H
                      go_wp2_with (first | ((with_reducible refine gate_dst (N := 48) rfl ?_); refine Kd.R_lit k42 _ 42 ?hg (N := 48) ?hd (xs := ([(⟨a0, (⟨0, 0⟩ : S35), 0, 32, 0, 0⟩ : S42)] : List (S42))) (inner := [.bool a0, .int .u32 0, .int .i64 0, .int .i64 0, .int .i64 32, .int .u16 0, .int .u16 0]) (ok := fun _ => True) (okp := fun _ => True) ?hr ?hp (fun _ hk => hk) trivial (Below.refl _ _) (Nat.le_refl _) (by simp) ?_; (case hd => rfl); (case hg => rfl); (case hr => first | (go_simp; done) | (go_simp; rfl)); (case hp => exact (Reps.c7 (show Kd.M k42 _ _ _ (⟨a0, (⟨0, 0⟩ : S35), 0, 32, 0, 0⟩ : S42) [.bool a0, .int .u32 0, .int .i64 0, .int .i64 0, .int .i64 32, .int .u16 0, .int .u16 0] from (k42_mkM _ _ _ (⟨a0, (⟨0, 0⟩ : S35), 0, 32, 0, 0⟩ : S42) )) (Reps.none _ _))); intro v228 w25 ho26 hb hg_ hnew_; clear hg_ hnew_; (first | rw [← Ny227.out] at ho26 | (simp only [Int.reduceToNat] at ho26; rw [← Ny227.out] at ho26)); have n0_ := Aside0.mk (Kd.R_lower ho26 (below_size (by repeat (first | (with_reducible first | exact HB.out | apply below_alloc | apply pw_below_drewN | apply below_drew1 | refine below_set ?_ GE226.out) | exact HB.out)))); have n1_ := Aside0.mk (blk_below (g := gb226) (o := .cells #[.int .u32 x227000_2, .int .i64 a2] 35 (0, 0)) (by (with_reducible repeat (first | refine blk_drewN ?_ _ | refine blk_drew ?_ | refine blk_alloc ?_ _)); exact BK226.out) hb); have n2_ := Aside0.mk (below_step (by repeat (first | (with_reducible first | exact HB.out | apply below_alloc | apply pw_below_drewN | apply below_drew1 | refine below_set ?_ GE226.out) | exact HB.out)) hb); clear BK226; clear HB; have HO229 := n0_; have BK226 := n1_; have HB := n2_; clear n0_ n1_ n2_; clear hb ho26; have hcz27_0 : w25.cell? ⟨gb226, 0, none⟩ = some (.int .u32 x227000_2) := (blk_cell BK226.out 0).trans rfl; have hcz27_1 : w25.cell? ⟨gb226, 1, none⟩ = some (.int .i64 a2) := (blk_cell BK226.out 1).trans rfl; have hfz27_0 := blk_frozen BK226.out 0; have hfz27_1 := blk_frozen BK226.out 1; obtain ⟨Ao28, co28, eo28⟩ := Kd.R_slice HO229.out; subst eo28) | ((with_reducible refine gate_callee (f := 18) rfl ?_); refine goesL_ (some 53) rfl rfl Try.func18 (by kernel_rfl) rfl #[.slice Ao28 y227.length co28, .agg #[.int .u32 x227000_2, .int .i64 a2], .int .u16 a3] rfl (by (try simp only [List.map_toArray, List.map_cons, List.map_nil]); first | done | rfl | (simp only [List.length_drop, List.length_take]; rfl)) ?_; (with_reducible refine (filter_Permits.calls k2 _ _ y227 x227000_2 a2 a3 t230 t231 _ ?side1 ?side2 A18.out).mono ?_); (case side1 => repeat (first | exact (Kd.R_reads' HO229.out).2.2 | (with_reducible refine Kd.C_alloc ?_ _) | (with_reducible refine Kd.C_drewN ?_ _) | (with_reducible refine Kd.C_drew ?_))); (case side2 => exact (Kd.R_reads' HO229.out).2.1); rintro e w29 ⟨rfl, hb⟩; refine ⟨_, rfl, ?_⟩; have n0_ := Aside0.mk (Kd.R_below (by (with_reducible repeat (first | apply Kd.R_alloc | apply Kd.R_drewN | apply Kd.R_drew)); exact HO229.out) hb); have n1_ := Aside0.mk (blk_below (g := gb226) (o := .cells #[.int .u32 x227000_2, .int .i64 a2] 35 (0, 0)) (by (with_reducible repeat (first | refine blk_drewN ?_ _ | refine blk_drew ?_ | refine blk_alloc ?_ _)); exact BK226.out) hb); have n2_ := Aside0.mk (below_step (by repeat (first | (with_reducible first | exact HB.out | apply below_alloc | apply pw_below_drewN | apply below_drew1 | refine below_set ?_ GE226.out) | exact HB.out)) hb); clear HO229; clear BK226; clear HB; have HO229 := n0_; have BK226 := n1_; have HB := n2_; clear n0_ n1_ n2_; (try clear hb); (try clear hb2); (try clear hk); (try clear hi); have hcz30_0 : w29.cell? ⟨gb226, 0, none⟩ = some (.int .u32 x227000_2) := (blk_cell BK226.out 0).trans rfl; have hcz30_1 : w29.cell? ⟨gb226, 1, none⟩ = some (.int .i64 a2) := (blk_cell BK226.out 1).trans rfl; have hfz30_0 := blk_frozen BK226.out 0; have hfz30_1 := blk_frozen BK226.out 1) | ((with_reducible refine gate_callee (f := 18) rfl ?_); refine goesL_ (some 59) rfl rfl Try.func18 (by kernel_rfl) rfl #[.slice none 0 0, .agg #[.int .u32 x227000_2, .int .i64 a2], .int .u16 a3] rfl (by (try simp only [List.map_toArray, List.map_cons, List.map_nil]); first | done | rfl | (simp only [List.length_drop, List.length_take]; rfl)) ?_; (refine (filter_Permits.calls k2 _ _ ([] : List (S42)) x227000_2 a2 a3 t232 t233 _ ?side1 ?side2 A19.out).mono ?_); (case side1 => exact Kd.C_nil _ _); (case side2 => exact Nat.le_refl _); rintro e w31 ⟨rfl, hb⟩; refine ⟨_, rfl, ?_⟩; have n0_ := Aside0.mk (Kd.R_below (by (with_reducible repeat (first | apply Kd.R_alloc | apply Kd.R_drewN | apply Kd.R_drew)); exact HO229.out) hb); have n1_ := Aside0.mk (blk_below (g := gb226) (o := .cells #[.int .u32 x227000_2, .int .i64 a2] 35 (0, 0)) (by (with_reducible repeat (first | refine blk_drewN ?_ _ | refine blk_drew ?_ | refine blk_alloc ?_ _)); exact BK226.out) hb); have n2_ := Aside0.mk (below_step (by repeat (first | (with_reducible first | exact HB.out | apply below_alloc | apply pw_below_drewN | apply below_drew1 | refine below_set ?_ GE226.out) | exact HB.out)) hb); clear HO229; clear BK226; clear HB; have HO229 := n0_; have BK226 := n1_; have HB := n2_; clear n0_ n1_ n2_; (try clear hb); (try clear hb2); (try clear hk); (try clear hi)) | (go_at_call 20; (with_reducible refine (filter_May.calls k2 _ _ y227 true _ ?side1 ?side2 A21.out).mono ?_); (case side1 => repeat (first | exact (Kd.R_reads' HO229.out).2.2 | (with_reducible refine Kd.C_alloc ?_ _) | (with_reducible refine Kd.C_drewN ?_ _) | (with_reducible refine Kd.C_drew ?_))); (case side2 => exact (Kd.R_reads' HO229.out).2.1); rintro e w32 ⟨rfl, hb⟩; have n0_ := Aside0.mk (Kd.R_below (by (with_reducible repeat (first | apply Kd.R_alloc | apply Kd.R_drewN | apply Kd.R_drew)); exact HO229.out) hb); have n1_ := Aside0.mk (blk_below (g := gb226) (o := .cells #[.int .u32 x227000_2, .int .i64 a2] 35 (0, 0)) (by (with_reducible repeat (first | refine blk_drewN ?_ _ | refine blk_drew ?_ | refine blk_alloc ?_ _)); exact BK226.out) hb); have n2_ := Aside0.mk (below_step (by repeat (first | (with_reducible first | exact HB.out | apply below_alloc | apply pw_below_drewN | apply below_drew1 | refine below_set ?_ GE226.out) | exact HB.out)) hb); clear HO229; clear BK226; clear HB; have HO229 := n0_; have BK226 := n1_; have HB := n2_; clear n0_ n1_ n2_; (try clear hb); (try clear hb2); (try clear hk); (try clear hi)))
                      go_ret
                      exact ⟨by first | rfl | (simp [errW_none, errW_some] <;> rfl) | (simp [*, errW_none, errW_some] <;> rfl), by repeat (first | (with_reducible first | exact HB.out | apply below_alloc | apply pw_below_drewN | apply below_drew1 | refine below_set ?_ GE226.out) | exact HB.out)⟩
                    · rw [if_neg c24] at H
                      have c24b0 : (t231 == 0) = false := beq_eq_false_iff_ne.mpr c24
                      have c24b1 : (t231 != 0) = true := bne_iff_ne.mpr c24
                      obtain rfl := Option.some.inj H
                      go_wp2_with (first | ((with_reducible refine gate_dst (N := 48) rfl ?_); refine Kd.R_lit k42 _ 42 ?hg (N := 48) ?hd (xs := ([(⟨a0, (⟨0, 0⟩ : S35), 0, 32, 0, 0⟩ : S42)] : List (S42))) (inner := [.bool a0, .int .u32 0, .int .i64 0, .int .i64 0, .int .i64 32, .int .u16 0, .int .u16 0]) (ok := fun _ => True) (okp := fun _ => True) ?hr ?hp (fun _ hk => hk) trivial (Below.refl _ _) (Nat.le_refl _) (by simp) ?_; (case hd => rfl); (case hg => rfl); (case hr => first | (go_simp; done) | (go_simp; rfl)); (case hp => exact (Reps.c7 (show Kd.M k42 _ _ _ (⟨a0, (⟨0, 0⟩ : S35), 0, 32, 0, 0⟩ : S42) [.bool a0, .int .u32 0, .int .i64 0, .int .i64 0, .int .i64 32, .int .u16 0, .int .u16 0] from (k42_mkM _ _ _ (⟨a0, (⟨0, 0⟩ : S35), 0, 32, 0, 0⟩ : S42) )) (Reps.none _ _))); intro v228 w33 ho34 hb hg_ hnew_; clear hg_ hnew_; (first | rw [← Ny227.out] at ho34 | (simp only [Int.reduceToNat] at ho34; rw [← Ny227.out] at ho34)); have n0_ := Aside0.mk (Kd.R_lower ho34 (below_size (by repeat (first | (with_reducible first | exact HB.out | apply below_alloc | apply pw_below_drewN | apply below_drew1 | refine below_set ?_ GE226.out) | exact HB.out)))); have n1_ := Aside0.mk (blk_below (g := gb226) (o := .cells #[.int .u32 x227000_2, .int .i64 a2] 35 (0, 0)) (by (with_reducible repeat (first | refine blk_drewN ?_ _ | refine blk_drew ?_ | refine blk_alloc ?_ _)); exact BK226.out) hb); have n2_ := Aside0.mk (below_step (by repeat (first | (with_reducible first | exact HB.out | apply below_alloc | apply pw_below_drewN | apply below_drew1 | refine below_set ?_ GE226.out) | exact HB.out)) hb); clear BK226; clear HB; have HO229 := n0_; have BK226 := n1_; have HB := n2_; clear n0_ n1_ n2_; clear hb ho34; have hcz35_0 : w33.cell? ⟨gb226, 0, none⟩ = some (.int .u32 x227000_2) := (blk_cell BK226.out 0).trans rfl; have hcz35_1 : w33.cell? ⟨gb226, 1, none⟩ = some (.int .i64 a2) := (blk_cell BK226.out 1).trans rfl; have hfz35_0 := blk_frozen BK226.out 0; have hfz35_1 := blk_frozen BK226.out 1; obtain ⟨Ao36, co36, eo36⟩ := Kd.R_slice HO229.out; subst eo36) | ((with_reducible refine gate_callee (f := 18) rfl ?_); refine goesL_ (some 53) rfl rfl Try.func18 (by kernel_rfl) rfl #[.slice Ao36 y227.length co36, .agg #[.int .u32 x227000_2, .int .i64 a2], .int .u16 a3] rfl (by (try simp only [List.map_toArray, List.map_cons, List.map_nil]); first | done | rfl | (simp only [List.length_drop, List.length_take]; rfl)) ?_; (with_reducible refine (filter_Permits.calls k2 _ _ y227 x227000_2 a2 a3 t230 t231 _ ?side1 ?side2 A18.out).mono ?_); (case side1 => repeat (first | exact (Kd.R_reads' HO229.out).2.2 | (with_reducible refine Kd.C_alloc ?_ _) | (with_reducible refine Kd.C_drewN ?_ _) | (with_reducible refine Kd.C_drew ?_))); (case side2 => exact (Kd.R_reads' HO229.out).2.1); rintro e w37 ⟨rfl, hb⟩; refine ⟨_, rfl, ?_⟩; have n0_ := Aside0.mk (Kd.R_below (by (with_reducible repeat (first | apply Kd.R_alloc | apply Kd.R_drewN | apply Kd.R_drew)); exact HO229.out) hb); have n1_ := Aside0.mk (blk_below (g := gb226) (o := .cells #[.int .u32 x227000_2, .int .i64 a2] 35 (0, 0)) (by (with_reducible repeat (first | refine blk_drewN ?_ _ | refine blk_drew ?_ | refine blk_alloc ?_ _)); exact BK226.out) hb); have n2_ := Aside0.mk (below_step (by repeat (first | (with_reducible first | exact HB.out | apply below_alloc | apply pw_below_drewN | apply below_drew1 | refine below_set ?_ GE226.out) | exact HB.out)) hb); clear HO229; clear BK226; clear HB; have HO229 := n0_; have BK226 := n1_; have HB := n2_; clear n0_ n1_ n2_; (try clear hb); (try clear hb2); (try clear hk); (try clear hi); have hcz38_0 : w37.cell? ⟨gb226, 0, none⟩ = some (.int .u32 x227000_2) := (blk_cell BK226.out 0).trans rfl; have hcz38_1 : w37.cell? ⟨gb226, 1, none⟩ = some (.int .i64 a2) := (blk_cell BK226.out 1).trans rfl; have hfz38_0 := blk_frozen BK226.out 0; have hfz38_1 := blk_frozen BK226.out 1) | ((with_reducible refine gate_callee (f := 18) rfl ?_); refine goesL_ (some 59) rfl rfl Try.func18 (by kernel_rfl) rfl #[.slice none 0 0, .agg #[.int .u32 x227000_2, .int .i64 a2], .int .u16 a3] rfl (by (try simp only [List.map_toArray, List.map_cons, List.map_nil]); first | done | rfl | (simp only [List.length_drop, List.length_take]; rfl)) ?_; (refine (filter_Permits.calls k2 _ _ ([] : List (S42)) x227000_2 a2 a3 t232 t233 _ ?side1 ?side2 A19.out).mono ?_); (case side1 => exact Kd.C_nil _ _); (case side2 => exact Nat.le_refl _); rintro e w39 ⟨rfl, hb⟩; refine ⟨_, rfl, ?_⟩; have n0_ := Aside0.mk (Kd.R_below (by (with_reducible repeat (first | apply Kd.R_alloc | apply Kd.R_drewN | apply Kd.R_drew)); exact HO229.out) hb); have n1_ := Aside0.mk (blk_below (g := gb226) (o := .cells #[.int .u32 x227000_2, .int .i64 a2] 35 (0, 0)) (by (with_reducible repeat (first | refine blk_drewN ?_ _ | refine blk_drew ?_ | refine blk_alloc ?_ _)); exact BK226.out) hb); have n2_ := Aside0.mk (below_step (by repeat (first | (with_reducible first | exact HB.out | apply below_alloc | apply pw_below_drewN | apply below_drew1 | refine below_set ?_ GE226.out) | exact HB.out)) hb); clear HO229; clear BK226; clear HB; have HO229 := n0_; have BK226 := n1_; have HB := n2_; clear n0_ n1_ n2_; (try clear hb); (try clear hb2); (try clear hk); (try clear hi)) | (go_at_call 20; (with_reducible refine (filter_May.calls k2 _ _ y227 true _ ?side1 ?side2 A21.out).mono ?_); (case side1 => repeat (first | exact (Kd.R_reads' HO229.out).2.2 | (with_reducible refine Kd.C_alloc ?_ _) | (with_reducible refine Kd.C_drewN ?_ _) | (with_reducible refine Kd.C_drew ?_))); (case side2 => exact (Kd.R_reads' HO229.out).2.1); rintro e w40 ⟨rfl, hb⟩; have n0_ := Aside0.mk (Kd.R_below (by (with_reducible repeat (first | apply Kd.R_alloc | apply Kd.R_drewN | apply Kd.R_drew)); exact HO229.out) hb); have n1_ := Aside0.mk (blk_below (g := gb226) (o := .cells #[.int .u32 x227000_2, .int .i64 a2] 35 (0, 0)) (by (with_reducible repeat (first | refine blk_drewN ?_ _ | refine blk_drew ?_ | refine blk_alloc ?_ _)); exact BK226.out) hb); have n2_ := Aside0.mk (below_step (by repeat (first | (with_reducible first | exact HB.out | apply below_alloc | apply pw_below_drewN | apply below_drew1 | refine below_set ?_ GE226.out) | exact HB.out)) hb); clear HO229; clear BK226; clear HB; have HO229 := n0_; have BK226 := n1_; have HB := n2_; clear n0_ n1_ n2_; (try clear hb); (try clear hb2); (try clear hk); (try clear hi)))
                      go_ret
                      exact ⟨by first | rfl | (simp [errW_none, errW_some] <;> rfl) | (simp [*, errW_none, errW_some] <;> rfl), by repeat (first | (with_reducible first | exact HB.out | apply below_alloc | apply pw_below_drewN | apply below_drew1 | refine below_set ?_ GE226.out) | exact HB.out)⟩
                  · rw [if_neg c23] at H
                    have c23b0 : (t230 == a0) = false := by simpa using c23
                    (try (have c23b1 : decide (t230 = a0) = false := by simpa using c23))
                    (try (have c23b2 : (t230 == a0) = false := by simpa using c23))
                    (try (have c23b3 : ¬ (t230 = a0) := by simpa using c23))
                    clear c23
                    obtain rfl := Option.some.inj H
                    go_wp2_with (first | ((with_reducible refine gate_dst (N := 48) rfl ?_); refine Kd.R_lit k42 _ 42 ?hg (N := 48) ?hd (xs := ([(⟨a0, (⟨0, 0⟩ : S35), 0, 32, 0, 0⟩ : S42)] : List (S42))) (inner := [.bool a0, .int .u32 0, .int .i64 0, .int .i64 0, .int .i64 32, .int .u16 0, .int .u16 0]) (ok := fun _ => True) (okp := fun _ => True) ?hr ?hp (fun _ hk => hk) trivial (Below.refl _ _) (Nat.le_refl _) (by simp) ?_; (case hd => rfl); (case hg => rfl); (case hr => first | (go_simp; done) | (go_simp; rfl)); (case hp => exact (Reps.c7 (show Kd.M k42 _ _ _ (⟨a0, (⟨0, 0⟩ : S35), 0, 32, 0, 0⟩ : S42) [.bool a0, .int .u32 0, .int .i64 0, .int .i64 0, .int .i64 32, .int .u16 0, .int .u16 0] from (k42_mkM _ _ _ (⟨a0, (⟨0, 0⟩ : S35), 0, 32, 0, 0⟩ : S42) )) (Reps.none _ _))); intro v228 w41 ho42 hb hg_ hnew_; clear hg_ hnew_; (first | rw [← Ny227.out] at ho42 | (simp only [Int.reduceToNat] at ho42; rw [← Ny227.out] at ho42)); have n0_ := Aside0.mk (Kd.R_lower ho42 (below_size (by repeat (first | (with_reducible first | exact HB.out | apply below_alloc | apply pw_below_drewN | apply below_drew1 | refine below_set ?_ GE226.out) | exact HB.out)))); have n1_ := Aside0.mk (blk_below (g := gb226) (o := .cells #[.int .u32 x227000_2, .int .i64 a2] 35 (0, 0)) (by (with_reducible repeat (first | refine blk_drewN ?_ _ | refine blk_drew ?_ | refine blk_alloc ?_ _)); exact BK226.out) hb); have n2_ := Aside0.mk (below_step (by repeat (first | (with_reducible first | exact HB.out | apply below_alloc | apply pw_below_drewN | apply below_drew1 | refine below_set ?_ GE226.out) | exact HB.out)) hb); clear BK226; clear HB; have HO229 := n0_; have BK226 := n1_; have HB := n2_; clear n0_ n1_ n2_; clear hb ho42; have hcz43_0 : w41.cell? ⟨gb226, 0, none⟩ = some (.int .u32 x227000_2) := (blk_cell BK226.out 0).trans rfl; have hcz43_1 : w41.cell? ⟨gb226, 1, none⟩ = some (.int .i64 a2) := (blk_cell BK226.out 1).trans rfl; have hfz43_0 := blk_frozen BK226.out 0; have hfz43_1 := blk_frozen BK226.out 1; obtain ⟨Ao44, co44, eo44⟩ := Kd.R_slice HO229.out; subst eo44) | ((with_reducible refine gate_callee (f := 18) rfl ?_); refine goesL_ (some 53) rfl rfl Try.func18 (by kernel_rfl) rfl #[.slice Ao44 y227.length co44, .agg #[.int .u32 x227000_2, .int .i64 a2], .int .u16 a3] rfl (by (try simp only [List.map_toArray, List.map_cons, List.map_nil]); first | done | rfl | (simp only [List.length_drop, List.length_take]; rfl)) ?_; (with_reducible refine (filter_Permits.calls k2 _ _ y227 x227000_2 a2 a3 t230 t231 _ ?side1 ?side2 A18.out).mono ?_); (case side1 => repeat (first | exact (Kd.R_reads' HO229.out).2.2 | (with_reducible refine Kd.C_alloc ?_ _) | (with_reducible refine Kd.C_drewN ?_ _) | (with_reducible refine Kd.C_drew ?_))); (case side2 => exact (Kd.R_reads' HO229.out).2.1); rintro e w45 ⟨rfl, hb⟩; refine ⟨_, rfl, ?_⟩; have n0_ := Aside0.mk (Kd.R_below (by (with_reducible repeat (first | apply Kd.R_alloc | apply Kd.R_drewN | apply Kd.R_drew)); exact HO229.out) hb); have n1_ := Aside0.mk (blk_below (g := gb226) (o := .cells #[.int .u32 x227000_2, .int .i64 a2] 35 (0, 0)) (by (with_reducible repeat (first | refine blk_drewN ?_ _ | refine blk_drew ?_ | refine blk_alloc ?_ _)); exact BK226.out) hb); have n2_ := Aside0.mk (below_step (by repeat (first | (with_reducible first | exact HB.out | apply below_alloc | apply pw_below_drewN | apply below_drew1 | refine below_set ?_ GE226.out) | exact HB.out)) hb); clear HO229; clear BK226; clear HB; have HO229 := n0_; have BK226 := n1_; have HB := n2_; clear n0_ n1_ n2_; (try clear hb); (try clear hb2); (try clear hk); (try clear hi); have hcz46_0 : w45.cell? ⟨gb226, 0, none⟩ = some (.int .u32 x227000_2) := (blk_cell BK226.out 0).trans rfl; have hcz46_1 : w45.cell? ⟨gb226, 1, none⟩ = some (.int .i64 a2) := (blk_cell BK226.out 1).trans rfl; have hfz46_0 := blk_frozen BK226.out 0; have hfz46_1 := blk_frozen BK226.out 1) | ((with_reducible refine gate_callee (f := 18) rfl ?_); refine goesL_ (some 59) rfl rfl Try.func18 (by kernel_rfl) rfl #[.slice none 0 0, .agg #[.int .u32 x227000_2, .int .i64 a2], .int .u16 a3] rfl (by (try simp only [List.map_toArray, List.map_cons, List.map_nil]); first | done | rfl | (simp only [List.length_drop, List.length_take]; rfl)) ?_; (refine (filter_Permits.calls k2 _ _ ([] : List (S42)) x227000_2 a2 a3 t232 t233 _ ?side1 ?side2 A19.out).mono ?_); (case side1 => exact Kd.C_nil _ _); (case side2 => exact Nat.le_refl _); rintro e w47 ⟨rfl, hb⟩; refine ⟨_, rfl, ?_⟩; have n0_ := Aside0.mk (Kd.R_below (by (with_reducible repeat (first | apply Kd.R_alloc | apply Kd.R_drewN | apply Kd.R_drew)); exact HO229.out) hb); have n1_ := Aside0.mk (blk_below (g := gb226) (o := .cells #[.int .u32 x227000_2, .int .i64 a2] 35 (0, 0)) (by (with_reducible repeat (first | refine blk_drewN ?_ _ | refine blk_drew ?_ | refine blk_alloc ?_ _)); exact BK226.out) hb); have n2_ := Aside0.mk (below_step (by repeat (first | (with_reducible first | exact HB.out | apply below_alloc | apply pw_below_drewN | apply below_drew1 | refine below_set ?_ GE226.out) | exact HB.out)) hb); clear HO229; clear BK226; clear HB; have HO229 := n0_; have BK226 := n1_; have HB := n2_; clear n0_ n1_ n2_; (try clear hb); (try clear hb2); (try clear hk); (try clear hi)) | (go_at_call 20; (with_reducible refine (filter_May.calls k2 _ _ y227 true _ ?side1 ?side2 A21.out).mono ?_); (case side1 => repeat (first | exact (Kd.R_reads' HO229.out).2.2 | (with_reducible refine Kd.C_alloc ?_ _) | (with_reducible refine Kd.C_drewN ?_ _) | (with_reducible refine Kd.C_drew ?_))); (case side2 => exact (Kd.R_reads' HO229.out).2.1); rintro e w48 ⟨rfl, hb⟩; have n0_ := Aside0.mk (Kd.R_below (by (with_reducible repeat (first | apply Kd.R_alloc | apply Kd.R_drewN | apply Kd.R_drew)); exact HO229.out) hb); have n1_ := Aside0.mk (blk_below (g := gb226) (o := .cells #[.int .u32 x227000_2, .int .i64 a2] 35 (0, 0)) (by (with_reducible repeat (first | refine blk_drewN ?_ _ | refine blk_drew ?_ | refine blk_alloc ?_ _)); exact BK226.out) hb); have n2_ := Aside0.mk (below_step (by repeat (first | (with_reducible first | exact HB.out | apply below_alloc | apply pw_below_drewN | apply below_drew1 | refine below_set ?_ GE226.out) | exact HB.out)) hb); clear HO229; clear BK226; clear HB; have HO229 := n0_; have BK226 := n1_; have HB := n2_; clear n0_ n1_ n2_; (try clear hb); (try clear hb2); (try clear hk); (try clear hi)))
                    go_ret
                    exact ⟨by first | rfl | (simp [errW_none, errW_some] <;> rfl) | (simp [*, errW_none, errW_some] <;> rfl), by repeat (first | (with_reducible first | exact HB.out | apply below_alloc | apply pw_below_drewN | apply below_drew1 | refine below_set ?_ GE226.out) | exact HB.out)⟩
                · replace c22 := Bool.eq_false_iff.mpr c22
                  subst c22
                  have H1 : (some false) = some r := by rw [if_neg (show ¬ (false = true) by decide)] at H; exact H
                  clear H
                  have H := H1
                  clear H1
                  obtain rfl := Option.some.inj H
                  go_wp2_with (first | ((with_reducible refine gate_dst (N := 48) rfl ?_); refine Kd.R_lit k42 _ 42 ?hg (N := 48) ?hd (xs := ([(⟨a0, (⟨0, 0⟩ : S35), 0, 32, 0, 0⟩ : S42)] : List (S42))) (inner := [.bool a0, .int .u32 0, .int .i64 0, .int .i64 0, .int .i64 32, .int .u16 0, .int .u16 0]) (ok := fun _ => True) (okp := fun _ => True) ?hr ?hp (fun _ hk => hk) trivial (Below.refl _ _) (Nat.le_refl _) (by simp) ?_; (case hd => rfl); (case hg => rfl); (case hr => first | (go_simp; done) | (go_simp; rfl)); (case hp => exact (Reps.c7 (show Kd.M k42 _ _ _ (⟨a0, (⟨0, 0⟩ : S35), 0, 32, 0, 0⟩ : S42) [.bool a0, .int .u32 0, .int .i64 0, .int .i64 0, .int .i64 32, .int .u16 0, .int .u16 0] from (k42_mkM _ _ _ (⟨a0, (⟨0, 0⟩ : S35), 0, 32, 0, 0⟩ : S42) )) (Reps.none _ _))); intro v228 w49 ho50 hb hg_ hnew_; clear hg_ hnew_; (first | rw [← Ny227.out] at ho50 | (simp only [Int.reduceToNat] at ho50; rw [← Ny227.out] at ho50)); have n0_ := Aside0.mk (Kd.R_lower ho50 (below_size (by repeat (first | (with_reducible first | exact HB.out | apply below_alloc | apply pw_below_drewN | apply below_drew1 | refine below_set ?_ GE226.out) | exact HB.out)))); have n1_ := Aside0.mk (blk_below (g := gb226) (o := .cells #[.int .u32 x227000_2, .int .i64 a2] 35 (0, 0)) (by (with_reducible repeat (first | refine blk_drewN ?_ _ | refine blk_drew ?_ | refine blk_alloc ?_ _)); exact BK226.out) hb); have n2_ := Aside0.mk (below_step (by repeat (first | (with_reducible first | exact HB.out | apply below_alloc | apply pw_below_drewN | apply below_drew1 | refine below_set ?_ GE226.out) | exact HB.out)) hb); clear BK226; clear HB; have HO229 := n0_; have BK226 := n1_; have HB := n2_; clear n0_ n1_ n2_; clear hb ho50; have hcz51_0 : w49.cell? ⟨gb226, 0, none⟩ = some (.int .u32 x227000_2) := (blk_cell BK226.out 0).trans rfl; have hcz51_1 : w49.cell? ⟨gb226, 1, none⟩ = some (.int .i64 a2) := (blk_cell BK226.out 1).trans rfl; have hfz51_0 := blk_frozen BK226.out 0; have hfz51_1 := blk_frozen BK226.out 1; obtain ⟨Ao52, co52, eo52⟩ := Kd.R_slice HO229.out; subst eo52) | ((with_reducible refine gate_callee (f := 18) rfl ?_); refine goesL_ (some 53) rfl rfl Try.func18 (by kernel_rfl) rfl #[.slice Ao52 y227.length co52, .agg #[.int .u32 x227000_2, .int .i64 a2], .int .u16 a3] rfl (by (try simp only [List.map_toArray, List.map_cons, List.map_nil]); first | done | rfl | (simp only [List.length_drop, List.length_take]; rfl)) ?_; (with_reducible refine (filter_Permits.calls k2 _ _ y227 x227000_2 a2 a3 t230 t231 _ ?side1 ?side2 A18.out).mono ?_); (case side1 => repeat (first | exact (Kd.R_reads' HO229.out).2.2 | (with_reducible refine Kd.C_alloc ?_ _) | (with_reducible refine Kd.C_drewN ?_ _) | (with_reducible refine Kd.C_drew ?_))); (case side2 => exact (Kd.R_reads' HO229.out).2.1); rintro e w53 ⟨rfl, hb⟩; refine ⟨_, rfl, ?_⟩; have n0_ := Aside0.mk (Kd.R_below (by (with_reducible repeat (first | apply Kd.R_alloc | apply Kd.R_drewN | apply Kd.R_drew)); exact HO229.out) hb); have n1_ := Aside0.mk (blk_below (g := gb226) (o := .cells #[.int .u32 x227000_2, .int .i64 a2] 35 (0, 0)) (by (with_reducible repeat (first | refine blk_drewN ?_ _ | refine blk_drew ?_ | refine blk_alloc ?_ _)); exact BK226.out) hb); have n2_ := Aside0.mk (below_step (by repeat (first | (with_reducible first | exact HB.out | apply below_alloc | apply pw_below_drewN | apply below_drew1 | refine below_set ?_ GE226.out) | exact HB.out)) hb); clear HO229; clear BK226; clear HB; have HO229 := n0_; have BK226 := n1_; have HB := n2_; clear n0_ n1_ n2_; (try clear hb); (try clear hb2); (try clear hk); (try clear hi); have hcz54_0 : w53.cell? ⟨gb226, 0, none⟩ = some (.int .u32 x227000_2) := (blk_cell BK226.out 0).trans rfl; have hcz54_1 : w53.cell? ⟨gb226, 1, none⟩ = some (.int .i64 a2) := (blk_cell BK226.out 1).trans rfl; have hfz54_0 := blk_frozen BK226.out 0; have hfz54_1 := blk_frozen BK226.out 1) | ((with_reducible refine gate_callee (f := 18) rfl ?_); refine goesL_ (some 59) rfl rfl Try.func18 (by kernel_rfl) rfl #[.slice none 0 0, .agg #[.int .u32 x227000_2, .int .i64 a2], .int .u16 a3] rfl (by (try simp only [List.map_toArray, List.map_cons, List.map_nil]); first | done | rfl | (simp only [List.length_drop, List.length_take]; rfl)) ?_; (refine (filter_Permits.calls k2 _ _ ([] : List (S42)) x227000_2 a2 a3 t232 t233 _ ?side1 ?side2 A19.out).mono ?_); (case side1 => exact Kd.C_nil _ _); (case side2 => exact Nat.le_refl _); rintro e w55 ⟨rfl, hb⟩; refine ⟨_, rfl, ?_⟩; have n0_ := Aside0.mk (Kd.R_below (by (with_reducible repeat (first | apply Kd.R_alloc | apply Kd.R_drewN | apply Kd.R_drew)); exact HO229.out) hb); have n1_ := Aside0.mk (blk_below (g := gb226) (o := .cells #[.int .u32 x227000_2, .int .i64 a2] 35 (0, 0)) (by (with_reducible repeat (first | refine blk_drewN ?_ _ | refine blk_drew ?_ | refine blk_alloc ?_ _)); exact BK226.out) hb); have n2_ := Aside0.mk (below_step (by repeat (first | (with_reducible first | exact HB.out | apply below_alloc | apply pw_below_drewN | apply below_drew1 | refine below_set ?_ GE226.out) | exact HB.out)) hb); clear HO229; clear BK226; clear HB; have HO229 := n0_; have BK226 := n1_; have HB := n2_; clear n0_ n1_ n2_; (try clear hb); (try clear hb2); (try clear hk); (try clear hi)) | (go_at_call 20; (with_reducible refine (filter_May.calls k2 _ _ y227 false _ ?side1 ?side2 A21.out).mono ?_); (case side1 => repeat (first | exact (Kd.R_reads' HO229.out).2.2 | (with_reducible refine Kd.C_alloc ?_ _) | (with_reducible refine Kd.C_drewN ?_ _) | (with_reducible refine Kd.C_drew ?_))); (case side2 => exact (Kd.R_reads' HO229.out).2.1); rintro e w56 ⟨rfl, hb⟩; have n0_ := Aside0.mk (Kd.R_below (by (with_reducible repeat (first | apply Kd.R_alloc | apply Kd.R_drewN | apply Kd.R_drew)); exact HO229.out) hb); have n1_ := Aside0.mk (blk_below (g := gb226) (o := .cells #[.int .u32 x227000_2, .int .i64 a2] 35 (0, 0)) (by (with_reducible repeat (first | refine blk_drewN ?_ _ | refine blk_drew ?_ | refine blk_alloc ?_ _)); exact BK226.out) hb); have n2_ := Aside0.mk (below_step (by repeat (first | (with_reducible first | exact HB.out | apply below_alloc | apply pw_below_drewN | apply below_drew1 | refine below_set ?_ GE226.out) | exact HB.out)) hb); clear HO229; clear BK226; clear HB; have HO229 := n0_; have BK226 := n1_; have HB := n2_; clear n0_ n1_ n2_; (try clear hb); (try clear hb2); (try clear hk); (try clear hi)))
                  go_ret
                  exact ⟨by first | rfl | (simp [errW_none, errW_some] <;> rfl) | (simp [*, errW_none, errW_some] <;> rfl), by repeat (first | (with_reducible first | exact HB.out | apply below_alloc | apply pw_below_drewN | apply below_drew1 | refine below_set ?_ GE226.out) | exact HB.out)⟩
              · replace c20 := Bool.eq_false_iff.mpr c20
                subst c20
                have H1 : (some false) = some r := by rw [if_neg (show ¬ (false = true) by decide)] at H; exact H
                clear H
                have H := H1
                clear H1
                obtain rfl := Option.some.inj H
                go_wp2_with (first | ((with_reducible refine gate_dst (N := 48) rfl ?_); refine Kd.R_lit k42 _ 42 ?hg (N := 48) ?hd (xs := ([(⟨a0, (⟨0, 0⟩ : S35), 0, 32, 0, 0⟩ : S42)] : List (S42))) (inner := [.bool a0, .int .u32 0, .int .i64 0, .int .i64 0, .int .i64 32, .int .u16 0, .int .u16 0]) (ok := fun _ => True) (okp := fun _ => True) ?hr ?hp (fun _ hk => hk) trivial (Below.refl _ _) (Nat.le_refl _) (by simp) ?_; (case hd => rfl); (case hg => rfl); (case hr => first | (go_simp; done) | (go_simp; rfl)); (case hp => exact (Reps.c7 (show Kd.M k42 _ _ _ (⟨a0, (⟨0, 0⟩ : S35), 0, 32, 0, 0⟩ : S42) [.bool a0, .int .u32 0, .int .i64 0, .int .i64 0, .int .i64 32, .int .u16 0, .int .u16 0] from (k42_mkM _ _ _ (⟨a0, (⟨0, 0⟩ : S35), 0, 32, 0, 0⟩ : S42) )) (Reps.none _ _))); intro v228 w57 ho58 hb hg_ hnew_; clear hg_ hnew_; (first | rw [← Ny227.out] at ho58 | (simp only [Int.reduceToNat] at ho58; rw [← Ny227.out] at ho58)); have n0_ := Aside0.mk (Kd.R_lower ho58 (below_size (by repeat (first | (with_reducible first | exact HB.out | apply below_alloc | apply pw_below_drewN | apply below_drew1 | refine below_set ?_ GE226.out) | exact HB.out)))); have n1_ := Aside0.mk (blk_below (g := gb226) (o := .cells #[.int .u32 x227000_2, .int .i64 a2] 35 (0, 0)) (by (with_reducible repeat (first | refine blk_drewN ?_ _ | refine blk_drew ?_ | refine blk_alloc ?_ _)); exact BK226.out) hb); have n2_ := Aside0.mk (below_step (by repeat (first | (with_reducible first | exact HB.out | apply below_alloc | apply pw_below_drewN | apply below_drew1 | refine below_set ?_ GE226.out) | exact HB.out)) hb); clear BK226; clear HB; have HO229 := n0_; have BK226 := n1_; have HB := n2_; clear n0_ n1_ n2_; clear hb ho58; have hcz59_0 : w57.cell? ⟨gb226, 0, none⟩ = some (.int .u32 x227000_2) := (blk_cell BK226.out 0).trans rfl; have hcz59_1 : w57.cell? ⟨gb226, 1, none⟩ = some (.int .i64 a2) := (blk_cell BK226.out 1).trans rfl; have hfz59_0 := blk_frozen BK226.out 0; have hfz59_1 := blk_frozen BK226.out 1; obtain ⟨Ao60, co60, eo60⟩ := Kd.R_slice HO229.out; subst eo60) | ((with_reducible refine gate_callee (f := 18) rfl ?_); refine goesL_ (some 53) rfl rfl Try.func18 (by kernel_rfl) rfl #[.slice Ao60 y227.length co60, .agg #[.int .u32 x227000_2, .int .i64 a2], .int .u16 a3] rfl (by (try simp only [List.map_toArray, List.map_cons, List.map_nil]); first | done | rfl | (simp only [List.length_drop, List.length_take]; rfl)) ?_; (with_reducible refine (filter_Permits.calls k2 _ _ y227 x227000_2 a2 a3 t230 t231 _ ?side1 ?side2 A18.out).mono ?_); (case side1 => repeat (first | exact (Kd.R_reads' HO229.out).2.2 | (with_reducible refine Kd.C_alloc ?_ _) | (with_reducible refine Kd.C_drewN ?_ _) | (with_reducible refine Kd.C_drew ?_))); (case side2 => exact (Kd.R_reads' HO229.out).2.1); rintro e w61 ⟨rfl, hb⟩; refine ⟨_, rfl, ?_⟩; have n0_ := Aside0.mk (Kd.R_below (by (with_reducible repeat (first | apply Kd.R_alloc | apply Kd.R_drewN | apply Kd.R_drew)); exact HO229.out) hb); have n1_ := Aside0.mk (blk_below (g := gb226) (o := .cells #[.int .u32 x227000_2, .int .i64 a2] 35 (0, 0)) (by (with_reducible repeat (first | refine blk_drewN ?_ _ | refine blk_drew ?_ | refine blk_alloc ?_ _)); exact BK226.out) hb); have n2_ := Aside0.mk (below_step (by repeat (first | (with_reducible first | exact HB.out | apply below_alloc | apply pw_below_drewN | apply below_drew1 | refine below_set ?_ GE226.out) | exact HB.out)) hb); clear HO229; clear BK226; clear HB; have HO229 := n0_; have BK226 := n1_; have HB := n2_; clear n0_ n1_ n2_; (try clear hb); (try clear hb2); (try clear hk); (try clear hi); have hcz62_0 : w61.cell? ⟨gb226, 0, none⟩ = some (.int .u32 x227000_2) := (blk_cell BK226.out 0).trans rfl; have hcz62_1 : w61.cell? ⟨gb226, 1, none⟩ = some (.int .i64 a2) := (blk_cell BK226.out 1).trans rfl; have hfz62_0 := blk_frozen BK226.out 0; have hfz62_1 := blk_frozen BK226.out 1) | ((with_reducible refine gate_callee (f := 18) rfl ?_); refine goesL_ (some 59) rfl rfl Try.func18 (by kernel_rfl) rfl #[.slice none 0 0, .agg #[.int .u32 x227000_2, .int .i64 a2], .int .u16 a3] rfl (by (try simp only [List.map_toArray, List.map_cons, List.map_nil]); first | done | rfl | (simp only [List.length_drop, List.length_take]; rfl)) ?_; (refine (filter_Permits.calls k2 _ _ ([] : List (S42)) x227000_2 a2 a3 t232 t233 _ ?side1 ?side2 A19.out).mono ?_); (case side1 => exact Kd.C_nil _ _); (case side2 => exact Nat.le_refl _); rintro e w63 ⟨rfl, hb⟩; refine ⟨_, rfl, ?_⟩; have n0_ := Aside0.mk (Kd.R_below (by (with_reducible repeat (first | apply Kd.R_alloc | apply Kd.R_drewN | apply Kd.R_drew)); exact HO229.out) hb); have n1_ := Aside0.mk (blk_below (g := gb226) (o := .cells #[.int .u32 x227000_2, .int .i64 a2] 35 (0, 0)) (by (with_reducible repeat (first | refine blk_drewN ?_ _ | refine blk_drew ?_ | refine blk_alloc ?_ _)); exact BK226.out) hb); have n2_ := Aside0.mk (below_step (by repeat (first | (with_reducible first | exact HB.out | apply below_alloc | apply pw_below_drewN | apply below_drew1 | refine below_set ?_ GE226.out) | exact HB.out)) hb); clear HO229; clear BK226; clear HB; have HO229 := n0_; have BK226 := n1_; have HB := n2_; clear n0_ n1_ n2_; (try clear hb); (try clear hb2); (try clear hk); (try clear hi)))
                go_ret
                exact ⟨by first | rfl | (simp [errW_none, errW_some] <;> rfl) | (simp [*, errW_none, errW_some] <;> rfl), by repeat (first | (with_reducible first | exact HB.out | apply below_alloc | apply pw_below_drewN | apply below_drew1 | refine below_set ?_ GE226.out) | exact HB.out)⟩

/-- THE ONE PURE STATEMENT of octroilaw13_FilterAll: yours. -/
def octroilaw13_FilterAll.Pure : Prop := ∀ (a0 : Bool) (a1 : Int) (a2 : Int) (a3 : Int), (Lit.int .u32 a1).wf = true → (Lit.int .i64 a2).wf = true → (Lit.int .u16 a3).wf = true → ∃ k, octroilaw13_FilterAll.f k a0 a1 a2 a3 = some true
theorem octroilaw13_FilterAll.walk (P : octroilaw13_FilterAll.Pure) (a0 : Bool) (a1 : Int) (a2 : Int) (a3 : Int) (w : World) (w1 : (Lit.int .u32 a1).wf = true) (w2 : (Lit.int .i64 a2).wf = true) (w3 : (Lit.int .u16 a3).wf = true) :
    Calls Try.prog 9 #[.bool a0, .int .u32 a1, .int .i64 a2, .int .u16 a3] w fun e w' => e = .returned (.bool true) ∧ Below w.heap.size w w' := by
  obtain ⟨k, h⟩ := P a0 a1 a2 a3 w1 w2 w3
  refine (octroilaw13_FilterAll.calls k a0 a1 a2 a3 true w h).mono ?_
  rintro e w' ⟨rfl, hd⟩
  exact ⟨rfl, hd⟩

/-! ### octroilaw13_FilterTags: function 10 -/
def octroilaw13_FilterTags.f (k : Nat) (a0 : Int) (a1 : Int) (a2 : Int) : Option (Bool) := (octroilaw13_awake.f k).bind fun t235 => ((filter_Permits.f k (([(⟨true, (⟨0, 0⟩ : S35), 0, 32, a0, a1⟩ : S42)] : List (S42))) 0 0 a2).bind fun bt239 => (if (Go.bits .and .u16 a2 a0) = a0 then (if t235 = true then (if (bt239.1 == ((Go.bits .and .u16 a2 a1) == 0)) = true then (some ((bt239.2 == 0) == ((Go.bits .and .u16 a2 a1) == 0))) else (some false)) else (some false)) else (if t235 = true then (if (bt239.1 == false) = true then (some ((bt239.2 == 0) == false)) else (some false)) else (some false))))
theorem octroilaw13_FilterTags.mono : ∀ a0 a1 a2 k, LeO (octroilaw13_FilterTags.f k a0 a1 a2) (octroilaw13_FilterTags.f (k + 1) a0 a1 a2) := by
  intro a0 a1 a2 k
  unfold octroilaw13_FilterTags.f
  repeat' first
      | (with_reducible exact filter_Permits.mono _ _ _ _ _)
      | (with_reducible exact octroilaw13_awake.mono _)
      | (with_reducible exact LeO.refl _)
      | (with_reducible exact LeO.none _)
      | (with_reducible refine LeO.ite ?_ ?_)
      | (with_reducible refine LeO.bind ?_ (fun _ => ?_))
      | exact filter_Permits.mono _ _ _ _ _
      | exact octroilaw13_awake.mono _
      | exact LeO.none _
      | refine LeO.ite ?_ ?_
      | refine LeO.bind ?_ (fun _ => ?_)
set_option maxHeartbeats 8000000 in
set_option maxRecDepth 100000 in
theorem octroilaw13_FilterTags.calls (k : Nat) (a0 : Int) (a1 : Int) (a2 : Int) (r : Bool) (w : World) (h : octroilaw13_FilterTags.f k a0 a1 a2 = some r) :
    Calls Try.prog 10 #[.int .u16 a0, .int .u16 a1, .int .u16 a2] w fun e w' => e = .returned (.bool r) ∧ Below w.heap.size w w' := by
  have hu42 := Try.underlying42
  have hu35 := Try.underlying35
  have HB := Aside0.mk (Below.refl w.heap.size w)
  have H : ((octroilaw13_awake.f k).bind fun t235 => ((filter_Permits.f k (([(⟨true, (⟨0, 0⟩ : S35), 0, 32, a0, a1⟩ : S42)] : List (S42))) 0 0 a2).bind fun bt239 => (if (Go.bits .and .u16 a2 a0) = a0 then (if t235 = true then (if (bt239.1 == ((Go.bits .and .u16 a2 a1) == 0)) = true then (some ((bt239.2 == 0) == ((Go.bits .and .u16 a2 a1) == 0))) else (some false)) else (some false)) else (if t235 = true then (if (bt239.1 == false) = true then (some ((bt239.2 == 0) == false)) else (some false)) else (some false))))) = some r := h
  clear h
  replace H := Option.bind_eq_some_iff.mp H
  obtain ⟨t235, A40, H⟩ := H
  replace H : ((filter_Permits.f k (([(⟨true, (⟨0, 0⟩ : S35), 0, 32, a0, a1⟩ : S42)] : List (S42))) 0 0 a2).bind fun bt239 => (if (Go.bits .and .u16 a2 a0) = a0 then (if t235 = true then (if (bt239.1 == ((Go.bits .and .u16 a2 a1) == 0)) = true then (some ((bt239.2 == 0) == ((Go.bits .and .u16 a2 a1) == 0))) else (some false)) else (some false)) else (if t235 = true then (if (bt239.1 == false) = true then (some ((bt239.2 == 0) == false)) else (some false)) else (some false)))) = some r := H
  have A4 := Aside0.mk A40
  clear A40
  obtain ⟨y236, hy236⟩ : ∃ y_ : List (S42), y_ = (([(⟨true, (⟨0, 0⟩ : S35), 0, 32, a0, a1⟩ : S42)] : List (S42))) := ⟨_, rfl⟩
  replace H : ((filter_Permits.f k y236 0 0 a2).bind fun bt239 => (if (Go.bits .and .u16 a2 a0) = a0 then (if t235 = true then (if (bt239.1 == ((Go.bits .and .u16 a2 a1) == 0)) = true then (some ((bt239.2 == 0) == ((Go.bits .and .u16 a2 a1) == 0))) else (some false)) else (some false)) else (if t235 = true then (if (bt239.1 == false) = true then (some ((bt239.2 == 0) == false)) else (some false)) else (some false)))) = some r := by first | (rw [hy236]; with_reducible exact H) | (have H2_ := (Option.bind_some _ _).symm.trans H; rw [hy236]; with_reducible exact H2_) | (have H2_ := (Option.bind_some _ _).symm.trans H; with_reducible exact H2_) | with_reducible exact H | (rw [hy236]; exact H) | exact H
  have Ny236 := Aside0.mk hy236
  clear hy236
  replace H := Option.bind_eq_some_iff.mp H
  obtain ⟨⟨t239, t240⟩, A50, H⟩ := H
  replace H : (if (Go.bits .and .u16 a2 a0) = a0 then (if t235 = true then (if (t239 == ((Go.bits .and .u16 a2 a1) == 0)) = true then (some ((t240 == 0) == ((Go.bits .and .u16 a2 a1) == 0))) else (some false)) else (some false)) else (if t235 = true then (if (t239 == false) = true then (some ((t240 == 0) == false)) else (some false)) else (some false))) = some r := H
  have A5 := Aside0.mk A50
  clear A50
  by_cases c6 : (Go.bits .and .u16 a2 a0) = a0
  · rw [if_pos c6] at H
    have c6b0 : ((Go.bits .and .u16 a2 a0) == a0) = true := beq_iff_eq.mpr c6
    have c6b1 : ((Go.bits .and .u16 a2 a0) != a0) = false := bne_eq_false_iff_eq.mpr c6
    clear c6
    by_cases c7 : t235 = true
    · subst c7
      have H1 : (if (t239 == ((Go.bits .and .u16 a2 a1) == 0)) = true then (some ((t240 == 0) == ((Go.bits .and .u16 a2 a1) == 0))) else (some false)) = some r := by rw [if_pos rfl] at H; exact H
      clear H
      have H := H1
      clear H1
      by_cases c8 : (t239 == ((Go.bits .and .u16 a2 a1) == 0)) = true
      · rw [if_pos c8] at H
        have c8b0 : (t239 == ((Go.bits .and .u16 a2 a1) == 0)) = true := c8
        (try (have c8b1 : decide (t239 = ((Go.bits .and .u16 a2 a1) == 0)) = true := by simpa using c8))
        (try (have c8b2 : (t239 == ((Go.bits .and .u16 a2 a1) == 0)) = true := by simpa using c8))
        clear c8
        obtain rfl := Option.some.inj H
        go_enter Try.func10, Try.ntmps10
        go_wp2_with (first | ((with_reducible refine gate_callee (f := 17) rfl ?_); refine goesL_ (some 12) rfl rfl Try.func17 (by kernel_rfl) rfl #[] rfl (by (try simp only [List.map_toArray, List.map_cons, List.map_nil]); first | done | rfl | (simp only [List.length_drop, List.length_take]; rfl)) ?_; (with_reducible refine (octroilaw13_awake.calls k  true _ A4.out).mono ?_); rintro e w9 ⟨rfl, hb⟩; refine ⟨_, rfl, ?_⟩; have n0_ := Aside0.mk (below_step (by repeat (first | (with_reducible first | exact HB.out | apply below_alloc | apply pw_below_drewN | apply below_drew1) | exact HB.out)) hb); clear HB; have HB := n0_; clear n0_; (try clear hb); (try clear hb2); (try clear hk); (try clear hi)) | ((with_reducible refine gate_dst (N := 16) rfl ?_); refine Kd.R_lit k42 _ 42 ?hg (N := 16) ?hd (xs := ([(⟨true, (⟨0, 0⟩ : S35), 0, 32, a0, a1⟩ : S42)] : List (S42))) (inner := [.bool true, .int .u32 0, .int .i64 0, .int .i64 0, .int .i64 32, .int .u16 a0, .int .u16 a1]) (ok := fun _ => True) (okp := fun _ => True) ?hr ?hp (fun _ hk => hk) trivial (Below.refl _ _) (Nat.le_refl _) (by simp) ?_; (case hd => rfl); (case hg => rfl); (case hr => first | (go_simp; done) | (go_simp; rfl)); (case hp => exact (Reps.c7 (show Kd.M k42 _ _ _ (⟨true, (⟨0, 0⟩ : S35), 0, 32, a0, a1⟩ : S42) [.bool true, .int .u32 0, .int .i64 0, .int .i64 0, .int .i64 32, .int .u16 a0, .int .u16 a1] from (k42_mkM _ _ _ (⟨true, (⟨0, 0⟩ : S35), 0, 32, a0, a1⟩ : S42) )) (Reps.none _ _))); intro v237 w10 ho11 hb hg_ hnew_; clear hg_ hnew_; (first | rw [← Ny236.out] at ho11 | (simp only [Int.reduceToNat] at ho11; rw [← Ny236.out] at ho11)); have n0_ := Aside0.mk (Kd.R_lower ho11 (below_size (by repeat (first | (with_reducible first | exact HB.out | apply below_alloc | apply pw_below_drewN | apply below_drew1) | exact HB.out)))); have n1_ := Aside0.mk (below_step (by repeat (first | (with_reducible first | exact HB.out | apply below_alloc | apply pw_below_drewN | apply below_drew1) | exact HB.out)) hb); clear HB; have HO238 := n0_; have HB := n1_; clear n0_ n1_; clear hb ho11; obtain ⟨Ao12, co12, eo12⟩ := Kd.R_slice HO238.out; subst eo12) | ((with_reducible refine gate_callee (f := 18) rfl ?_); refine goesL_ (some 21) rfl rfl Try.func18 (by kernel_rfl) rfl #[.slice Ao12 y236.length co12, .agg #[.int .u32 0, .int .i64 0], .int .u16 a2] rfl (by (try simp only [List.map_toArray, List.map_cons, List.map_nil]); first | done | rfl | (simp only [List.length_drop, List.length_take]; rfl)) ?_; (with_reducible refine (filter_Permits.calls k _ _ y236 0 0 a2 t239 t240 _ ?side1 ?side2 A5.out).mono ?_); (case side1 => repeat (first | exact (Kd.R_reads' HO238.out).2.2 | (with_reducible refine Kd.C_alloc ?_ _) | (with_reducible refine Kd.C_drewN ?_ _) | (with_reducible refine Kd.C_drew ?_))); (case side2 => exact (Kd.R_reads' HO238.out).2.1); rintro e w13 ⟨rfl, hb⟩; refine ⟨_, rfl, ?_⟩; have n0_ := Aside0.mk (Kd.R_below (by (with_reducible repeat (first | apply Kd.R_alloc | apply Kd.R_drewN | apply Kd.R_drew)); exact HO238.out) hb); have n1_ := Aside0.mk (below_step (by repeat (first | (with_reducible first | exact HB.out | apply below_alloc | apply pw_below_drewN | apply below_drew1) | exact HB.out)) hb); clear HO238; clear HB; have HO238 := n0_; have HB := n1_; clear n0_ n1_; (try clear hb); (try clear hb2); (try clear hk); (try clear hi)))
        go_ret
        exact ⟨by first | rfl | (simp [errW_none, errW_some] <;> rfl) | (simp [*, errW_none, errW_some] <;> rfl), by repeat (first | (with_reducible first | exact HB.out | apply below_alloc | apply pw_below_drewN | apply below_drew1) | exact HB.out)⟩
      · rw [if_neg c8] at H
        have c8b0 : (t239 == ((Go.bits .and .u16 a2 a1) == 0)) = false := by simpa using c8
        (try (have c8b1 : decide (t239 = ((Go.bits .and .u16 a2 a1) == 0)) = false := by simpa using c8))
        (try (have c8b2 : (t239 == ((Go.bits .and .u16 a2 a1) == 0)) = false := by simpa using c8))
        (try (have c8b3 : ¬ (t239 = ((Go.bits .and .u16 a2 a1) == 0)) := by simpa using c8))
        clear c8
        obtain rfl := Option.some.inj H
        go_enter Try.func10, Try.ntmps10
        go_wp2_with (first | ((with_reducible refine gate_callee (f := 17) rfl ?_); refine goesL_ (some 12) rfl rfl Try.func17 (by kernel_rfl) rfl #[] rfl (by (try simp only [List.map_toArray, List.map_cons, List.map_nil]); first | done | rfl | (simp only [List.length_drop, List.length_take]; rfl)) ?_; (with_reducible refine (octroilaw13_awake.calls k  true _ A4.out).mono ?_); rintro e w14 ⟨rfl, hb⟩; refine ⟨_, rfl, ?_⟩; have n0_ := Aside0.mk (below_step (by repeat (first | (with_reducible first | exact HB.out | apply below_alloc | apply pw_below_drewN | apply below_drew1) | exact HB.out)) hb); clear HB; have HB := n0_; clear n0_; (try clear hb); (try clear hb2); (try clear hk); (try clear hi)) | ((with_reducible refine gate_dst (N := 16) rfl ?_); refine Kd.R_lit k42 _ 42 ?hg (N := 16) ?hd (xs := ([(⟨true, (⟨0, 0⟩ : S35), 0, 32, a0, a1⟩ : S42)] : List (S42))) (inner := [.bool true, .int .u32 0, .int .i64 0, .int .i64 0, .int .i64 32, .int .u16 a0, .int .u16 a1]) (ok := fun _ => True) (okp := fun _ => True) ?hr ?hp (fun _ hk => hk) trivial (Below.refl _ _) (Nat.le_refl _) (by simp) ?_; (case hd => rfl); (case hg => rfl); (case hr => first | (go_simp; done) | (go_simp; rfl)); (case hp => exact (Reps.c7 (show Kd.M k42 _ _ _ (⟨true, (⟨0, 0⟩ : S35), 0, 32, a0, a1⟩ : S42) [.bool true, .int .u32 0, .int .i64 0, .int .i64 0, .int .i64 32, .int .u16 a0, .int .u16 a1] from (k42_mkM _ _ _ (⟨true, (⟨0, 0⟩ : S35), 0, 32, a0, a1⟩ : S42) )) (Reps.none _ _))); intro v237 w15 ho16 hb hg_ hnew_; clear hg_ hnew_; (first | rw [← Ny236.out] at ho16 | (simp only [Int.reduceToNat] at ho16; rw [← Ny236.out] at ho16)); have n0_ := Aside0.mk (Kd.R_lower ho16 (below_size (by repeat (first | (with_reducible first | exact HB.out | apply below_alloc | apply pw_below_drewN | apply below_drew1) | exact HB.out)))); have n1_ := Aside0.mk (below_step (by repeat (first | (with_reducible first | exact HB.out | apply below_alloc | apply pw_below_drewN | apply below_drew1) | exact HB.out)) hb); clear HB; have HO238 := n0_; have HB := n1_; clear n0_ n1_; clear hb ho16; obtain ⟨Ao17, co17, eo17⟩ := Kd.R_slice HO238.out; subst eo17) | ((with_reducible refine gate_callee (f := 18) rfl ?_); refine goesL_ (some 21) rfl rfl Try.func18 (by kernel_rfl) rfl #[.slice Ao17 y236.length co17, .agg #[.int .u32 0, .int .i64 0], .int .u16 a2] rfl (by (try simp only [List.map_toArray, List.map_cons, List.map_nil]); first | done | rfl | (simp only [List.length_drop, List.length_take]; rfl)) ?_; (with_reducible refine (filter_Permits.calls k _ _ y236 0 0 a2 t239 t240 _ ?side1 ?side2 A5.out).mono ?_); (case side1 => repeat (first | exact (Kd.R_reads' HO238.out).2.2 | (with_reducible refine Kd.C_alloc ?_ _) | (with_reducible refine Kd.C_drewN ?_ _) | (with_reducible refine Kd.C_drew ?_))); (case side2 => exact (Kd.R_reads' HO238.out).2.1); rintro e w18 ⟨rfl, hb⟩; refine ⟨_, rfl, ?_⟩; have n0_ := Aside0.mk (Kd.R_below (by (with_reducible repeat (first | apply Kd.R_alloc | apply Kd.R_drewN | apply Kd.R_drew)); exact HO238.out) hb); have n1_ := Aside0.mk (below_step (by repeat (first | (with_reducible first | exact HB.out | apply below_alloc | apply pw_below_drewN | apply below_drew1) | exact HB.out)) hb); clear HO238; clear HB; have HO238 := n0_; have HB := n1_; clear n0_ n1_; (try clear hb); (try clear hb2); (try clear hk); (try clear hi)))
        go_ret
        exact ⟨by first | rfl | (simp [errW_none, errW_some] <;> rfl) | (simp [*, errW_none, errW_some] <;> rfl), by repeat (first | (with_reducible first | exact HB.out | apply below_alloc | apply pw_below_drewN | apply below_drew1) | exact HB.out)⟩
    · replace c7 := Bool.eq_false_iff.mpr c7
      subst c7
      have H1 : (some false) = some r := by rw [if_neg (show ¬ (false = true) by decide)] at H; exact H
      clear H
      have H := H1
      clear H1
      obtain rfl := Option.some.inj H
      go_enter Try.func10, Try.ntmps10
      go_wp2_with (first | ((with_reducible refine gate_callee (f := 17) rfl ?_); refine goesL_ (some 12) rfl rfl Try.func17 (by kernel_rfl) rfl #[] rfl (by (try simp only [List.map_toArray, List.map_cons, List.map_nil]); first | done | rfl | (simp only [List.length_drop, List.length_take]; rfl)) ?_; (with_reducible refine (octroilaw13_awake.calls k  false _ A4.out).mono ?_); rintro e w19 ⟨rfl, hb⟩; refine ⟨_, rfl, ?_⟩; have n0_ := Aside0.mk (below_step (by repeat (first | (with_reducible first | exact HB.out | apply below_alloc | apply pw_below_drewN | apply below_drew1) | exact HB.out)) hb); clear HB; have HB := n0_; clear n0_; (try clear hb); (try clear hb2); (try clear hk); (try clear hi)) | ((with_reducible refine gate_dst (N := 16) rfl ?_); refine Kd.R_lit k42 _ 42 ?hg (N := 16) ?hd (xs := ([(⟨true, (⟨0, 0⟩ : S35), 0, 32, a0, a1⟩ : S42)] : List (S42))) (inner := [.bool true, .int .u32 0, .int .i64 0, .int .i64 0, .int .i64 32, .int .u16 a0, .int .u16 a1]) (ok := fun _ => True) (okp := fun _ => True) ?hr ?hp (fun _ hk => hk) trivial (Below.refl _ _) (Nat.le_refl _) (by simp) ?_; (case hd => rfl); (case hg => rfl); (case hr => first | (go_simp; done) | (go_simp; rfl)); (case hp => exact (Reps.c7 (show Kd.M k42 _ _ _ (⟨true, (⟨0, 0⟩ : S35), 0, 32, a0, a1⟩ : S42) [.bool true, .int .u32 0, .int .i64 0, .int .i64 0, .int .i64 32, .int .u16 a0, .int .u16 a1] from (k42_mkM _ _ _ (⟨true, (⟨0, 0⟩ : S35), 0, 32, a0, a1⟩ : S42) )) (Reps.none _ _))); intro v237 w20 ho21 hb hg_ hnew_; clear hg_ hnew_; (first | rw [← Ny236.out] at ho21 | (simp only [Int.reduceToNat] at ho21; rw [← Ny236.out] at ho21)); have n0_ := Aside0.mk (Kd.R_lower ho21 (below_size (by repeat (first | (with_reducible first | exact HB.out | apply below_alloc | apply pw_below_drewN | apply below_drew1) | exact HB.out)))); have n1_ := Aside0.mk (below_step (by repeat (first | (with_reducible first | exact HB.out | apply below_alloc | apply pw_below_drewN | apply below_drew1) | exact HB.out)) hb); clear HB; have HO238 := n0_; have HB := n1_; clear n0_ n1_; clear hb ho21; obtain ⟨Ao22, co22, eo22⟩ := Kd.R_slice HO238.out; subst eo22) | ((with_reducible refine gate_callee (f := 18) rfl ?_); refine goesL_ (some 21) rfl rfl Try.func18 (by kernel_rfl) rfl #[.slice Ao22 y236.length co22, .agg #[.int .u32 0, .int .i64 0], .int .u16 a2] rfl (by (try simp only [List.map_toArray, List.map_cons, List.map_nil]); first | done | rfl | (simp only [List.length_drop, List.length_take]; rfl)) ?_; (with_reducible refine (filter_Permits.calls k _ _ y236 0 0 a2 t239 t240 _ ?side1 ?side2 A5.out).mono ?_); (case side1 => repeat (first | exact (Kd.R_reads' HO238.out).2.2 | (with_reducible refine Kd.C_alloc ?_ _) | (with_reducible refine Kd.C_drewN ?_ _) | (with_reducible refine Kd.C_drew ?_))); (case side2 => exact (Kd.R_reads' HO238.out).2.1); rintro e w23 ⟨rfl, hb⟩; refine ⟨_, rfl, ?_⟩; have n0_ := Aside0.mk (Kd.R_below (by (with_reducible repeat (first | apply Kd.R_alloc | apply Kd.R_drewN | apply Kd.R_drew)); exact HO238.out) hb); have n1_ := Aside0.mk (below_step (by repeat (first | (with_reducible first | exact HB.out | apply below_alloc | apply pw_below_drewN | apply below_drew1) | exact HB.out)) hb); clear HO238; clear HB; have HO238 := n0_; have HB := n1_; clear n0_ n1_; (try clear hb); (try clear hb2); (try clear hk); (try clear hi)))
      go_ret
      exact ⟨by first | rfl | (simp [errW_none, errW_some] <;> rfl) | (simp [*, errW_none, errW_some] <;> rfl), by repeat (first | (with_reducible first | exact HB.out | apply below_alloc | apply pw_below_drewN | apply below_drew1) | exact HB.out)⟩
  · rw [if_neg c6] at H
    have c6b0 : ((Go.bits .and .u16 a2 a0) == a0) = false := beq_eq_false_iff_ne.mpr c6
    have c6b1 : ((Go.bits .and .u16 a2 a0) != a0) = true := bne_iff_ne.mpr c6
    by_cases c24 : t235 = true
    · subst c24
      have H1 : (if (t239 == false) = true then (some ((t240 == 0) == false)) else (some false)) = some r := by rw [if_pos rfl] at H; exact H
      clear H
      have H := H1
      clear H1
      by_cases c25 : (t239 == false) = true
      · rw [if_pos c25] at H
        have c25b0 : (t239 == false) = true := c25
        (try (have c25b1 : decide (t239 = false) = true := by simpa using c25))
        (try (have c25b2 : (t239 == false) = true := by simpa using c25))
        clear c25
        obtain rfl := Option.some.inj H
        go_enter Try.func10, Try.ntmps10
        go_wp2_with (first | ((with_reducible refine gate_callee (f := 17) rfl ?_); refine goesL_ (some 12) rfl rfl Try.func17 (by kernel_rfl) rfl #[] rfl (by (try simp only [List.map_toArray, List.map_cons, List.map_nil]); first | done | rfl | (simp only [List.length_drop, List.length_take]; rfl)) ?_; (with_reducible refine (octroilaw13_awake.calls k  true _ A4.out).mono ?_); rintro e w26 ⟨rfl, hb⟩; refine ⟨_, rfl, ?_⟩; have n0_ := Aside0.mk (below_step (by repeat (first | (with_reducible first | exact HB.out | apply below_alloc | apply pw_below_drewN | apply below_drew1) | exact HB.out)) hb); clear HB; have HB := n0_; clear n0_; (try clear hb); (try clear hb2); (try clear hk); (try clear hi)) | ((with_reducible refine gate_dst (N := 16) rfl ?_); refine Kd.R_lit k42 _ 42 ?hg (N := 16) ?hd (xs := ([(⟨true, (⟨0, 0⟩ : S35), 0, 32, a0, a1⟩ : S42)] : List (S42))) (inner := [.bool true, .int .u32 0, .int .i64 0, .int .i64 0, .int .i64 32, .int .u16 a0, .int .u16 a1]) (ok := fun _ => True) (okp := fun _ => True) ?hr ?hp (fun _ hk => hk) trivial (Below.refl _ _) (Nat.le_refl _) (by simp) ?_; (case hd => rfl); (case hg => rfl); (case hr => first | (go_simp; done) | (go_simp; rfl)); (case hp => exact (Reps.c7 (show Kd.M k42 _ _ _ (⟨true, (⟨0, 0⟩ : S35), 0, 32, a0, a1⟩ : S42) [.bool true, .int .u32 0, .int .i64 0, .int .i64 0, .int .i64 32, .int .u16 a0, .int .u16 a1] from (k42_mkM _ _ _ (⟨true, (⟨0, 0⟩ : S35), 0, 32, a0, a1⟩ : S42) )) (Reps.none _ _))); intro v237 w27 ho28 hb hg_ hnew_; clear hg_ hnew_; (first | rw [← Ny236.out] at ho28 | (simp only [Int.reduceToNat] at ho28; rw [← Ny236.out] at ho28)); have n0_ := Aside0.mk (Kd.R_lower ho28 (below_size (by repeat (first | (with_reducible first | exact HB.out | apply below_alloc | apply pw_below_drewN | apply below_drew1) | exact HB.out)))); have n1_ := Aside0.mk (below_step (by repeat (first | (with_reducible first | exact HB.out | apply below_alloc | apply pw_below_drewN | apply below_drew1) | exact HB.out)) hb); clear HB; have HO238 := n0_; have HB := n1_; clear n0_ n1_; clear hb ho28; obtain ⟨Ao29, co29, eo29⟩ := Kd.R_slice HO238.out; subst eo29) | ((with_reducible refine gate_callee (f := 18) rfl ?_); refine goesL_ (some 21) rfl rfl Try.func18 (by kernel_rfl) rfl #[.slice Ao29 y236.length co29, .agg #[.int .u32 0, .int .i64 0], .int .u16 a2] rfl (by (try simp only [List.map_toArray, List.map_cons, List.map_nil]); first | done | rfl | (simp only [List.length_drop, List.length_take]; rfl)) ?_; (with_reducible refine (filter_Permits.calls k _ _ y236 0 0 a2 t239 t240 _ ?side1 ?side2 A5.out).mono ?_); (case side1 => repeat (first | exact (Kd.R_reads' HO238.out).2.2 | (with_reducible refine Kd.C_alloc ?_ _) | (with_reducible refine Kd.C_drewN ?_ _) | (with_reducible refine Kd.C_drew ?_))); (case side2 => exact (Kd.R_reads' HO238.out).2.1); rintro e w30 ⟨rfl, hb⟩; refine ⟨_, rfl, ?_⟩; have n0_ := Aside0.mk (Kd.R_below (by (with_reducible repeat (first | apply Kd.R_alloc | apply Kd.R_drewN | apply Kd.R_drew)); exact HO238.out) hb); have n1_ := Aside0.mk (below_step (by repeat (first | (with_reducible first | exact HB.out | apply below_alloc | apply pw_below_drewN | apply below_drew1) | exact HB.out)) hb); clear HO238; clear HB; have HO238 := n0_; have HB := n1_; clear n0_ n1_; (try clear hb); (try clear hb2); (try clear hk); (try clear hi)))
        go_ret
        exact ⟨by first | rfl | (simp [errW_none, errW_some] <;> rfl) | (simp [*, errW_none, errW_some] <;> rfl), by repeat (first | (with_reducible first | exact HB.out | apply below_alloc | apply pw_below_drewN | apply below_drew1) | exact HB.out)⟩
      · rw [if_neg c25] at H
        have c25b0 : (t239 == false) = false := by simpa using c25
        (try (have c25b1 : decide (t239 = false) = false := by simpa using c25))
        (try (have c25b2 : (t239 == false) = false := by simpa using c25))
        (try (have c25b3 : ¬ (t239 = false) := by simpa using c25))
        clear c25
        obtain rfl := Option.some.inj H
        go_enter Try.func10, Try.ntmps10
        go_wp2_with (first | ((with_reducible refine gate_callee (f := 17) rfl ?_); refine goesL_ (some 12) rfl rfl Try.func17 (by kernel_rfl) rfl #[] rfl (by (try simp only [List.map_toArray, List.map_cons, List.map_nil]); first | done | rfl | (simp only [List.length_drop, List.length_take]; rfl)) ?_; (with_reducible refine (octroilaw13_awake.calls k  true _ A4.out).mono ?_); rintro e w31 ⟨rfl, hb⟩; refine ⟨_, rfl, ?_⟩; have n0_ := Aside0.mk (below_step (by repeat (first | (with_reducible first | exact HB.out | apply below_alloc | apply pw_below_drewN | apply below_drew1) | exact HB.out)) hb); clear HB; have HB := n0_; clear n0_; (try clear hb); (try clear hb2); (try clear hk); (try clear hi)) | ((with_reducible refine gate_dst (N := 16) rfl ?_); refine Kd.R_lit k42 _ 42 ?hg (N := 16) ?hd (xs := ([(⟨true, (⟨0, 0⟩ : S35), 0, 32, a0, a1⟩ : S42)] : List (S42))) (inner := [.bool true, .int .u32 0, .int .i64 0, .int .i64 0, .int .i64 32, .int .u16 a0, .int .u16 a1]) (ok := fun _ => True) (okp := fun _ => True) ?hr ?hp (fun _ hk => hk) trivial (Below.refl _ _) (Nat.le_refl _) (by simp) ?_; (case hd => rfl); (case hg => rfl); (case hr => first | (go_simp; done) | (go_simp; rfl)); (case hp => exact (Reps.c7 (show Kd.M k42 _ _ _ (⟨true, (⟨0, 0⟩ : S35), 0, 32, a0, a1⟩ : S42) [.bool true, .int .u32 0, .int .i64 0, .int .i64 0, .int .i64 32, .int .u16 a0, .int .u16 a1] from (k42_mkM _ _ _ (⟨true, (⟨0, 0⟩ : S35), 0, 32, a0, a1⟩ : S42) )) (Reps.none _ _))); intro v237 w32 ho33 hb hg_ hnew_; clear hg_ hnew_; (first | rw [← Ny236.out] at ho33 | (simp only [Int.reduceToNat] at ho33; rw [← Ny236.out] at ho33)); have n0_ := Aside0.mk (Kd.R_lower ho33 (below_size (by repeat (first | (with_reducible first | exact HB.out | apply below_alloc | apply pw_below_drewN | apply below_drew1) | exact HB.out)))); have n1_ := Aside0.mk (below_step (by repeat (first | (with_reducible first | exact HB.out | apply below_alloc | apply pw_below_drewN | apply below_drew1) | exact HB.out)) hb); clear HB; have HO238 := n0_; have HB := n1_; clear n0_ n1_; clear hb ho33; obtain ⟨Ao34, co34, eo34⟩ := Kd.R_slice HO238.out; subst eo34) | ((with_reducible refine gate_callee (f := 18) rfl ?_); refine goesL_ (some 21) rfl rfl Try.func18 (by kernel_rfl) rfl #[.slice Ao34 y236.length co34, .agg #[.int .u32 0, .int .i64 0], .int .u16 a2] rfl (by (try simp only [List.map_toArray, List.map_cons, List.map_nil]); first | done | rfl | (simp only [List.length_drop, List.length_take]; rfl)) ?_; (with_reducible refine (filter_Permits.calls k _ _ y236 0 0 a2 t239 t240 _ ?side1 ?side2 A5.out).mono ?_); (case side1 => repeat (first | exact (Kd.R_reads' HO238.out).2.2 | (with_reducible refine Kd.C_alloc ?_ _) | (with_reducible refine Kd.C_drewN ?_ _) | (with_reducible refine Kd.C_drew ?_))); (case side2 => exact (Kd.R_reads' HO238.out).2.1); rintro e w35 ⟨rfl, hb⟩; refine ⟨_, rfl, ?_⟩; have n0_ := Aside0.mk (Kd.R_below (by (with_reducible repeat (first | apply Kd.R_alloc | apply Kd.R_drewN | apply Kd.R_drew)); exact HO238.out) hb); have n1_ := Aside0.mk (below_step (by repeat (first | (with_reducible first | exact HB.out | apply below_alloc | apply pw_below_drewN | apply below_drew1) | exact HB.out)) hb); clear HO238; clear HB; have HO238 := n0_; have HB := n1_; clear n0_ n1_; (try clear hb); (try clear hb2); (try clear hk); (try clear hi)))
        go_ret
        exact ⟨by first | rfl | (simp [errW_none, errW_some] <;> rfl) | (simp [*, errW_none, errW_some] <;> rfl), by repeat (first | (with_reducible first | exact HB.out | apply below_alloc | apply pw_below_drewN | apply below_drew1) | exact HB.out)⟩
    · replace c24 := Bool.eq_false_iff.mpr c24
      subst c24
      have H1 : (some false) = some r := by rw [if_neg (show ¬ (false = true) by decide)] at H; exact H
      clear H
      have H := H1
      clear H1
      obtain rfl := Option.some.inj H
      go_enter Try.func10, Try.ntmps10
      go_wp2_with (first | ((with_reducible refine gate_callee (f := 17) rfl ?_); refine goesL_ (some 12) rfl rfl Try.func17 (by kernel_rfl) rfl #[] rfl (by (try simp only [List.map_toArray, List.map_cons, List.map_nil]); first | done | rfl | (simp only [List.length_drop, List.length_take]; rfl)) ?_; (with_reducible refine (octroilaw13_awake.calls k  false _ A4.out).mono ?_); rintro e w36 ⟨rfl, hb⟩; refine ⟨_, rfl, ?_⟩; have n0_ := Aside0.mk (below_step (by repeat (first | (with_reducible first | exact HB.out | apply below_alloc | apply pw_below_drewN | apply below_drew1) | exact HB.out)) hb); clear HB; have HB := n0_; clear n0_; (try clear hb); (try clear hb2); (try clear hk); (try clear hi)) | ((with_reducible refine gate_dst (N := 16) rfl ?_); refine Kd.R_lit k42 _ 42 ?hg (N := 16) ?hd (xs := ([(⟨true, (⟨0, 0⟩ : S35), 0, 32, a0, a1⟩ : S42)] : List (S42))) (inner := [.bool true, .int .u32 0, .int .i64 0, .int .i64 0, .int .i64 32, .int .u16 a0, .int .u16 a1]) (ok := fun _ => True) (okp := fun _ => True) ?hr ?hp (fun _ hk => hk) trivial (Below.refl _ _) (Nat.le_refl _) (by simp) ?_; (case hd => rfl); (case hg => rfl); (case hr => first | (go_simp; done) | (go_simp; rfl)); (case hp => exact (Reps.c7 (show Kd.M k42 _ _ _ (⟨true, (⟨0, 0⟩ : S35), 0, 32, a0, a1⟩ : S42) [.bool true, .int .u32 0, .int .i64 0, .int .i64 0, .int .i64 32, .int .u16 a0, .int .u16 a1] from (k42_mkM _ _ _ (⟨true, (⟨0, 0⟩ : S35), 0, 32, a0, a1⟩ : S42) )) (Reps.none _ _))); intro v237 w37 ho38 hb hg_ hnew_; clear hg_ hnew_; (first | rw [← Ny236.out] at ho38 | (simp only [Int.reduceToNat] at ho38; rw [← Ny236.out] at ho38)); have n0_ := Aside0.mk (Kd.R_lower ho38 (below_size (by repeat (first | (with_reducible first | exact HB.out | apply below_alloc | apply pw_below_drewN | apply below_drew1) | exact HB.out)))); have n1_ := Aside0.mk (below_step (by repeat (first | (with_reducible first | exact HB.out | apply below_alloc | apply pw_below_drewN | apply below_drew1) | exact HB.out)) hb); clear HB; have HO238 := n0_; have HB := n1_; clear n0_ n1_; clear hb ho38; obtain ⟨Ao39, co39, eo39⟩ := Kd.R_slice HO238.out; subst eo39) | ((with_reducible refine gate_callee (f := 18) rfl ?_); refine goesL_ (some 21) rfl rfl Try.func18 (by kernel_rfl) rfl #[.slice Ao39 y236.length co39, .agg #[.int .u32 0, .int .i64 0], .int .u16 a2] rfl (by (try simp only [List.map_toArray, List.map_cons, List.map_nil]); first | done | rfl | (simp only [List.length_drop, List.length_take]; rfl)) ?_; (with_reducible refine (filter_Permits.calls k _ _ y236 0 0 a2 t239 t240 _ ?side1 ?side2 A5.out).mono ?_); (case side1 => repeat (first | exact (Kd.R_reads' HO238.out).2.2 | (with_reducible refine Kd.C_alloc ?_ _) | (with_reducible refine Kd.C_drewN ?_ _) | (with_reducible refine Kd.C_drew ?_))); (case side2 => exact (Kd.R_reads' HO238.out).2.1); rintro e w40 ⟨rfl, hb⟩; refine ⟨_, rfl, ?_⟩; have n0_ := Aside0.mk (Kd.R_below (by (with_reducible repeat (first | apply Kd.R_alloc | apply Kd.R_drewN | apply Kd.R_drew)); exact HO238.out) hb); have n1_ := Aside0.mk (below_step (by repeat (first | (with_reducible first | exact HB.out | apply below_alloc | apply pw_below_drewN | apply below_drew1) | exact HB.out)) hb); clear HO238; clear HB; have HO238 := n0_; have HB := n1_; clear n0_ n1_; (try clear hb); (try clear hb2); (try clear hk); (try clear hi)))
      go_ret
      exact ⟨by first | rfl | (simp [errW_none, errW_some] <;> rfl) | (simp [*, errW_none, errW_some] <;> rfl), by repeat (first | (with_reducible first | exact HB.out | apply below_alloc | apply pw_below_drewN | apply below_drew1) | exact HB.out)⟩

/-- THE ONE PURE STATEMENT of octroilaw13_FilterTags: yours. -/
def octroilaw13_FilterTags.Pure : Prop := ∀ (a0 : Int) (a1 : Int) (a2 : Int), (Lit.int .u16 a0).wf = true → (Lit.int .u16 a1).wf = true → (Lit.int .u16 a2).wf = true → ∃ k, octroilaw13_FilterTags.f k a0 a1 a2 = some true
theorem octroilaw13_FilterTags.walk (P : octroilaw13_FilterTags.Pure) (a0 : Int) (a1 : Int) (a2 : Int) (w : World) (w0 : (Lit.int .u16 a0).wf = true) (w1 : (Lit.int .u16 a1).wf = true) (w2 : (Lit.int .u16 a2).wf = true) :
    Calls Try.prog 10 #[.int .u16 a0, .int .u16 a1, .int .u16 a2] w fun e w' => e = .returned (.bool true) ∧ Below w.heap.size w w' := by
  obtain ⟨k, h⟩ := P a0 a1 a2 w0 w1 w2
  refine (octroilaw13_FilterTags.calls k a0 a1 a2 true w h).mono ?_
  rintro e w' ⟨rfl, hd⟩
  exact ⟨rfl, hd⟩

end Go.Proofs.Ytjgfdhkphmhbcaa.L
