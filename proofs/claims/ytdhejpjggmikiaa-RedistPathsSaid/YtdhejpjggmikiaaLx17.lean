/- Printed by the session's own program out of the translation: for each Go function a Lean function with the same answers, and the proof that the code comes to them. No conditions. -/
import Derived.Test.YtdhejpjggmikiaaLx0
import Derived.Test.YtdhejpjggmikiaaLx6
import Derived.Test.YtdhejpjggmikiaaLx7
import Derived.Test.YtdhejpjggmikiaaLx14
import Derived.Test.YtdhejpjggmikiaaLx16
namespace Go.Proofs.Ytdhejpjggmikiaa.L
open Go.Proofs.YtdhejpjggmikiaaLab
open Go.RowKit Go.Proofs.YtdhejpjggmikiaaW.PrintWords Go.Proofs.YtdhejpjggmikiaaW.PrintLast Go.Proofs.YtdhejpjggmikiaaW.PrintMore
attribute [local go_sem] max2_int min2_int max_two min_two max_three min_three max_four min_four   -- for this text's walks alone
set_option linter.unusedVariables false
set_option linter.unusedSimpArgs false

/-! ### octroilaw15_RedistPaths: function 7 -/
mutual
def octroilaw15_RedistPaths.j0 : Nat → List Int → Bool → Bool → Option (Bool)
 | 0, _, _, _ => none
 | k + 1, x0, x3, x28 => if x28 = true then (some x3) else (if 0 < (x0.length : Int) then (octroilaw15_RedistPaths.l0 k x0 0 1 0 0 (rd x0 0) 0 0 0 0) else (none))
def octroilaw15_RedistPaths.j3 : Nat → List Int → Int → Int → Int → Int → Int → Int → Int → Int → Option (Bool)
 | 0, _, _, _, _, _, _, _, _, _ => none
 | k + 1, x0, x5, x365000, x365001, x365002, x365003, x365004, x365005, x365006 => octroilaw15_RedistPaths.l1 k x0 x5 false 0 x365000 x365001 x365002 x365003 x365004 x365005 x365006
def octroilaw15_RedistPaths.l1 : Nat → List Int → Int → Bool → Int → Int → Int → Int → Int → Int → Int → Int → Option (Bool)
 | 0, _, _, _, _, _, _, _, _, _, _, _ => none
 | k + 1, x0, x5, x9, x10, x365000, x365001, x365002, x365003, x365004, x365005, x365006 => if x10 ≤ x5 then (octroilaw15_RedistPaths.l2 k x0 x5 x9 x10 0 x365000 x365001 x365002 x365003 x365004 x365005 x365006) else (if 0 ≤ x5 then (if x5 ≤ (x0.length : Int) then ((tags_Of.f k (x0.take (x5 : Int).toNat)).bind fun bt391 => (if x9 = true then (octroilaw15_RedistPaths.j6 k x0 x5 true) else (if bt391.2 = 0 then (if bt391.1 = x365006 then ((tags_Depth.f k x365006).bind fun t393 => (octroilaw15_RedistPaths.j6 k x0 x5 (t393 != x5))) else (octroilaw15_RedistPaths.j6 k x0 x5 true)) else (octroilaw15_RedistPaths.j6 k x0 x5 true)))) else (none)) else (none))
def octroilaw15_RedistPaths.l2 : Nat → List Int → Int → Bool → Int → Int → Int → Int → Int → Int → Int → Int → Int → Option (Bool)
 | 0, _, _, _, _, _, _, _, _, _, _, _, _ => none
 | k + 1, x0, x5, x9, x10, x11, x365000, x365001, x365002, x365003, x365004, x365005, x365006 => if x11 < x10 then (if x9 = true then (octroilaw15_RedistPaths.l2 k x0 x5 true x10 (wrap64 (x11 + 1)) x365000 x365001 x365002 x365003 x365004 x365005 x365006) else (if 0 ≤ x10 then (if x10 < (x0.length : Int) then (if 0 ≤ x11 then (if x11 < (x0.length : Int) then (octroilaw15_RedistPaths.l2 k x0 x5 ((rd x0 x10) == (rd x0 x11)) x10 (wrap64 (x11 + 1)) x365000 x365001 x365002 x365003 x365004 x365005 x365006) else (none)) else (none)) else (none)) else (none))) else (octroilaw15_RedistPaths.l1 k x0 x5 x9 (wrap64 (x10 + 1)) x365000 x365001 x365002 x365003 x365004 x365005 x365006)
def octroilaw15_RedistPaths.j6 : Nat → List Int → Int → Bool → Option (Bool)
 | 0, _, _, _ => none
 | k + 1, x0, x5, x126 => if x126 = true then (none) else (if x5 = (wrap64 ((x0.length : Int) - 1)) then (some true) else (octroilaw15_RedistPaths.l3 k x0 x5 false 0))
def octroilaw15_RedistPaths.l3 : Nat → List Int → Int → Bool → Int → Option (Bool)
 | 0, _, _, _, _ => none
 | k + 1, x0, x5, x14, x15 => if x15 ≤ x5 then (if x14 = true then (octroilaw15_RedistPaths.l3 k x0 x5 true (wrap64 (x15 + 1))) else (if 0 ≤ x15 then (if x15 < (x0.length : Int) then (if 0 ≤ (wrap64 (x5 + 1)) then (if (wrap64 (x5 + 1)) < (x0.length : Int) then (octroilaw15_RedistPaths.l3 k x0 x5 ((rd x0 x15) == (rd x0 (wrap64 (x5 + 1)))) (wrap64 (x15 + 1))) else (none)) else (none)) else (none)) else (none))) else (some x14)
def octroilaw15_RedistPaths.l0 : Nat → List Int → Int → Int → Int → Int → Int → Int → Int → Int → Int → Option (Bool)
 | 0, _, _, _, _, _, _, _, _, _, _ => none
 | k + 1, x0, x5, x6, x365000, x365001, x365002, x365003, x365004, x365005, x365006 => if x6 < (x0.length : Int) then (if 0 ≤ x6 then (if (rd x0 x6) < 0 then (octroilaw15_RedistPaths.j2 k x0 x5 x6 true x365000 x365001 x365002 x365003 x365004 x365005 x365006) else (if (rd x0 x6) ≥ 16 then (octroilaw15_RedistPaths.j2 k x0 x5 x6 true x365000 x365001 x365002 x365003 x365004 x365005 x365006) else (if 0 < (x0.length : Int) then (if (rd x0 0) < 0 then (octroilaw15_RedistPaths.j2 k x0 x5 x6 true x365000 x365001 x365002 x365003 x365004 x365005 x365006) else (octroilaw15_RedistPaths.j2 k x0 x5 x6 (decide ((rd x0 0) ≥ 16)) x365000 x365001 x365002 x365003 x365004 x365005 x365006)) else (none)))) else (none)) else (octroilaw15_RedistPaths.j3 k x0 x5 x365000 x365001 x365002 x365003 x365004 x365005 x365006)
def octroilaw15_RedistPaths.j2 : Nat → List Int → Int → Int → Bool → Int → Int → Int → Int → Int → Int → Int → Option (Bool)
 | 0, _, _, _, _, _, _, _, _, _, _, _ => none
 | k + 1, x0, x5, x6, x63, x365000, x365001, x365002, x365003, x365004, x365005, x365006 => if x63 = true then (some true) else (if 0 ≤ x6 then (if x6 < (x0.length : Int) then ((octroilaw15_all.f x365002 (rd x0 x6)).bind fun bt370 => ((redist_Pass.f k bt370.1 bt370.2.1 bt370.2.2.1 bt370.2.2.2.1 bt370.2.2.2.2 x365000 x365001 x365002 x365003 x365004 x365005 x365006).bind fun bt379 => (if bt379.2.2.2.2.2.2.2 = 0 then (octroilaw15_RedistPaths.l0 k x0 x6 (wrap64 (x6 + 1)) bt379.1 bt379.2.1 bt379.2.2.1 bt379.2.2.2.1 bt379.2.2.2.2.1 bt379.2.2.2.2.2.1 bt379.2.2.2.2.2.2.1) else (octroilaw15_RedistPaths.j3 k x0 x5 x365000 x365001 x365002 x365003 x365004 x365005 x365006)))) else (none)) else (none))
end
def octroilaw15_RedistPaths.f (k : Nat) (l0 : List Int) : Option (Bool) := (octroilaw15_awake.f k).bind fun t362 => (if t362 = true then (if (l0.length : Int) < 1 then (octroilaw15_RedistPaths.j0 k l0 t362 true) else (octroilaw15_RedistPaths.j0 k l0 t362 (decide ((l0.length : Int) > 40)))) else (octroilaw15_RedistPaths.j0 k l0 t362 true))
theorem octroilaw15_RedistPaths.mono_l : ∀ k, (∀ y0 y1 y2, LeO (octroilaw15_RedistPaths.j0 k y0 y1 y2) (octroilaw15_RedistPaths.j0 (k + 1) y0 y1 y2)) ∧ (∀ y0 y1 y2 y3 y4 y5 y6 y7 y8, LeO (octroilaw15_RedistPaths.j3 k y0 y1 y2 y3 y4 y5 y6 y7 y8) (octroilaw15_RedistPaths.j3 (k + 1) y0 y1 y2 y3 y4 y5 y6 y7 y8)) ∧ (∀ y0 y1 y2 y3 y4 y5 y6 y7 y8 y9 y10, LeO (octroilaw15_RedistPaths.l1 k y0 y1 y2 y3 y4 y5 y6 y7 y8 y9 y10) (octroilaw15_RedistPaths.l1 (k + 1) y0 y1 y2 y3 y4 y5 y6 y7 y8 y9 y10)) ∧ (∀ y0 y1 y2 y3 y4 y5 y6 y7 y8 y9 y10 y11, LeO (octroilaw15_RedistPaths.l2 k y0 y1 y2 y3 y4 y5 y6 y7 y8 y9 y10 y11) (octroilaw15_RedistPaths.l2 (k + 1) y0 y1 y2 y3 y4 y5 y6 y7 y8 y9 y10 y11)) ∧ (∀ y0 y1 y2, LeO (octroilaw15_RedistPaths.j6 k y0 y1 y2) (octroilaw15_RedistPaths.j6 (k + 1) y0 y1 y2)) ∧ (∀ y0 y1 y2 y3, LeO (octroilaw15_RedistPaths.l3 k y0 y1 y2 y3) (octroilaw15_RedistPaths.l3 (k + 1) y0 y1 y2 y3)) ∧ (∀ y0 y1 y2 y3 y4 y5 y6 y7 y8 y9, LeO (octroilaw15_RedistPaths.l0 k y0 y1 y2 y3 y4 y5 y6 y7 y8 y9) (octroilaw15_RedistPaths.l0 (k + 1) y0 y1 y2 y3 y4 y5 y6 y7 y8 y9)) ∧ (∀ y0 y1 y2 y3 y4 y5 y6 y7 y8 y9 y10, LeO (octroilaw15_RedistPaths.j2 k y0 y1 y2 y3 y4 y5 y6 y7 y8 y9 y10) (octroilaw15_RedistPaths.j2 (k + 1) y0 y1 y2 y3 y4 y5 y6 y7 y8 y9 y10))
 | 0 => ⟨fun _ _ _ r h => by simp [octroilaw15_RedistPaths.j0] at h, fun _ _ _ _ _ _ _ _ _ r h => by simp [octroilaw15_RedistPaths.j3] at h, fun _ _ _ _ _ _ _ _ _ _ _ r h => by simp [octroilaw15_RedistPaths.l1] at h, fun _ _ _ _ _ _ _ _ _ _ _ _ r h => by simp [octroilaw15_RedistPaths.l2] at h, fun _ _ _ r h => by simp [octroilaw15_RedistPaths.j6] at h, fun _ _ _ _ r h => by simp [octroilaw15_RedistPaths.l3] at h, fun _ _ _ _ _ _ _ _ _ _ r h => by simp [octroilaw15_RedistPaths.l0] at h, fun _ _ _ _ _ _ _ _ _ _ _ r h => by simp [octroilaw15_RedistPaths.j2] at h⟩
 | k + 1 => by
  obtain ⟨ih0, ih1, ih2, ih3, ih4, ih5, ih6, ih7⟩ := octroilaw15_RedistPaths.mono_l k
  refine ⟨?_, ?_, ?_, ?_, ?_, ?_, ?_, ?_⟩
  ·
   intro y0 y1 y2
   unfold octroilaw15_RedistPaths.j0
   repeat' first
   | (with_reducible exact ih0 _ _ _)
   | (with_reducible exact ih1 _ _ _ _ _ _ _ _ _)
   | (with_reducible exact ih2 _ _ _ _ _ _ _ _ _ _ _)
   | (with_reducible exact ih3 _ _ _ _ _ _ _ _ _ _ _ _)
   | (with_reducible exact ih4 _ _ _)
   | (with_reducible exact ih5 _ _ _ _)
   | (with_reducible exact ih6 _ _ _ _ _ _ _ _ _ _)
   | (with_reducible exact ih7 _ _ _ _ _ _ _ _ _ _ _)
   | (with_reducible exact octroilaw15_awake.mono _)
   | (with_reducible exact redist_Pass.mono _ _ _ _ _ _ _ _ _ _ _ _ _)
   | (with_reducible exact tags_Depth.mono _ _)
   | (with_reducible exact tags_Of.mono _ _)
   | (with_reducible exact LeO.refl _)
   | (with_reducible exact LeO.none _)
   | (with_reducible refine LeO.ite ?_ ?_)
   | (with_reducible refine LeO.bind ?_ (fun _ => ?_))
   | exact ih0 _ _ _
   | exact ih1 _ _ _ _ _ _ _ _ _
   | exact ih2 _ _ _ _ _ _ _ _ _ _ _
   | exact ih3 _ _ _ _ _ _ _ _ _ _ _ _
   | exact ih4 _ _ _
   | exact ih5 _ _ _ _
   | exact ih6 _ _ _ _ _ _ _ _ _ _
   | exact ih7 _ _ _ _ _ _ _ _ _ _ _
   | exact octroilaw15_awake.mono _
   | exact redist_Pass.mono _ _ _ _ _ _ _ _ _ _ _ _ _
   | exact tags_Depth.mono _ _
   | exact tags_Of.mono _ _
   | exact LeO.none _
   | refine LeO.ite ?_ ?_
   | refine LeO.bind ?_ (fun _ => ?_)
  ·
   intro y0 y1 y2 y3 y4 y5 y6 y7 y8
   unfold octroilaw15_RedistPaths.j3
   repeat' first
   | (with_reducible exact ih0 _ _ _)
   | (with_reducible exact ih1 _ _ _ _ _ _ _ _ _)
   | (with_reducible exact ih2 _ _ _ _ _ _ _ _ _ _ _)
   | (with_reducible exact ih3 _ _ _ _ _ _ _ _ _ _ _ _)
   | (with_reducible exact ih4 _ _ _)
   | (with_reducible exact ih5 _ _ _ _)
   | (with_reducible exact ih6 _ _ _ _ _ _ _ _ _ _)
   | (with_reducible exact ih7 _ _ _ _ _ _ _ _ _ _ _)
   | (with_reducible exact octroilaw15_awake.mono _)
   | (with_reducible exact redist_Pass.mono _ _ _ _ _ _ _ _ _ _ _ _ _)
   | (with_reducible exact tags_Depth.mono _ _)
   | (with_reducible exact tags_Of.mono _ _)
   | (with_reducible exact LeO.refl _)
   | (with_reducible exact LeO.none _)
   | (with_reducible refine LeO.ite ?_ ?_)
   | (with_reducible refine LeO.bind ?_ (fun _ => ?_))
   | exact ih0 _ _ _
   | exact ih1 _ _ _ _ _ _ _ _ _
   | exact ih2 _ _ _ _ _ _ _ _ _ _ _
   | exact ih3 _ _ _ _ _ _ _ _ _ _ _ _
   | exact ih4 _ _ _
   | exact ih5 _ _ _ _
   | exact ih6 _ _ _ _ _ _ _ _ _ _
   | exact ih7 _ _ _ _ _ _ _ _ _ _ _
   | exact octroilaw15_awake.mono _
   | exact redist_Pass.mono _ _ _ _ _ _ _ _ _ _ _ _ _
   | exact tags_Depth.mono _ _
   | exact tags_Of.mono _ _
   | exact LeO.none _
   | refine LeO.ite ?_ ?_
   | refine LeO.bind ?_ (fun _ => ?_)
  ·
   intro y0 y1 y2 y3 y4 y5 y6 y7 y8 y9 y10
   unfold octroilaw15_RedistPaths.l1
   repeat' first
   | (with_reducible exact ih0 _ _ _)
   | (with_reducible exact ih1 _ _ _ _ _ _ _ _ _)
   | (with_reducible exact ih2 _ _ _ _ _ _ _ _ _ _ _)
   | (with_reducible exact ih3 _ _ _ _ _ _ _ _ _ _ _ _)
   | (with_reducible exact ih4 _ _ _)
   | (with_reducible exact ih5 _ _ _ _)
   | (with_reducible exact ih6 _ _ _ _ _ _ _ _ _ _)
   | (with_reducible exact ih7 _ _ _ _ _ _ _ _ _ _ _)
   | (with_reducible exact octroilaw15_awake.mono _)
   | (with_reducible exact redist_Pass.mono _ _ _ _ _ _ _ _ _ _ _ _ _)
   | (with_reducible exact tags_Depth.mono _ _)
   | (with_reducible exact tags_Of.mono _ _)
   | (with_reducible exact LeO.refl _)
   | (with_reducible exact LeO.none _)
   | (with_reducible refine LeO.ite ?_ ?_)
   | (with_reducible refine LeO.bind ?_ (fun _ => ?_))
   | exact ih0 _ _ _
   | exact ih1 _ _ _ _ _ _ _ _ _
   | exact ih2 _ _ _ _ _ _ _ _ _ _ _
   | exact ih3 _ _ _ _ _ _ _ _ _ _ _ _
   | exact ih4 _ _ _
   | exact ih5 _ _ _ _
   | exact ih6 _ _ _ _ _ _ _ _ _ _
   | exact ih7 _ _ _ _ _ _ _ _ _ _ _
   | exact octroilaw15_awake.mono _
   | exact redist_Pass.mono _ _ _ _ _ _ _ _ _ _ _ _ _
   | exact tags_Depth.mono _ _
   | exact tags_Of.mono _ _
   | exact LeO.none _
   | refine LeO.ite ?_ ?_
   | refine LeO.bind ?_ (fun _ => ?_)
  ·
   intro y0 y1 y2 y3 y4 y5 y6 y7 y8 y9 y10 y11
   unfold octroilaw15_RedistPaths.l2
   repeat' first
   | (with_reducible exact ih0 _ _ _)
   | (with_reducible exact ih1 _ _ _ _ _ _ _ _ _)
   | (with_reducible exact ih2 _ _ _ _ _ _ _ _ _ _ _)
   | (with_reducible exact ih3 _ _ _ _ _ _ _ _ _ _ _ _)
   | (with_reducible exact ih4 _ _ _)
   | (with_reducible exact ih5 _ _ _ _)
   | (with_reducible exact ih6 _ _ _ _ _ _ _ _ _ _)
   | (with_reducible exact ih7 _ _ _ _ _ _ _ _ _ _ _)
   | (with_reducible exact octroilaw15_awake.mono _)
   | (with_reducible exact redist_Pass.mono _ _ _ _ _ _ _ _ _ _ _ _ _)
   | (with_reducible exact tags_Depth.mono _ _)
   | (with_reducible exact tags_Of.mono _ _)
   | (with_reducible exact LeO.refl _)
   | (with_reducible exact LeO.none _)
   | (with_reducible refine LeO.ite ?_ ?_)
   | (with_reducible refine LeO.bind ?_ (fun _ => ?_))
   | exact ih0 _ _ _
   | exact ih1 _ _ _ _ _ _ _ _ _
   | exact ih2 _ _ _ _ _ _ _ _ _ _ _
   | exact ih3 _ _ _ _ _ _ _ _ _ _ _ _
   | exact ih4 _ _ _
   | exact ih5 _ _ _ _
   | exact ih6 _ _ _ _ _ _ _ _ _ _
   | exact ih7 _ _ _ _ _ _ _ _ _ _ _
   | exact octroilaw15_awake.mono _
   | exact redist_Pass.mono _ _ _ _ _ _ _ _ _ _ _ _ _
   | exact tags_Depth.mono _ _
   | exact tags_Of.mono _ _
   | exact LeO.none _
   | refine LeO.ite ?_ ?_
   | refine LeO.bind ?_ (fun _ => ?_)
  ·
   intro y0 y1 y2
   unfold octroilaw15_RedistPaths.j6
   repeat' first
   | (with_reducible exact ih0 _ _ _)
   | (with_reducible exact ih1 _ _ _ _ _ _ _ _ _)
   | (with_reducible exact ih2 _ _ _ _ _ _ _ _ _ _ _)
   | (with_reducible exact ih3 _ _ _ _ _ _ _ _ _ _ _ _)
   | (with_reducible exact ih4 _ _ _)
   | (with_reducible exact ih5 _ _ _ _)
   | (with_reducible exact ih6 _ _ _ _ _ _ _ _ _ _)
   | (with_reducible exact ih7 _ _ _ _ _ _ _ _ _ _ _)
   | (with_reducible exact octroilaw15_awake.mono _)
   | (with_reducible exact redist_Pass.mono _ _ _ _ _ _ _ _ _ _ _ _ _)
   | (with_reducible exact tags_Depth.mono _ _)
   | (with_reducible exact tags_Of.mono _ _)
   | (with_reducible exact LeO.refl _)
   | (with_reducible exact LeO.none _)
   | (with_reducible refine LeO.ite ?_ ?_)
   | (with_reducible refine LeO.bind ?_ (fun _ => ?_))
   | exact ih0 _ _ _
   | exact ih1 _ _ _ _ _ _ _ _ _
   | exact ih2 _ _ _ _ _ _ _ _ _ _ _
   | exact ih3 _ _ _ _ _ _ _ _ _ _ _ _
   | exact ih4 _ _ _
   | exact ih5 _ _ _ _
   | exact ih6 _ _ _ _ _ _ _ _ _ _
   | exact ih7 _ _ _ _ _ _ _ _ _ _ _
   | exact octroilaw15_awake.mono _
   | exact redist_Pass.mono _ _ _ _ _ _ _ _ _ _ _ _ _
   | exact tags_Depth.mono _ _
   | exact tags_Of.mono _ _
   | exact LeO.none _
   | refine LeO.ite ?_ ?_
   | refine LeO.bind ?_ (fun _ => ?_)
  ·
   intro y0 y1 y2 y3
   unfold octroilaw15_RedistPaths.l3
   repeat' first
   | (with_reducible exact ih0 _ _ _)
   | (with_reducible exact ih1 _ _ _ _ _ _ _ _ _)
   | (with_reducible exact ih2 _ _ _ _ _ _ _ _ _ _ _)
   | (with_reducible exact ih3 _ _ _ _ _ _ _ _ _ _ _ _)
   | (with_reducible exact ih4 _ _ _)
   | (with_reducible exact ih5 _ _ _ _)
   | (with_reducible exact ih6 _ _ _ _ _ _ _ _ _ _)
   | (with_reducible exact ih7 _ _ _ _ _ _ _ _ _ _ _)
   | (with_reducible exact octroilaw15_awake.mono _)
   | (with_reducible exact redist_Pass.mono _ _ _ _ _ _ _ _ _ _ _ _ _)
   | (with_reducible exact tags_Depth.mono _ _)
   | (with_reducible exact tags_Of.mono _ _)
   | (with_reducible exact LeO.refl _)
   | (with_reducible exact LeO.none _)
   | (with_reducible refine LeO.ite ?_ ?_)
   | (with_reducible refine LeO.bind ?_ (fun _ => ?_))
   | exact ih0 _ _ _
   | exact ih1 _ _ _ _ _ _ _ _ _
   | exact ih2 _ _ _ _ _ _ _ _ _ _ _
   | exact ih3 _ _ _ _ _ _ _ _ _ _ _ _
   | exact ih4 _ _ _
   | exact ih5 _ _ _ _
   | exact ih6 _ _ _ _ _ _ _ _ _ _
   | exact ih7 _ _ _ _ _ _ _ _ _ _ _
   | exact octroilaw15_awake.mono _
   | exact redist_Pass.mono _ _ _ _ _ _ _ _ _ _ _ _ _
   | exact tags_Depth.mono _ _
   | exact tags_Of.mono _ _
   | exact LeO.none _
   | refine LeO.ite ?_ ?_
   | refine LeO.bind ?_ (fun _ => ?_)
  ·
   intro y0 y1 y2 y3 y4 y5 y6 y7 y8 y9
   unfold octroilaw15_RedistPaths.l0
   repeat' first
   | (with_reducible exact ih0 _ _ _)
   | (with_reducible exact ih1 _ _ _ _ _ _ _ _ _)
   | (with_reducible exact ih2 _ _ _ _ _ _ _ _ _ _ _)
   | (with_reducible exact ih3 _ _ _ _ _ _ _ _ _ _ _ _)
   | (with_reducible exact ih4 _ _ _)
   | (with_reducible exact ih5 _ _ _ _)
   | (with_reducible exact ih6 _ _ _ _ _ _ _ _ _ _)
   | (with_reducible exact ih7 _ _ _ _ _ _ _ _ _ _ _)
   | (with_reducible exact octroilaw15_awake.mono _)
   | (with_reducible exact redist_Pass.mono _ _ _ _ _ _ _ _ _ _ _ _ _)
   | (with_reducible exact tags_Depth.mono _ _)
   | (with_reducible exact tags_Of.mono _ _)
   | (with_reducible exact LeO.refl _)
   | (with_reducible exact LeO.none _)
   | (with_reducible refine LeO.ite ?_ ?_)
   | (with_reducible refine LeO.bind ?_ (fun _ => ?_))
   | exact ih0 _ _ _
   | exact ih1 _ _ _ _ _ _ _ _ _
   | exact ih2 _ _ _ _ _ _ _ _ _ _ _
   | exact ih3 _ _ _ _ _ _ _ _ _ _ _ _
   | exact ih4 _ _ _
   | exact ih5 _ _ _ _
   | exact ih6 _ _ _ _ _ _ _ _ _ _
   | exact ih7 _ _ _ _ _ _ _ _ _ _ _
   | exact octroilaw15_awake.mono _
   | exact redist_Pass.mono _ _ _ _ _ _ _ _ _ _ _ _ _
   | exact tags_Depth.mono _ _
   | exact tags_Of.mono _ _
   | exact LeO.none _
   | refine LeO.ite ?_ ?_
   | refine LeO.bind ?_ (fun _ => ?_)
  ·
   intro y0 y1 y2 y3 y4 y5 y6 y7 y8 y9 y10
   unfold octroilaw15_RedistPaths.j2
   repeat' first
   | (with_reducible exact ih0 _ _ _)
   | (with_reducible exact ih1 _ _ _ _ _ _ _ _ _)
   | (with_reducible exact ih2 _ _ _ _ _ _ _ _ _ _ _)
   | (with_reducible exact ih3 _ _ _ _ _ _ _ _ _ _ _ _)
   | (with_reducible exact ih4 _ _ _)
   | (with_reducible exact ih5 _ _ _ _)
   | (with_reducible exact ih6 _ _ _ _ _ _ _ _ _ _)
   | (with_reducible exact ih7 _ _ _ _ _ _ _ _ _ _ _)
   | (with_reducible exact octroilaw15_awake.mono _)
   | (with_reducible exact redist_Pass.mono _ _ _ _ _ _ _ _ _ _ _ _ _)
   | (with_reducible exact tags_Depth.mono _ _)
   | (with_reducible exact tags_Of.mono _ _)
   | (with_reducible exact LeO.refl _)
   | (with_reducible exact LeO.none _)
   | (with_reducible refine LeO.ite ?_ ?_)
   | (with_reducible refine LeO.bind ?_ (fun _ => ?_))
   | exact ih0 _ _ _
   | exact ih1 _ _ _ _ _ _ _ _ _
   | exact ih2 _ _ _ _ _ _ _ _ _ _ _
   | exact ih3 _ _ _ _ _ _ _ _ _ _ _ _
   | exact ih4 _ _ _
   | exact ih5 _ _ _ _
   | exact ih6 _ _ _ _ _ _ _ _ _ _
   | exact ih7 _ _ _ _ _ _ _ _ _ _ _
   | exact octroilaw15_awake.mono _
   | exact redist_Pass.mono _ _ _ _ _ _ _ _ _ _ _ _ _
   | exact tags_Depth.mono _ _
   | exact tags_Of.mono _ _
   | exact LeO.none _
   | refine LeO.ite ?_ ?_
   | refine LeO.bind ?_ (fun _ => ?_)
theorem octroilaw15_RedistPaths.mono : ∀ a0 k, LeO (octroilaw15_RedistPaths.f k a0) (octroilaw15_RedistPaths.f (k + 1) a0) := by
 intro a0 k
 obtain ⟨ih0, ih1, ih2, ih3, ih4, ih5, ih6, ih7⟩ := octroilaw15_RedistPaths.mono_l k
 unfold octroilaw15_RedistPaths.f
 repeat' first
   | (with_reducible exact ih0 _ _ _)
   | (with_reducible exact ih1 _ _ _ _ _ _ _ _ _)
   | (with_reducible exact ih2 _ _ _ _ _ _ _ _ _ _ _)
   | (with_reducible exact ih3 _ _ _ _ _ _ _ _ _ _ _ _)
   | (with_reducible exact ih4 _ _ _)
   | (with_reducible exact ih5 _ _ _ _)
   | (with_reducible exact ih6 _ _ _ _ _ _ _ _ _ _)
   | (with_reducible exact ih7 _ _ _ _ _ _ _ _ _ _ _)
   | (with_reducible exact octroilaw15_awake.mono _)
   | (with_reducible exact redist_Pass.mono _ _ _ _ _ _ _ _ _ _ _ _ _)
   | (with_reducible exact tags_Depth.mono _ _)
   | (with_reducible exact tags_Of.mono _ _)
   | (with_reducible exact LeO.refl _)
   | (with_reducible exact LeO.none _)
   | (with_reducible refine LeO.ite ?_ ?_)
   | (with_reducible refine LeO.bind ?_ (fun _ => ?_))
   | exact ih0 _ _ _
   | exact ih1 _ _ _ _ _ _ _ _ _
   | exact ih2 _ _ _ _ _ _ _ _ _ _ _
   | exact ih3 _ _ _ _ _ _ _ _ _ _ _ _
   | exact ih4 _ _ _
   | exact ih5 _ _ _ _
   | exact ih6 _ _ _ _ _ _ _ _ _ _
   | exact ih7 _ _ _ _ _ _ _ _ _ _ _
   | exact octroilaw15_awake.mono _
   | exact redist_Pass.mono _ _ _ _ _ _ _ _ _ _ _ _ _
   | exact tags_Depth.mono _ _
   | exact tags_Of.mono _ _
   | exact LeO.none _
   | refine LeO.ite ?_ ?_
   | refine LeO.bind ?_ (fun _ => ?_)
def octroilaw15_RedistPaths.T11 : Bool × List (List Nat × List Nat) := (true, [([], []), ([0], [0]), ([], []), ([], []), ([2, 3], [2, 3]), ([4], [4]), ([1, 5], [1, 5]), ([], []), ([6, 7, 6], [6, 7]), ([8], [8]), ([9], [9]), ([9], [9]), ([], []), ([12, 10, 8, 0, 1, 2, 3, 4, 5, 6, 7, 8, 9, 10, 12], [10, 12]), ([11, 13, 0, 1, 2, 3, 4, 5, 6, 7, 8, 9, 10, 11, 12, 13], [11])])
def octroilaw15_RedistPaths.B11 : List Nat := [0, 1, 0, 0, 12, 28, 63, 0, 255, 511, 1023, 1023, 0, 6143, 16383]
theorem octroilaw15_RedistPaths.tab11 : rtab .any (opsOf Try.f7 11) = octroilaw15_RedistPaths.T11 := by kernel_rfl
theorem octroilaw15_RedistPaths.bits11 : waitsOk octroilaw15_RedistPaths.T11.2 octroilaw15_RedistPaths.B11 = true := by kernel_rfl
def octroilaw15_RedistPaths.T22 : Bool × List (List Nat × List Nat) := (true, [([], []), ([0], [0]), ([1], [1]), ([1], [1]), ([2, 3, 1], [1, 2, 3]), ([4, 1], [1, 4]), ([1], [1]), ([1], [1]), ([6, 7, 1], [1, 6, 7]), ([8, 1], [1, 8]), ([5, 9, 1], [1, 5, 9]), ([1, 10], [1, 10]), ([11, 1, 0, 1, 2, 3, 4, 5, 6, 7, 8, 9, 10, 11], [0, 11])])
def octroilaw15_RedistPaths.B22 : List Nat := [0, 1, 3, 3, 15, 31, 3, 3, 195, 451, 1023, 2047, 4095]
theorem octroilaw15_RedistPaths.tab22 : rtab .any (opsOf Try.f7 22) = octroilaw15_RedistPaths.T22 := by kernel_rfl
theorem octroilaw15_RedistPaths.bits22 : waitsOk octroilaw15_RedistPaths.T22.2 octroilaw15_RedistPaths.B22 = true := by kernel_rfl
def octroilaw15_RedistPaths.T32 : Bool × List (List Nat × List Nat) := (true, [([], []), ([0], [0]), ([1], [1]), ([1], [1]), ([2, 3, 1], [1, 2, 3]), ([4, 1], [1, 4]), ([1], [1]), ([1], [1]), ([7, 1], [1, 7]), ([6, 8, 1], [1, 6, 8]), ([9, 1], [1, 9]), ([5, 10, 1], [1, 5, 10]), ([1, 11], [1, 11]), ([12, 1, 0, 1, 2, 3, 4, 5, 6, 7, 8, 9, 10, 11, 12], [0, 12])])
def octroilaw15_RedistPaths.B32 : List Nat := [0, 1, 3, 3, 15, 31, 3, 3, 131, 451, 963, 2047, 4095, 8191]
theorem octroilaw15_RedistPaths.tab32 : rtab .any (opsOf Try.f7 32) = octroilaw15_RedistPaths.T32 := by kernel_rfl
theorem octroilaw15_RedistPaths.bits32 : waitsOk octroilaw15_RedistPaths.T32.2 octroilaw15_RedistPaths.B32 = true := by kernel_rfl
set_option maxHeartbeats 8000000 in
set_option maxRecDepth 100000 in
theorem octroilaw15_RedistPaths.calls (k : Nat) (A0 : Option Addr) (c0 : Nat) (l0 : List Int) (r : Bool) (w : World) (hr0 : Kd.C (Kd.int .i64) w A0 l0.length l0) (hc0 : l0.length ≤ c0) (h : octroilaw15_RedistPaths.f k l0 = some r) :
  Calls Try.prog 7 #[.slice A0 l0.length c0] w fun e w' => e = .returned (.bool r) ∧ Below w.heap.size w w' := by
 have hu31 := Try.underlying31
 have HR0 := Aside0.mk hr0
 have HC0 := Aside0.mk hc0
 clear hr0 hc0
 have HB := Aside0.mk (Below.refl w.heap.size w)
 have H : ((octroilaw15_awake.f k).bind fun t362 => (if t362 = true then (if (l0.length : Int) < 1 then (octroilaw15_RedistPaths.j0 k l0 t362 true) else (octroilaw15_RedistPaths.j0 k l0 t362 (decide ((l0.length : Int) > 40)))) else (octroilaw15_RedistPaths.j0 k l0 t362 true))) = some r := h
 clear h
 replace H := Option.bind_eq_some_iff.mp H
 obtain ⟨t362, A20, H⟩ := H
 replace H : (if t362 = true then (if (l0.length : Int) < 1 then (octroilaw15_RedistPaths.j0 k l0 t362 true) else (octroilaw15_RedistPaths.j0 k l0 t362 (decide ((l0.length : Int) > 40)))) else (octroilaw15_RedistPaths.j0 k l0 t362 true)) = some r := H
 have A2 := Aside0.mk A20
 clear A20
 have HC3 := Aside0.mk H
 clear H
 go_enter Try.func7, Try.ntmps7
 go_upto_region 2 with (first | ((with_reducible refine gate_callee (f := 8) rfl ?_); refine goesL_ (some 16) rfl rfl Try.func8 (by kernel_rfl) rfl #[] rfl (by (try simp only [List.map_toArray, List.map_cons, List.map_nil]); first | done | rfl | (simp only [List.length_drop, List.length_take]; rfl)) ?_; (with_reducible refine (octroilaw15_awake.calls k  t362 _ A2.out).mono ?_); rintro e w4 ⟨rfl, hb⟩; refine ⟨_, rfl, ?_⟩; have n0_ := Aside0.mk (below_step (by repeat (first | (with_reducible first | exact HB.out | apply below_alloc | apply pw_below_drewN | apply below_drew1) | exact HB.out)) hb); clear HB; have HB := n0_; clear n0_; (try clear hb); (try clear hb2); (try clear hk); (try clear hi)))
 (try simp only [Act.put, List.setIfInBounds_toArray, List.set_cons_zero, List.set_cons_succ])
 go_cut [28] (fun v28 wc => ∃ (kq : Nat) (x28_2 : Bool), v28 = .bool x28_2 ∧ Aside0 (octroilaw15_RedistPaths.j0 kq l0 t362 x28_2 = some r) ∧ Aside0 (kq ≤ k) ∧ Aside0 (Below w.heap.size w wc))
 case first =>
  have H := HC3.out
  clear HC3
  by_cases c5 : t362 = true
  ·
   subst c5
   have H1 : (if (l0.length : Int) < 1 then (octroilaw15_RedistPaths.j0 k l0 true true) else (octroilaw15_RedistPaths.j0 k l0 true (decide ((l0.length : Int) > 40)))) = some r := by rw [if_pos rfl] at H; exact H
   clear H
   have H := H1
   clear H1
   by_cases c6 : (l0.length : Int) < 1
   ·
    rw [if_pos c6] at H
    have c6b0 : decide ((l0.length : Int) < 1) = true := decide_eq_true c6
    have c6b1 : decide (l0.length < 1) = true := decide_eq_true (by omega)
    clear c6
    (first | rw [c6b0] | (simp only [i64_w, i32_w]; rw [c6b0]) | skip)
    have H' := Aside0.mk H
    clear H
    go_wp2
    go_meet
    case rel => exact ⟨_, (true), (by first | rfl | (simp; done) | (simp [*]; done)), H', ⟨by first | omega | exact Nat.le_refl _⟩, ⟨by repeat (first | (with_reducible first | exact HB.out | apply below_alloc | apply pw_below_drewN | apply below_drew1) | exact HB.out)⟩⟩
   ·
    rw [if_neg c6] at H
    have c6b0 : decide ((l0.length : Int) < 1) = false := decide_eq_false c6
    have c6b1 : decide (l0.length < 1) = false := decide_eq_false (by omega)
    clear c6
    (first | rw [c6b0] | (simp only [i64_w, i32_w]; rw [c6b0]) | skip)
    have H' := Aside0.mk H
    clear H
    go_wp2
    go_meet
    case rel => exact ⟨_, (decide ((l0.length : Int) > 40)), (by first | rfl | (simp; done) | (simp [*]; done)), H', ⟨by first | omega | exact Nat.le_refl _⟩, ⟨by repeat (first | (with_reducible first | exact HB.out | apply below_alloc | apply pw_below_drewN | apply below_drew1) | exact HB.out)⟩⟩
  ·
   replace c5 := Bool.eq_false_iff.mpr c5
   subst c5
   have H1 : (octroilaw15_RedistPaths.j0 k l0 false true) = some r := by rw [if_neg (show ¬ (false = true) by decide)] at H; exact H
   clear H
   have H := H1
   clear H1
   have H' := Aside0.mk H
   clear H
   go_wp2
   go_meet
   case rel => exact ⟨_, (true), (by first | rfl | (simp; done) | (simp [*]; done)), H', ⟨by first | omega | exact Nat.le_refl _⟩, ⟨by repeat (first | (with_reducible first | exact HB.out | apply below_alloc | apply pw_below_drewN | apply below_drew1) | exact HB.out)⟩⟩
 case rest =>
  clear HC3
  try clear p2
  try clear c5
  try clear c6
  try clear c6b0
  try clear c6b1
  obtain ⟨kq, x28_2, rfl, HA, HJ2, HB⟩ := hcut
  cases kq with
  | zero => exact absurd HA.out (by simp [octroilaw15_RedistPaths.j0])
  | succ kj2 =>
   have H := HA.out
   clear HA
   simp only [octroilaw15_RedistPaths.j0] at H
   by_cases c7 : x28_2 = true
   ·
    subst c7
    have H1 : (some t362) = some r := by rw [if_pos rfl] at H; exact H
    clear H
    have H := H1
    clear H1
    obtain rfl := Option.some.inj H
    go_wp2
    go_ret
    exact ⟨by first | rfl | (simp [errW_none, errW_some] <;> rfl) | (simp [*, errW_none, errW_some] <;> rfl), by repeat (first | (with_reducible first | exact HB.out | apply below_alloc | apply pw_below_drewN | apply below_drew1) | exact HB.out)⟩
   ·
    replace c7 := Bool.eq_false_iff.mpr c7
    subst c7
    have H1 : (if 0 < (l0.length : Int) then (octroilaw15_RedistPaths.l0 kj2 l0 0 1 0 0 (rd l0 0) 0 0 0 0) else (none)) = some r := by rw [if_neg (show ¬ (false = true) by decide)] at H; exact H
    clear H
    have H := H1
    clear H1
    by_cases c8 : 0 < (l0.length : Int)
    ·
     rw [if_pos c8] at H
     have c8b0 : decide (0 < (l0.length : Int)) = true := decide_eq_true c8
     have c8b1 : decide (0 < l0.length) = true := decide_eq_true (by omega)
     clear c8
     have HC9 := Aside0.mk H
     clear H
     have p363 : 0 ≤ (0 : Int) := (by omega)
     have q363 : 0 < (l0.length : Int) := of_decide_eq_true (by first | (with_reducible assumption) | assumption)
     obtain ⟨ad363, e363, hx363_0⟩ := Kd.at_int HR0.out 0 p363 q363
     cases e363
     have qi363 : (0 < l0.length) = True := eq_true (by omega)
     (try rw [show ((0 : Int)).toNat = 0 from rfl] at hx363_0)
     (try rw [Addr.add_zero'] at hx363_0)
     replace hx363_0 := (HB.out.cell (World.block_lt_of_cell? w _ hx363_0)).trans hx363_0
     replace p363 := eq_true p363
     replace q363 := eq_true q363
     go_upto_block 0 with (first | ((with_reducible refine gate_dst (N := 4) rfl ?_); (try (refine gate_guard (by rfl) ?_; dsimp only)); refine box_event ?hg (N := 4) ?hd (cs := #[.int .u32 0, .int .i64 0, .int .i64 0, .int .i64 0, .int .i64 0, .int .i64 0, .int .u16 0]) (t := 31) ?hr ?_; (case hd => rfl); (case hg => rfl); (case hr => first | (go_simp; done) | (go_simp; rfl)); intro gb364 hg w10 hbox hb; have n0_ := Aside0.mk (below_step (by repeat (first | (with_reducible first | exact HB.out | apply below_alloc | apply pw_below_drewN | apply below_drew1) | exact HB.out)) hb); have n1_ := Aside0.mk (hbox); have n2_ := Aside0.mk ((by rw [hg]; exact (below_size (by repeat (first | (with_reducible first | exact HB.out | apply below_alloc | apply pw_below_drewN | apply below_drew1) | exact HB.out))) : w.heap.size ≤ gb364)); have n3_ := Aside0.mk ((by rw [hg]; exact (below_size (by repeat (first | (with_reducible first | exact HB.out | apply below_alloc | apply pw_below_drewN | apply below_drew1) | exact HB.out))) : w.heap.size ≤ gb364)); clear HB; have HB := n0_; have BK364 := n1_; have GW364 := n2_; have GE364 := n3_; clear n0_ n1_ n2_ n3_; clear hb hbox hg; have hcz11_0 : w10.cell? ⟨gb364, 0, none⟩ = some (.int .u32 0) := (blk_cell BK364.out 0).trans rfl; have hcz11_1 : w10.cell? ⟨gb364, 1, none⟩ = some (.int .i64 0) := (blk_cell BK364.out 1).trans rfl; have hcz11_2 : w10.cell? ⟨gb364, 2, none⟩ = some (.int .i64 0) := (blk_cell BK364.out 2).trans rfl; have hcz11_3 : w10.cell? ⟨gb364, 3, none⟩ = some (.int .i64 0) := (blk_cell BK364.out 3).trans rfl; have hcz11_4 : w10.cell? ⟨gb364, 4, none⟩ = some (.int .i64 0) := (blk_cell BK364.out 4).trans rfl; have hcz11_5 : w10.cell? ⟨gb364, 5, none⟩ = some (.int .i64 0) := (blk_cell BK364.out 5).trans rfl; have hcz11_6 : w10.cell? ⟨gb364, 6, none⟩ = some (.int .u16 0) := (blk_cell BK364.out 6).trans rfl; have hfz11_0 := blk_frozen BK364.out 0; have hfz11_1 := blk_frozen BK364.out 1; have hfz11_2 := blk_frozen BK364.out 2; have hfz11_3 := blk_frozen BK364.out 3; have hfz11_4 := blk_frozen BK364.out 4; have hfz11_5 := blk_frozen BK364.out 5; have hfz11_6 := blk_frozen BK364.out 6))
     (try simp only [Act.put, List.setIfInBounds_toArray, List.set_cons_zero, List.set_cons_succ])
     go_cut [5] (fun v5 wc => ∃ (kq : Nat) (x5_8 : Int) (x365000_8 : Int) (x365001_8 : Int) (x365002_8 : Int) (x365003_8 : Int) (x365004_8 : Int) (x365005_8 : Int) (x365006_8 : Int), v5 = .int .i64 x5_8 ∧ Aside0 (octroilaw15_RedistPaths.j3 kq l0 x5_8 x365000_8 x365001_8 x365002_8 x365003_8 x365004_8 x365005_8 x365006_8 = some r) ∧ Aside0 (kq ≤ kj2) ∧ Aside0 (wc.heap[gb364]? = some (.cells #[.int .u32 x365000_8, .int .i64 x365001_8, .int .i64 x365002_8, .int .i64 x365003_8, .int .i64 x365004_8, .int .i64 x365005_8, .int .u16 x365006_8] 31 (0, 0))) ∧ Aside0 (Below w.heap.size w wc))
     case first =>
      have H := HC9.out
      clear HC9
      have H' := Aside0.mk H
      clear H
      go_wp2
      go_loopg [5, 6] kj2 (fun kq v5 v6 w' => ∃ (x5_2 : Int) (x6_2 : Int) (x365000_2 : Int) (x365001_2 : Int) (x365002_2 : Int) (x365003_2 : Int) (x365004_2 : Int) (x365005_2 : Int) (x365006_2 : Int), v5 = .int .i64 x5_2 ∧ v6 = .int .i64 x6_2 ∧ Aside0 (octroilaw15_RedistPaths.l0 kq l0 x5_2 x6_2 x365000_2 x365001_2 x365002_2 x365003_2 x365004_2 x365005_2 x365006_2 = some r) ∧ Aside0 (kq ≤ kj2) ∧ Aside0 (w'.heap[gb364]? = some (.cells #[.int .u32 x365000_2, .int .i64 x365001_2, .int .i64 x365002_2, .int .i64 x365003_2, .int .i64 x365004_2, .int .i64 x365005_2, .int .u16 x365006_2] 31 (0, 0))) ∧ Aside0 (Below w.heap.size w w'))
      case atStart => exact ⟨(0), (1), (0), (0), (rd l0 0), (0), (0), (0), (0), (by first | rfl | (simp; done) | (simp [*]; done)), (by first | rfl | (simp; done) | (simp [*]; done)), H', ⟨Nat.le_refl _⟩, ⟨by (with_reducible repeat (first | refine blk_drewN ?_ _ | refine blk_drew ?_ | refine blk_alloc ?_ _)); refine blk_put (cs := #[.int .u32 0, .int .i64 0, .int .i64 (rd l0 0), .int .i64 0, .int .i64 0, .int .i64 0, .int .u16 0]) ?_ 6 _ rfl; (with_reducible repeat (first | refine blk_drewN ?_ _ | refine blk_drew ?_ | refine blk_alloc ?_ _)); refine blk_put (cs := #[.int .u32 0, .int .i64 0, .int .i64 (rd l0 0), .int .i64 0, .int .i64 0, .int .i64 0, .int .u16 0]) ?_ 5 _ rfl; (with_reducible repeat (first | refine blk_drewN ?_ _ | refine blk_drew ?_ | refine blk_alloc ?_ _)); refine blk_put (cs := #[.int .u32 0, .int .i64 0, .int .i64 (rd l0 0), .int .i64 0, .int .i64 0, .int .i64 0, .int .u16 0]) ?_ 4 _ rfl; (with_reducible repeat (first | refine blk_drewN ?_ _ | refine blk_drew ?_ | refine blk_alloc ?_ _)); refine blk_put (cs := #[.int .u32 0, .int .i64 0, .int .i64 (rd l0 0), .int .i64 0, .int .i64 0, .int .i64 0, .int .u16 0]) ?_ 3 _ rfl; (with_reducible repeat (first | refine blk_drewN ?_ _ | refine blk_drew ?_ | refine blk_alloc ?_ _)); refine blk_put (cs := #[.int .u32 0, .int .i64 0, .int .i64 0, .int .i64 0, .int .i64 0, .int .i64 0, .int .u16 0]) ?_ 2 _ rfl; (with_reducible repeat (first | refine blk_drewN ?_ _ | refine blk_drew ?_ | refine blk_alloc ?_ _)); refine blk_put (cs := #[.int .u32 0, .int .i64 0, .int .i64 0, .int .i64 0, .int .i64 0, .int .i64 0, .int .u16 0]) ?_ 1 _ rfl; (with_reducible repeat (first | refine blk_drewN ?_ _ | refine blk_drew ?_ | refine blk_alloc ?_ _)); refine blk_put (cs := #[.int .u32 0, .int .i64 0, .int .i64 0, .int .i64 0, .int .i64 0, .int .i64 0, .int .u16 0]) ?_ 0 _ rfl; (with_reducible repeat (first | refine blk_drewN ?_ _ | refine blk_drew ?_ | refine blk_alloc ?_ _)); exact BK364.out⟩, ⟨by repeat (first | (with_reducible first | exact HB.out | apply below_alloc | apply pw_below_drewN | apply below_drew1 | refine below_set ?_ GE364.out) | exact HB.out)⟩⟩
      case round =>
       clear H'
       try clear p2
       try clear p3
       try clear q3
       try clear hx3
       try clear qi3
       try clear c5
       try clear c6
       try clear c6b0
       try clear c6b1
       try clear c7
       try clear c8
       try clear c8b0
       try clear c8b1
       try clear hcz11_0
       try clear hcz11_1
       try clear hcz11_2
       try clear hcz11_3
       try clear hcz11_4
       try clear hcz11_5
       try clear hcz11_6
       try clear hfz11_0
       try clear hfz11_1
       try clear hfz11_2
       try clear hfz11_3
       try clear hfz11_4
       try clear hfz11_5
       try clear hfz11_6
       try clear hx363_0
       try clear p2
       try clear p363
       try clear q363
       obtain ⟨x5_2, x6_2, x365000_2, x365001_2, x365002_2, x365003_2, x365004_2, x365005_2, x365006_2, rfl, rfl, HA, HK2, BK364, HB⟩ := hrel
       cases gk with
       | zero => exact absurd HA.out (by simp [octroilaw15_RedistPaths.l0])
       | succ k2 =>
        have H := HA.out
        clear HA
        simp only [octroilaw15_RedistPaths.l0] at H
        by_cases c12 : x6_2 < (l0.length : Int)
        ·
         rw [if_pos c12] at H
         have c12b0 : decide (x6_2 < (l0.length : Int)) = true := decide_eq_true c12
         clear c12
         (first | rw [c12b0] | (simp only [i64_w, i32_w]; rw [c12b0]) | skip)
         have HC13 := Aside0.mk H
         clear H
         go_upto_region 9 with (fail)
         go_cut [63] (fun v63 wc => ∃ (kq : Nat) (x63_12 : Bool), v63 = .bool x63_12 ∧ Aside0 (octroilaw15_RedistPaths.j2 kq l0 x5_2 x6_2 x63_12 x365000_2 x365001_2 x365002_2 x365003_2 x365004_2 x365005_2 x365006_2 = some r) ∧ Aside0 (kq ≤ k2) ∧ Aside0 (wc.heap[gb364]? = some (.cells #[.int .u32 x365000_2, .int .i64 x365001_2, .int .i64 x365002_2, .int .i64 x365003_2, .int .i64 x365004_2, .int .i64 x365005_2, .int .u16 x365006_2] 31 (0, 0))) ∧ Aside0 (Below w.heap.size w wc))
         case first =>
          have H := HC13.out
          clear HC13
          by_cases c14 : 0 ≤ x6_2
          ·
           rw [if_pos c14] at H
           have c14b0 : decide (0 ≤ x6_2) = true := decide_eq_true c14
           clear c14
           (first | rw [c14b0] | (simp only [i64_w, i32_w]; rw [c14b0]) | skip)
           by_cases c15 : (rd l0 x6_2) < 0
           ·
            rw [if_pos c15] at H
            have c15b0 : decide ((rd l0 x6_2) < 0) = true := decide_eq_true c15
            clear c15
            have H' := Aside0.mk H
            clear H
            have p365 : 0 ≤ (x6_2 : Int) := of_decide_eq_true (by first | (with_reducible assumption) | assumption)
            have q365 : x6_2 < (l0.length : Int) := of_decide_eq_true (by first | (with_reducible assumption) | assumption)
            obtain ⟨ad365, e365, hx365_0⟩ := Kd.at_int HR0.out x6_2 p365 q365
            obtain rfl : ad363 = ad365 := (by injection e365)
            replace hx365_0 := (HB.out.cell (World.block_lt_of_cell? w _ hx365_0)).trans hx365_0
            replace p365 := eq_true p365
            replace q365 := eq_true q365
            go_wp2
            go_meet
            case rel => exact ⟨_, (true), (by first | rfl | (simp; done) | (simp [*]; done)), H', ⟨by have := HJ2.out; have := HK2.out; first | omega | exact Nat.le_refl _⟩, ⟨by (with_reducible repeat (first | refine blk_drewN ?_ _ | refine blk_drew ?_ | refine blk_alloc ?_ _)); exact BK364.out⟩, ⟨by repeat (first | (with_reducible first | exact HB.out | apply below_alloc | apply pw_below_drewN | apply below_drew1 | refine below_set ?_ GE364.out) | exact HB.out)⟩⟩
           ·
            rw [if_neg c15] at H
            have c15b0 : decide ((rd l0 x6_2) < 0) = false := decide_eq_false c15
            clear c15
            by_cases c16 : (rd l0 x6_2) ≥ 16
            ·
             rw [if_pos c16] at H
             have c16b0 : decide (16 ≤ (rd l0 x6_2)) = true := decide_eq_true c16
             clear c16
             have H' := Aside0.mk H
             clear H
             have p365 : 0 ≤ (x6_2 : Int) := of_decide_eq_true (by first | (with_reducible assumption) | assumption)
             have q365 : x6_2 < (l0.length : Int) := of_decide_eq_true (by first | (with_reducible assumption) | assumption)
             obtain ⟨ad365, e365, hx365_0⟩ := Kd.at_int HR0.out x6_2 p365 q365
             obtain rfl : ad363 = ad365 := (by injection e365)
             replace hx365_0 := (HB.out.cell (World.block_lt_of_cell? w _ hx365_0)).trans hx365_0
             replace p365 := eq_true p365
             replace q365 := eq_true q365
             have p366 : 0 ≤ (x6_2 : Int) := of_decide_eq_true (by first | (with_reducible assumption) | assumption)
             have q366 : x6_2 < (l0.length : Int) := of_decide_eq_true (by first | (with_reducible assumption) | assumption)
             obtain ⟨ad366, e366, hx366_0⟩ := Kd.at_int HR0.out x6_2 p366 q366
             obtain rfl : ad363 = ad366 := (by injection e366)
             replace hx366_0 := (HB.out.cell (World.block_lt_of_cell? w _ hx366_0)).trans hx366_0
             replace p366 := eq_true p366
             replace q366 := eq_true q366
             go_wp2
             go_meet
             case rel => exact ⟨_, (true), (by first | rfl | (simp; done) | (simp [*]; done)), H', ⟨by have := HJ2.out; have := HK2.out; first | omega | exact Nat.le_refl _⟩, ⟨by (with_reducible repeat (first | refine blk_drewN ?_ _ | refine blk_drew ?_ | refine blk_alloc ?_ _)); exact BK364.out⟩, ⟨by repeat (first | (with_reducible first | exact HB.out | apply below_alloc | apply pw_below_drewN | apply below_drew1 | refine below_set ?_ GE364.out) | exact HB.out)⟩⟩
            ·
             rw [if_neg c16] at H
             have c16b0 : decide (16 ≤ (rd l0 x6_2)) = false := decide_eq_false c16
             clear c16
             by_cases c17 : 0 < (l0.length : Int)
             ·
              rw [if_pos c17] at H
              have c17b0 : decide (0 < (l0.length : Int)) = true := decide_eq_true c17
              have c17b1 : decide (0 < l0.length) = true := decide_eq_true (by omega)
              clear c17
              by_cases c18 : (rd l0 0) < 0
              ·
               rw [if_pos c18] at H
               have c18b0 : decide ((rd l0 0) < 0) = true := decide_eq_true c18
               clear c18
               have H' := Aside0.mk H
               clear H
               have p365 : 0 ≤ (x6_2 : Int) := of_decide_eq_true (by first | (with_reducible assumption) | assumption)
               have q365 : x6_2 < (l0.length : Int) := of_decide_eq_true (by first | (with_reducible assumption) | assumption)
               obtain ⟨ad365, e365, hx365_0⟩ := Kd.at_int HR0.out x6_2 p365 q365
               obtain rfl : ad363 = ad365 := (by injection e365)
               replace hx365_0 := (HB.out.cell (World.block_lt_of_cell? w _ hx365_0)).trans hx365_0
               replace p365 := eq_true p365
               replace q365 := eq_true q365
               have p366 : 0 ≤ (x6_2 : Int) := of_decide_eq_true (by first | (with_reducible assumption) | assumption)
               have q366 : x6_2 < (l0.length : Int) := of_decide_eq_true (by first | (with_reducible assumption) | assumption)
               obtain ⟨ad366, e366, hx366_0⟩ := Kd.at_int HR0.out x6_2 p366 q366
               obtain rfl : ad363 = ad366 := (by injection e366)
               replace hx366_0 := (HB.out.cell (World.block_lt_of_cell? w _ hx366_0)).trans hx366_0
               replace p366 := eq_true p366
               replace q366 := eq_true q366
               have p367 : 0 ≤ (0 : Int) := (by omega)
               have q367 : 0 < (l0.length : Int) := of_decide_eq_true (by first | (with_reducible assumption) | assumption)
               obtain ⟨ad367, e367, hx367_0⟩ := Kd.at_int HR0.out 0 p367 q367
               obtain rfl : ad363 = ad367 := (by injection e367)
               have qi367 : (0 < l0.length) = True := eq_true (by omega)
               (try rw [show ((0 : Int)).toNat = 0 from rfl] at hx367_0)
               (try rw [Addr.add_zero'] at hx367_0)
               replace hx367_0 := (HB.out.cell (World.block_lt_of_cell? w _ hx367_0)).trans hx367_0
               replace p367 := eq_true p367
               replace q367 := eq_true q367
               go_wp2
               go_meet
               case rel => exact ⟨_, (true), (by first | rfl | (simp; done) | (simp [*]; done)), H', ⟨by have := HJ2.out; have := HK2.out; first | omega | exact Nat.le_refl _⟩, ⟨by (with_reducible repeat (first | refine blk_drewN ?_ _ | refine blk_drew ?_ | refine blk_alloc ?_ _)); exact BK364.out⟩, ⟨by repeat (first | (with_reducible first | exact HB.out | apply below_alloc | apply pw_below_drewN | apply below_drew1 | refine below_set ?_ GE364.out) | exact HB.out)⟩⟩
              ·
               rw [if_neg c18] at H
               have c18b0 : decide ((rd l0 0) < 0) = false := decide_eq_false c18
               clear c18
               have H' := Aside0.mk H
               clear H
               have p365 : 0 ≤ (x6_2 : Int) := of_decide_eq_true (by first | (with_reducible assumption) | assumption)
               have q365 : x6_2 < (l0.length : Int) := of_decide_eq_true (by first | (with_reducible assumption) | assumption)
               obtain ⟨ad365, e365, hx365_0⟩ := Kd.at_int HR0.out x6_2 p365 q365
               obtain rfl : ad363 = ad365 := (by injection e365)
               replace hx365_0 := (HB.out.cell (World.block_lt_of_cell? w _ hx365_0)).trans hx365_0
               replace p365 := eq_true p365
               replace q365 := eq_true q365
               have p366 : 0 ≤ (x6_2 : Int) := of_decide_eq_true (by first | (with_reducible assumption) | assumption)
               have q366 : x6_2 < (l0.length : Int) := of_decide_eq_true (by first | (with_reducible assumption) | assumption)
               obtain ⟨ad366, e366, hx366_0⟩ := Kd.at_int HR0.out x6_2 p366 q366
               obtain rfl : ad363 = ad366 := (by injection e366)
               replace hx366_0 := (HB.out.cell (World.block_lt_of_cell? w _ hx366_0)).trans hx366_0
               replace p366 := eq_true p366
               replace q366 := eq_true q366
               have p367 : 0 ≤ (0 : Int) := (by omega)
               have q367 : 0 < (l0.length : Int) := of_decide_eq_true (by first | (with_reducible assumption) | assumption)
               obtain ⟨ad367, e367, hx367_0⟩ := Kd.at_int HR0.out 0 p367 q367
               obtain rfl : ad363 = ad367 := (by injection e367)
               have qi367 : (0 < l0.length) = True := eq_true (by omega)
               (try rw [show ((0 : Int)).toNat = 0 from rfl] at hx367_0)
               (try rw [Addr.add_zero'] at hx367_0)
               replace hx367_0 := (HB.out.cell (World.block_lt_of_cell? w _ hx367_0)).trans hx367_0
               replace p367 := eq_true p367
               replace q367 := eq_true q367
               have p368 : 0 ≤ (0 : Int) := (by omega)
               have q368 : 0 < (l0.length : Int) := of_decide_eq_true (by first | (with_reducible assumption) | assumption)
               obtain ⟨ad368, e368, hx368_0⟩ := Kd.at_int HR0.out 0 p368 q368
               obtain rfl : ad363 = ad368 := (by injection e368)
               have qi368 : (0 < l0.length) = True := eq_true (by omega)
               (try rw [show ((0 : Int)).toNat = 0 from rfl] at hx368_0)
               (try rw [Addr.add_zero'] at hx368_0)
               replace hx368_0 := (HB.out.cell (World.block_lt_of_cell? w _ hx368_0)).trans hx368_0
               replace p368 := eq_true p368
               replace q368 := eq_true q368
               go_wp2
               go_meet
               case rel => exact ⟨_, (decide ((rd l0 0) ≥ 16)), (by first | rfl | (simp; done) | (simp [*]; done)), H', ⟨by have := HJ2.out; have := HK2.out; first | omega | exact Nat.le_refl _⟩, ⟨by (with_reducible repeat (first | refine blk_drewN ?_ _ | refine blk_drew ?_ | refine blk_alloc ?_ _)); exact BK364.out⟩, ⟨by repeat (first | (with_reducible first | exact HB.out | apply below_alloc | apply pw_below_drewN | apply below_drew1 | refine below_set ?_ GE364.out) | exact HB.out)⟩⟩
             ·
              rw [if_neg c17] at H
              exact absurd H (by simp)
          ·
           rw [if_neg c14] at H
           exact absurd H (by simp)
         case rest =>
          clear HC13
          try clear c1
          try clear p2
          try clear p3
          try clear q3
          try clear hx3
          try clear qi3
          try clear c5
          try clear c6
          try clear c6b0
          try clear c6b1
          try clear c7
          try clear c8
          try clear c8b0
          try clear c8b1
          try clear c12
          try clear c12b0
          try clear c14
          try clear c14b0
          try clear c15
          try clear c15b0
          try clear c16
          try clear c16b0
          try clear c17
          try clear c17b0
          try clear c17b1
          try clear c18
          try clear c18b0
          try clear hcz11_0
          try clear hcz11_1
          try clear hcz11_2
          try clear hcz11_3
          try clear hcz11_4
          try clear hcz11_5
          try clear hcz11_6
          try clear hfz11_0
          try clear hfz11_1
          try clear hfz11_2
          try clear hfz11_3
          try clear hfz11_4
          try clear hfz11_5
          try clear hfz11_6
          try clear hx363_0
          try clear hx365_0
          try clear hx366_0
          try clear hx367_0
          try clear hx368_0
          try clear p2
          try clear p3
          try clear p363
          try clear p365
          try clear p366
          try clear p367
          try clear p368
          try clear q3
          try clear q363
          try clear q365
          try clear q366
          try clear q367
          try clear q368
          obtain ⟨kq, x63_12, rfl, HA, HJ12, BK364, HB⟩ := hcut
          cases kq with
          | zero => exact absurd HA.out (by simp [octroilaw15_RedistPaths.j2])
          | succ kj12 =>
           have H := HA.out
           clear HA
           simp only [octroilaw15_RedistPaths.j2] at H
           by_cases c19 : x63_12 = true
           ·
            subst c19
            have H1 : (some true) = some r := by rw [if_pos rfl] at H; exact H
            clear H
            have H := H1
            clear H1
            obtain rfl := Option.some.inj H
            go_wp2
            go_ret
            exact ⟨by first | rfl | (simp [errW_none, errW_some] <;> rfl) | (simp [*, errW_none, errW_some] <;> rfl), by repeat (first | (with_reducible first | exact HB.out | apply below_alloc | apply pw_below_drewN | apply below_drew1 | refine below_set ?_ GE364.out) | exact HB.out)⟩
           ·
            replace c19 := Bool.eq_false_iff.mpr c19
            subst c19
            have H1 : (if 0 ≤ x6_2 then (if x6_2 < (l0.length : Int) then ((octroilaw15_all.f x365002_2 (rd l0 x6_2)).bind fun bt370 => ((redist_Pass.f kj12 bt370.1 bt370.2.1 bt370.2.2.1 bt370.2.2.2.1 bt370.2.2.2.2 x365000_2 x365001_2 x365002_2 x365003_2 x365004_2 x365005_2 x365006_2).bind fun bt379 => (if bt379.2.2.2.2.2.2.2 = 0 then (octroilaw15_RedistPaths.l0 kj12 l0 x6_2 (wrap64 (x6_2 + 1)) bt379.1 bt379.2.1 bt379.2.2.1 bt379.2.2.2.1 bt379.2.2.2.2.1 bt379.2.2.2.2.2.1 bt379.2.2.2.2.2.2.1) else (octroilaw15_RedistPaths.j3 kj12 l0 x5_2 x365000_2 x365001_2 x365002_2 x365003_2 x365004_2 x365005_2 x365006_2)))) else (none)) else (none)) = some r := by rw [if_neg (show ¬ (false = true) by decide)] at H; exact H
            clear H
            have H := H1
            clear H1
            by_cases c20 : 0 ≤ x6_2
            ·
             rw [if_pos c20] at H
             have c20b0 : decide (0 ≤ x6_2) = true := decide_eq_true c20
             clear c20
             by_cases c21 : x6_2 < (l0.length : Int)
             ·
              rw [if_pos c21] at H
              have c21b0 : decide (x6_2 < (l0.length : Int)) = true := decide_eq_true c21
              clear c21
              replace H := Option.bind_eq_some_iff.mp H
              obtain ⟨⟨t370, t371, t372, t375, t378⟩, A220, H⟩ := H
              replace H : ((redist_Pass.f kj12 t370 t371 t372 t375 t378 x365000_2 x365001_2 x365002_2 x365003_2 x365004_2 x365005_2 x365006_2).bind fun bt379 => (if bt379.2.2.2.2.2.2.2 = 0 then (octroilaw15_RedistPaths.l0 kj12 l0 x6_2 (wrap64 (x6_2 + 1)) bt379.1 bt379.2.1 bt379.2.2.1 bt379.2.2.2.1 bt379.2.2.2.2.1 bt379.2.2.2.2.2.1 bt379.2.2.2.2.2.2.1) else (octroilaw15_RedistPaths.j3 kj12 l0 x5_2 x365000_2 x365001_2 x365002_2 x365003_2 x365004_2 x365005_2 x365006_2))) = some r := H
              have A22 := Aside0.mk A220
              clear A220
              replace H := Option.bind_eq_some_iff.mp H
              obtain ⟨⟨t379, t380, t381, t382, t383, t384, t385, t386⟩, A230, H⟩ := H
              replace H : (if t386 = 0 then (octroilaw15_RedistPaths.l0 kj12 l0 x6_2 (wrap64 (x6_2 + 1)) t379 t380 t381 t382 t383 t384 t385) else (octroilaw15_RedistPaths.j3 kj12 l0 x5_2 x365000_2 x365001_2 x365002_2 x365003_2 x365004_2 x365005_2 x365006_2)) = some r := H
              have A23 := Aside0.mk A230
              clear A230
              by_cases c24 : t386 = 0
              ·
               rw [if_pos c24] at H
               have c24b0 : (t386 == 0) = true := beq_iff_eq.mpr c24
               have c24b1 : (t386 != 0) = false := bne_eq_false_iff_eq.mpr c24
               clear c24
               have H' := Aside0.mk H
               clear H
               try go_wp2
               have n0_ := Aside0.mk (blk_drew BK364.out)
               have n1_ := Aside0.mk (below_drew1 HB.out)
               clear BK364
               clear HB
               have BK364 := n0_
               have HB := n1_
               clear n0_ n1_
               have p369 : 0 ≤ (x6_2 : Int) := of_decide_eq_true (by first | (with_reducible assumption) | assumption)
               have q369 : x6_2 < (l0.length : Int) := of_decide_eq_true (by first | (with_reducible assumption) | assumption)
               obtain ⟨ad369, e369, hx369_0⟩ := Kd.at_int HR0.out x6_2 p369 q369
               have hw369_0 := hx369_0
               obtain rfl : ad363 = ad369 := (by injection e369)
               replace hx369_0 := (HB.out.cell (World.block_lt_of_cell? w _ hx369_0)).trans hx369_0
               replace p369 := eq_true p369
               replace q369 := eq_true q369
               refine start_ (n := 15) (S := fun w' => w'.cell? ⟨gb364, 0, none⟩ = some (.int .u32 x365000_2) ∧ w'.cell? ⟨gb364, 1, none⟩ = some (.int .i64 x365001_2) ∧ w'.cell? ⟨gb364, 2, none⟩ = some (.int .i64 x365002_2) ∧ w'.cell? ⟨gb364, 3, none⟩ = some (.int .i64 x365003_2) ∧ w'.cell? ⟨gb364, 4, none⟩ = some (.int .i64 x365004_2) ∧ w'.cell? ⟨gb364, 5, none⟩ = some (.int .i64 x365005_2) ∧ w'.cell? ⟨gb364, 6, none⟩ = some (.int .u16 x365006_2) ∧ w'.cell? (ad363.add (x6_2).toNat) = some (.int .i64 (rd l0 x6_2))) (ds := []) #[false, false, false, false, false, false, false, false, false, false, false, false, false, false, false] (by kernel_rfl) rfl rfl ⟨(blk_cell BK364.out 0).trans rfl, (blk_cell BK364.out 1).trans rfl, (blk_cell BK364.out 2).trans rfl, (blk_cell BK364.out 3).trans rfl, (blk_cell BK364.out 4).trans rfl, (blk_cell BK364.out 5).trans rfl, (blk_cell BK364.out 6).trans rfl, ((HB.out.cell (World.block_lt_of_cell? w _ hw369_0)).trans hw369_0)⟩ (fun hHeld => ?_); refine with_tabW octroilaw15_RedistPaths.tab11 octroilaw15_RedistPaths.bits11 (fun HT_ HW_ => ?_)
               generalize wc.drew = w25 at BK364 HB hx369_0 hHeld ⊢
               refine pure_ (i := 0) (N := some 65) (v := ?_) (a' := ?_) #[true, false, false, false, false, false, false, false, false, false, false, false, false, false, false] rfl rfl (any_of HT_.out (by kernel_rfl)) (fun _ _ _ h => h) (Or.inl ⟨by rfl, ?_⟩) ?_ ?_
               rotate_left
               ·
                intro w'
                go_simp
                with_reducible rfl
               rotate_left
               ·
                simp only [Act.put, List.setIfInBounds_toArray, List.set_cons_zero, List.set_cons_succ, i64_w, i32_w]
                rfl
               refine pure_ (i := 2) (N := some 67) (v := ?_) (a' := ?_) #[true, false, true, false, false, false, false, false, false, false, false, false, false, false, false] rfl rfl (any_of HT_.out (by kernel_rfl)) (fun _ _ _ h => h) (Or.inl ⟨by rfl, ?_⟩) ?_ ?_
               rotate_left
               ·
                intro w'
                go_simp
                with_reducible rfl
               rotate_left
               ·
                simp only [Act.put, List.setIfInBounds_toArray, List.set_cons_zero, List.set_cons_succ, i64_w, i32_w]
                rfl
               refine pure_ (i := 3) (N := some 68) (v := ?_) (a' := ?_) #[true, false, true, true, false, false, false, false, false, false, false, false, false, false, false] rfl rfl (any_of HT_.out (by kernel_rfl)) (fun _ _ _ h => h) (Or.inl ⟨by rfl, ?_⟩) ?_ ?_
               rotate_left
               ·
                intro w'
                go_simp
                with_reducible rfl
               rotate_left
               ·
                simp only [Act.put, List.setIfInBounds_toArray, List.set_cons_zero, List.set_cons_succ, i64_w, i32_w]
                rfl
               refine pure_ (i := 4) (N := some 69) (v := ?_) (a' := ?_) #[true, false, true, true, true, false, false, false, false, false, false, false, false, false, false] rfl rfl (any_of HT_.out (by kernel_rfl)) (fun _ _ _ h => h) (Or.inl ⟨by rfl, ?_⟩) ?_ ?_
               rotate_left
               ·
                intro w'
                go_simp
                with_reducible rfl
               rotate_left
               ·
                simp only [Act.put, List.setIfInBounds_toArray, List.set_cons_zero, List.set_cons_succ, i64_w, i32_w]
                rfl
               refine take_ (i := 1) (N := some 66) (v := ?_) (a' := ?_) #[true, true, true, true, true, false, false, false, false, false, false, false, false, false, false] rfl rfl (take_ofW HT_.out HW_.out (by kernel_rfl)) (fun _ _ _ h => h) (Or.inl ⟨by rfl, ?_⟩) hHeld ?_ ?_
               rotate_left
               ·
                rintro w' ⟨s0, s1, s2, s3, s4, s5, s6, s7⟩
                go_simp
                with_reducible rfl
               rotate_left
               ·
                simp only [Act.put, List.setIfInBounds_toArray, List.set_cons_zero, List.set_cons_succ, i64_w, i32_w]
                rfl
               refine take_ (i := 5) (N := some 70) (v := ?_) (a' := ?_) #[true, true, true, true, true, true, false, false, false, false, false, false, false, false, false] rfl rfl (take_ofW HT_.out HW_.out (by kernel_rfl)) (fun _ _ _ h => h) (Or.inl ⟨by rfl, ?_⟩) hHeld ?_ ?_
               rotate_left
               ·
                rintro w' ⟨s0, s1, s2, s3, s4, s5, s6, s7⟩
                go_simp
                with_reducible rfl
               rotate_left
               ·
                simp only [Act.put, List.setIfInBounds_toArray, List.set_cons_zero, List.set_cons_succ, i64_w, i32_w]
                rfl
               refine take_ (i := 7) (N := some 72) (v := ?_) (a' := ?_) #[true, true, true, true, true, true, false, true, false, false, false, false, false, false, false] rfl rfl (take_ofW HT_.out HW_.out (by kernel_rfl)) (fun _ _ _ h => h) (Or.inl ⟨by rfl, ?_⟩) hHeld ?_ ?_
               rotate_left
               ·
                rintro w' ⟨s0, s1, s2, s3, s4, s5, s6, s7⟩
                go_simp
                with_reducible rfl
               rotate_left
               ·
                simp only [Act.put, List.setIfInBounds_toArray, List.set_cons_zero, List.set_cons_succ, i64_w, i32_w]
                rfl
               refine join_ (σ := Value × Value × Nat) 2 #[true, true, true, true, true, true, true, true, true, true, true, true, true, false, false] (fun s_ => [(71, .agg #[.int .i64 t370, .int .i64 t371, s_.1, s_.2.1, .int .i64 t378]), (73, .tuple #[.agg #[.int .u32 t379, .int .i64 t380, .int .i64 t381, .int .i64 t382, .int .i64 t383, .int .i64 t384, .int .u16 t385], .int .i64 t386]), (7, .pointer (some ⟨s_.2.2, 0, none⟩)), (64, .tuple #[.agg #[.int .u32 t379, .int .i64 t380, .int .i64 t381, .int .i64 t382, .int .i64 t383, .int .i64 t384, .int .u16 t385], .int .i64 t386]), (74, .agg #[.int .u32 t379, .int .i64 t380, .int .i64 t381, .int .i64 t382, .int .i64 t383, .int .i64 t384, .int .u16 t385]), (75, .int .i64 t386)]) (fun s_ w' => (w'.cell? ⟨gb364, 0, none⟩ = some (.int .u32 x365000_2) ∧ w'.cell? ⟨gb364, 1, none⟩ = some (.int .i64 x365001_2) ∧ w'.cell? ⟨gb364, 2, none⟩ = some (.int .i64 x365002_2) ∧ w'.cell? ⟨gb364, 3, none⟩ = some (.int .i64 x365003_2) ∧ w'.cell? ⟨gb364, 4, none⟩ = some (.int .i64 x365004_2) ∧ w'.cell? ⟨gb364, 5, none⟩ = some (.int .i64 x365005_2) ∧ w'.cell? ⟨gb364, 6, none⟩ = some (.int .u16 x365006_2) ∧ w'.cell? (ad363.add (x6_2).toNat) = some (.int .i64 (rd l0 x6_2))) ∧ (Kd.R k61 61 w' w.heap.size (fun _ => True) s_.1 t372) ∧ (Kd.R k64 64 w' w.heap.size (fun _ => True) s_.2.1 t375) ∧ (w'.heap[gb364]? = some (.cells #[.int .u32 x365000_2, .int .i64 x365001_2, .int .i64 x365002_2, .int .i64 x365003_2, .int .i64 x365004_2, .int .i64 x365005_2, .int .u16 x365006_2] 31 (0, 0))) ∧ (w'.heap[s_.2.2]? = some (.cells #[.int .u32 0, .int .i64 0, .int .i64 0, .int .i64 0, .int .i64 0, .int .i64 0, .int .u16 0] 31 (0, 0))) ∧ (w.heap.size ≤ s_.2.2) ∧ (w.heap.size ≤ s_.2.2) ∧ (gb364 ≠ s_.2.2) ∧ (s_.2.2 ≠ gb364) ∧ (Below w.heap.size w w')) ?_ ?_
               rotate_left
               ·
                intro hCont
                refine two_ (i := 6) (j := 12) (Ni := some 71) (Nj := some 7) #[true, true, true, true, true, true, true, true, false, false, false, false, false, false, false] #[true, true, true, true, true, true, false, true, false, false, false, false, true, false, false] rfl rfl rfl rfl (two_of HT_.out (by kernel_rfl)) (by decide) (by decide) (fun K hK => ?_) (fun K hK => ?_)
                ·
                 skip
                 refine goes_ Try.func14 (by kernel_rfl) rfl #[.int .i64 x365002_2, .int .i64 (rd l0 x6_2)] (by rfl) rfl rfl (by (try simp only [List.map_toArray, List.map_cons, List.map_nil]); first | done | rfl | (simp only [List.length_drop, List.length_take]; rfl)) ?_
                 with_reducible refine (octroilaw15_all.calls x365002_2 (rd l0 x6_2) t370 t371 t372 t375 t378 _ A22.out).mono ?_
                 rintro e w26 ⟨v373, v376, rfl, ho0, ho1, hb⟩
                 refine ⟨_, rfl, ?_⟩
                 have n0_ := Aside0.mk (Kd.R_lower ho0 (below_size (by repeat (first | (with_reducible first | exact HB.out | apply below_alloc | apply pw_below_drewN | apply below_drew1 | refine below_set ?_ GE364.out) | exact HB.out))))
                 have n1_ := Aside0.mk (Kd.R_lower ho1 (below_size (by repeat (first | (with_reducible first | exact HB.out | apply below_alloc | apply pw_below_drewN | apply below_drew1 | refine below_set ?_ GE364.out) | exact HB.out))))
                 have n2_ := Aside0.mk (blk_below (g := gb364) (o := .cells #[.int .u32 x365000_2, .int .i64 x365001_2, .int .i64 x365002_2, .int .i64 x365003_2, .int .i64 x365004_2, .int .i64 x365005_2, .int .u16 x365006_2] 31 (0, 0)) (by (with_reducible repeat (first | refine blk_drewN ?_ _ | refine blk_drew ?_ | refine blk_alloc ?_ _)); exact BK364.out) hb)
                 have n3_ := Aside0.mk (below_step (by repeat (first | (with_reducible first | exact HB.out | apply below_alloc | apply pw_below_drewN | apply below_drew1 | refine below_set ?_ GE364.out) | exact HB.out)) hb)
                 clear BK364
                 clear HB
                 have HO374 := n0_
                 have HO377 := n1_
                 have BK364 := n2_
                 have HB := n3_
                 clear n0_ n1_ n2_ n3_
                 (try clear hb)
                 (try clear hb2)
                 (try clear hk)
                 (try clear hi)
                 (try clear ho0)
                 (try clear ho1)
                 obtain ⟨Ao27, co27, eo27⟩ := Kd.R_slice HO374.out
                 (first | subst eo27 | (injection eo27 with f1_ f2_ f3_; have f4_ := f1_.symm; have f5_ := f3_.symm; clear f1_ f2_ f3_; subst f4_; subst f5_))
                 obtain ⟨Ao28, co28, eo28⟩ := Kd.R_slice HO377.out
                 (first | subst eo28 | (injection eo28 with f1_ f2_ f3_; have f4_ := f1_.symm; have f5_ := f3_.symm; clear f1_ f2_ f3_; subst f4_; subst f5_))
                 refine hK.out _ _ ⟨(blk_cell BK364.out 0).trans rfl, (blk_cell BK364.out 1).trans rfl, (blk_cell BK364.out 2).trans rfl, (blk_cell BK364.out 3).trans rfl, (blk_cell BK364.out 4).trans rfl, (blk_cell BK364.out 5).trans rfl, (blk_cell BK364.out 6).trans rfl, ((HB.out.cell (World.block_lt_of_cell? w _ hw369_0)).trans hw369_0)⟩ (fun hHeld => ?_)
                 clear hK K
                 refine norm_ (a' := ?_) ?_ ?_
                 rotate_left
                 ·
                  show Act.put _ (some 71) _ = _
                  simp only [Act.put, List.setIfInBounds_toArray, List.set_cons_zero, List.set_cons_succ, i64_w, i32_w]
                  rfl
                 refine two_ (i := 8) (j := 12) (Ni := some 73) (Nj := some 7) #[true, true, true, true, true, true, true, true, true, false, false, false, false, false, false] #[true, true, true, true, true, true, true, true, false, false, false, false, true, false, false] rfl rfl rfl rfl (two_of HT_.out (by kernel_rfl)) (by decide) (by decide) (fun K hK => ?_) (fun K hK => ?_)
                 ·
                  skip
                  refine goes_ Try.func10 (by kernel_rfl) rfl #[.agg #[.int .i64 t370, .int .i64 t371, .slice Ao27 t372.length co27, .slice Ao28 t375.length co28, .int .i64 t378], .agg #[.int .u32 x365000_2, .int .i64 x365001_2, .int .i64 x365002_2, .int .i64 x365003_2, .int .i64 x365004_2, .int .i64 x365005_2, .int .u16 x365006_2]] (by rfl) rfl rfl (by (try simp only [List.map_toArray, List.map_cons, List.map_nil]); first | done | rfl | (simp only [List.length_drop, List.length_take]; rfl)) ?_
                  with_reducible refine (redist_Pass.calls kj12 t370 t371 _ _ t372 _ _ t375 t378 x365000_2 x365001_2 x365002_2 x365003_2 x365004_2 x365005_2 x365006_2 t379 t380 t381 t382 t383 t384 t385 t386 _ ?side1 ?side2 ?side3 ?side4 A23.out).mono ?_
                  (case side1 => repeat (first | exact (Kd.R_reads' HO374.out).2.2 | (with_reducible refine Kd.C_alloc ?_ _) | (with_reducible refine Kd.C_drewN ?_ _) | (with_reducible refine Kd.C_drew ?_)))
                  (case side2 => exact (Kd.R_reads' HO374.out).2.1)
                  (case side3 => repeat (first | exact (Kd.R_reads' HO377.out).2.2 | (with_reducible refine Kd.C_alloc ?_ _) | (with_reducible refine Kd.C_drewN ?_ _) | (with_reducible refine Kd.C_drew ?_)))
                  (case side4 => exact (Kd.R_reads' HO377.out).2.1)
                  rintro e w29 ⟨rfl, hb⟩
                  refine ⟨_, rfl, ?_⟩
                  have n0_ := Aside0.mk (Kd.R_below (by (with_reducible repeat (first | apply Kd.R_alloc | apply Kd.R_drewN | apply Kd.R_drew)); exact HO374.out) hb)
                  have n1_ := Aside0.mk (Kd.R_below (by (with_reducible repeat (first | apply Kd.R_alloc | apply Kd.R_drewN | apply Kd.R_drew)); exact HO377.out) hb)
                  have n2_ := Aside0.mk (blk_below (g := gb364) (o := .cells #[.int .u32 x365000_2, .int .i64 x365001_2, .int .i64 x365002_2, .int .i64 x365003_2, .int .i64 x365004_2, .int .i64 x365005_2, .int .u16 x365006_2] 31 (0, 0)) (by (with_reducible repeat (first | refine blk_drewN ?_ _ | refine blk_drew ?_ | refine blk_alloc ?_ _)); exact BK364.out) hb)
                  have n3_ := Aside0.mk (below_step (by repeat (first | (with_reducible first | exact HB.out | apply below_alloc | apply pw_below_drewN | apply below_drew1 | refine below_set ?_ GE364.out) | exact HB.out)) hb)
                  clear HO374
                  clear HO377
                  clear BK364
                  clear HB
                  have HO374 := n0_
                  have HO377 := n1_
                  have BK364 := n2_
                  have HB := n3_
                  clear n0_ n1_ n2_ n3_
                  (try clear hb)
                  (try clear hb2)
                  (try clear hk)
                  (try clear hi)
                  refine hK.out _ _ ⟨(blk_cell BK364.out 0).trans rfl, (blk_cell BK364.out 1).trans rfl, (blk_cell BK364.out 2).trans rfl, (blk_cell BK364.out 3).trans rfl, (blk_cell BK364.out 4).trans rfl, (blk_cell BK364.out 5).trans rfl, (blk_cell BK364.out 6).trans rfl, ((HB.out.cell (World.block_lt_of_cell? w _ hw369_0)).trans hw369_0)⟩ (fun hHeld => ?_)
                  clear hK K
                  refine norm_ (a' := ?_) ?_ ?_
                  rotate_left
                  ·
                   show Act.put _ (some 73) _ = _
                   simp only [Act.put, List.setIfInBounds_toArray, List.set_cons_zero, List.set_cons_succ, i64_w, i32_w]
                   rfl
                  refine pure_ (i := 9) (N := some 64) (v := ?_) (a' := ?_) #[true, true, true, true, true, true, true, true, true, true, false, false, false, false, false] rfl rfl (any_of HT_.out (by kernel_rfl)) (fun _ _ _ h => h) (Or.inl ⟨by rfl, ?_⟩) ?_ ?_
                  rotate_left
                  ·
                   intro w'
                   go_simp
                   with_reducible rfl
                  rotate_left
                  ·
                   simp only [Act.put, List.setIfInBounds_toArray, List.set_cons_zero, List.set_cons_succ, i64_w, i32_w]
                   rfl
                  refine pure_ (i := 10) (N := some 74) (v := ?_) (a' := ?_) #[true, true, true, true, true, true, true, true, true, true, true, false, false, false, false] rfl rfl (any_of HT_.out (by kernel_rfl)) (fun _ _ _ h => h) (Or.inl ⟨by rfl, ?_⟩) ?_ ?_
                  rotate_left
                  ·
                   intro w'
                   go_simp
                   with_reducible rfl
                  rotate_left
                  ·
                   simp only [Act.put, List.setIfInBounds_toArray, List.set_cons_zero, List.set_cons_succ, i64_w, i32_w]
                   rfl
                  refine pure_ (i := 11) (N := some 75) (v := ?_) (a' := ?_) #[true, true, true, true, true, true, true, true, true, true, true, true, false, false, false] rfl rfl (any_of HT_.out (by kernel_rfl)) (fun _ _ _ h => h) (Or.inl ⟨by rfl, ?_⟩) ?_ ?_
                  rotate_left
                  ·
                   intro w'
                   go_simp
                   with_reducible rfl
                  rotate_left
                  ·
                   simp only [Act.put, List.setIfInBounds_toArray, List.set_cons_zero, List.set_cons_succ, i64_w, i32_w]
                   rfl
                  refine one_ (i := 12) (N := some 7) #[true, true, true, true, true, true, true, true, true, true, true, true, true, false, false] rfl rfl (one_of HT_.out (by kernel_rfl)) (by decide) (fun K hK => ?_)
                  refine box_step ?hg (N := 7) ?hd (cs := #[.int .u32 0, .int .i64 0, .int .i64 0, .int .i64 0, .int .i64 0, .int .i64 0, .int .u16 0]) (t := 31) ?hr ?_; (case hd => rfl); (case hg => rfl); (case hr => first | (go_simp; done) | (go_simp; rfl))
                  intro gb387 hg w30 hbox hb
                  have n0_ := Aside0.mk (Kd.R_below (by (with_reducible repeat (first | apply Kd.R_alloc | apply Kd.R_drewN | apply Kd.R_drew)); exact HO374.out) hb)
                  have n1_ := Aside0.mk (Kd.R_below (by (with_reducible repeat (first | apply Kd.R_alloc | apply Kd.R_drewN | apply Kd.R_drew)); exact HO377.out) hb)
                  have n2_ := Aside0.mk (blk_below (g := gb364) (o := .cells #[.int .u32 x365000_2, .int .i64 x365001_2, .int .i64 x365002_2, .int .i64 x365003_2, .int .i64 x365004_2, .int .i64 x365005_2, .int .u16 x365006_2] 31 (0, 0)) (by (with_reducible repeat (first | refine blk_drewN ?_ _ | refine blk_drew ?_ | refine blk_alloc ?_ _)); exact BK364.out) hb)
                  have n3_ := Aside0.mk (below_step (by repeat (first | (with_reducible first | exact HB.out | apply below_alloc | apply pw_below_drewN | apply below_drew1 | refine below_set ?_ GE364.out) | exact HB.out)) hb)
                  have n4_ := Aside0.mk (hbox)
                  have n5_ := Aside0.mk ((by rw [hg]; exact (below_size (by repeat (first | (with_reducible first | exact HB.out | apply below_alloc | apply pw_below_drewN | apply below_drew1 | refine below_set ?_ GE364.out) | exact HB.out))) : w.heap.size ≤ gb387))
                  have n6_ := Aside0.mk ((by rw [hg]; exact (below_size (by repeat (first | (with_reducible first | exact HB.out | apply below_alloc | apply pw_below_drewN | apply below_drew1 | refine below_set ?_ GE364.out) | exact HB.out))) : w.heap.size ≤ gb387))
                  have n7_ := Aside0.mk ((by rw [hg]; exact Nat.ne_of_lt (blk_lt (g := gb364) (o := .cells #[.int .u32 x365000_2, .int .i64 x365001_2, .int .i64 x365002_2, .int .i64 x365003_2, .int .i64 x365004_2, .int .i64 x365005_2, .int .u16 x365006_2] 31 (0, 0)) (by (with_reducible repeat (first | refine blk_drewN ?_ _ | refine blk_drew ?_ | refine blk_alloc ?_ _)); exact BK364.out)) : gb364 ≠ gb387))
                  have n8_ := Aside0.mk ((by rw [hg]; exact Nat.ne_of_gt (blk_lt (g := gb364) (o := .cells #[.int .u32 x365000_2, .int .i64 x365001_2, .int .i64 x365002_2, .int .i64 x365003_2, .int .i64 x365004_2, .int .i64 x365005_2, .int .u16 x365006_2] 31 (0, 0)) (by (with_reducible repeat (first | refine blk_drewN ?_ _ | refine blk_drew ?_ | refine blk_alloc ?_ _)); exact BK364.out)) : gb387 ≠ gb364))
                  clear HO374
                  clear HO377
                  clear BK364
                  clear HB
                  have HO374 := n0_
                  have HO377 := n1_
                  have BK364 := n2_
                  have HB := n3_
                  have BK387 := n4_
                  have GW387 := n5_
                  have GE387 := n6_
                  have NB364_387 := n7_
                  have NB387_364 := n8_
                  clear n0_ n1_ n2_ n3_ n4_ n5_ n6_ n7_ n8_
                  clear hb hbox hg
                  refine hK.out _ _ ⟨(blk_cell BK364.out 0).trans rfl, (blk_cell BK364.out 1).trans rfl, (blk_cell BK364.out 2).trans rfl, (blk_cell BK364.out 3).trans rfl, (blk_cell BK364.out 4).trans rfl, (blk_cell BK364.out 5).trans rfl, (blk_cell BK364.out 6).trans rfl, ((HB.out.cell (World.block_lt_of_cell? w _ hw369_0)).trans hw369_0)⟩ (fun hHeld => ?_)
                  clear hK K
                  refine norm_ (a' := ?_) ?_ ?_
                  rotate_left
                  ·
                   show Act.put _ (some 7) _ = _
                   simp only [Act.put, List.setIfInBounds_toArray, List.set_cons_zero, List.set_cons_succ, i64_w, i32_w]
                   rfl
                  exact norm_ (by simp only [putAll, Act.put, List.setIfInBounds_toArray, List.set_cons_zero, List.set_cons_succ]) (hCont (.slice Ao27 t372.length co27, .slice Ao28 t375.length co28, gb387) _ ⟨hHeld, (by (with_reducible repeat (first | apply Kd.R_alloc | apply Kd.R_drewN | apply Kd.R_drew)); exact HO374.out), (by (with_reducible repeat (first | apply Kd.R_alloc | apply Kd.R_drewN | apply Kd.R_drew)); exact HO377.out), (by (with_reducible repeat (first | refine blk_drewN ?_ _ | refine blk_drew ?_ | refine blk_alloc ?_ _)); exact BK364.out), (by (with_reducible repeat (first | refine blk_drewN ?_ _ | refine blk_drew ?_ | refine blk_alloc ?_ _)); exact BK387.out), GW387.out, GE387.out, NB364_387.out, NB387_364.out, (by repeat (first | (with_reducible first | exact HB.out | apply below_alloc | apply pw_below_drewN | apply below_drew1 | refine below_set ?_ GE364.out | refine below_set ?_ GE387.out) | exact HB.out))⟩)
                 ·
                  skip
                  refine box_step ?hg (N := 7) ?hd (cs := #[.int .u32 0, .int .i64 0, .int .i64 0, .int .i64 0, .int .i64 0, .int .i64 0, .int .u16 0]) (t := 31) ?hr ?_; (case hd => rfl); (case hg => rfl); (case hr => first | (go_simp; done) | (go_simp; rfl))
                  intro gb387 hg w27 hbox hb
                  have n0_ := Aside0.mk (Kd.R_below (by (with_reducible repeat (first | apply Kd.R_alloc | apply Kd.R_drewN | apply Kd.R_drew)); exact HO374.out) hb)
                  have n1_ := Aside0.mk (Kd.R_below (by (with_reducible repeat (first | apply Kd.R_alloc | apply Kd.R_drewN | apply Kd.R_drew)); exact HO377.out) hb)
                  have n2_ := Aside0.mk (blk_below (g := gb364) (o := .cells #[.int .u32 x365000_2, .int .i64 x365001_2, .int .i64 x365002_2, .int .i64 x365003_2, .int .i64 x365004_2, .int .i64 x365005_2, .int .u16 x365006_2] 31 (0, 0)) (by (with_reducible repeat (first | refine blk_drewN ?_ _ | refine blk_drew ?_ | refine blk_alloc ?_ _)); exact BK364.out) hb)
                  have n3_ := Aside0.mk (below_step (by repeat (first | (with_reducible first | exact HB.out | apply below_alloc | apply pw_below_drewN | apply below_drew1 | refine below_set ?_ GE364.out) | exact HB.out)) hb)
                  have n4_ := Aside0.mk (hbox)
                  have n5_ := Aside0.mk ((by rw [hg]; exact (below_size (by repeat (first | (with_reducible first | exact HB.out | apply below_alloc | apply pw_below_drewN | apply below_drew1 | refine below_set ?_ GE364.out) | exact HB.out))) : w.heap.size ≤ gb387))
                  have n6_ := Aside0.mk ((by rw [hg]; exact (below_size (by repeat (first | (with_reducible first | exact HB.out | apply below_alloc | apply pw_below_drewN | apply below_drew1 | refine below_set ?_ GE364.out) | exact HB.out))) : w.heap.size ≤ gb387))
                  have n7_ := Aside0.mk ((by rw [hg]; exact Nat.ne_of_lt (blk_lt (g := gb364) (o := .cells #[.int .u32 x365000_2, .int .i64 x365001_2, .int .i64 x365002_2, .int .i64 x365003_2, .int .i64 x365004_2, .int .i64 x365005_2, .int .u16 x365006_2] 31 (0, 0)) (by (with_reducible repeat (first | refine blk_drewN ?_ _ | refine blk_drew ?_ | refine blk_alloc ?_ _)); exact BK364.out)) : gb364 ≠ gb387))
                  have n8_ := Aside0.mk ((by rw [hg]; exact Nat.ne_of_gt (blk_lt (g := gb364) (o := .cells #[.int .u32 x365000_2, .int .i64 x365001_2, .int .i64 x365002_2, .int .i64 x365003_2, .int .i64 x365004_2, .int .i64 x365005_2, .int .u16 x365006_2] 31 (0, 0)) (by (with_reducible repeat (first | refine blk_drewN ?_ _ | refine blk_drew ?_ | refine blk_alloc ?_ _)); exact BK364.out)) : gb387 ≠ gb364))
                  clear HO374
                  clear HO377
                  clear BK364
                  clear HB
                  have HO374 := n0_
                  have HO377 := n1_
                  have BK364 := n2_
                  have HB := n3_
                  have BK387 := n4_
                  have GW387 := n5_
                  have GE387 := n6_
                  have NB364_387 := n7_
                  have NB387_364 := n8_
                  clear n0_ n1_ n2_ n3_ n4_ n5_ n6_ n7_ n8_
                  clear hb hbox hg
                  obtain ⟨Ao28, co28, eo28⟩ := Kd.R_slice HO374.out
                  (first | subst eo28 | (injection eo28 with f1_ f2_ f3_; have f4_ := f1_.symm; have f5_ := f3_.symm; clear f1_ f2_ f3_; subst f4_; subst f5_))
                  obtain ⟨Ao29, co29, eo29⟩ := Kd.R_slice HO377.out
                  (first | subst eo29 | (injection eo29 with f1_ f2_ f3_; have f4_ := f1_.symm; have f5_ := f3_.symm; clear f1_ f2_ f3_; subst f4_; subst f5_))
                  refine hK.out _ _ ⟨(blk_cell BK364.out 0).trans rfl, (blk_cell BK364.out 1).trans rfl, (blk_cell BK364.out 2).trans rfl, (blk_cell BK364.out 3).trans rfl, (blk_cell BK364.out 4).trans rfl, (blk_cell BK364.out 5).trans rfl, (blk_cell BK364.out 6).trans rfl, ((HB.out.cell (World.block_lt_of_cell? w _ hw369_0)).trans hw369_0)⟩ (fun hHeld => ?_)
                  clear hK K
                  refine norm_ (a' := ?_) ?_ ?_
                  rotate_left
                  ·
                   show Act.put _ (some 7) _ = _
                   simp only [Act.put, List.setIfInBounds_toArray, List.set_cons_zero, List.set_cons_succ, i64_w, i32_w]
                   rfl
                  refine one_ (i := 8) (N := some 73) #[true, true, true, true, true, true, true, true, true, false, false, false, true, false, false] rfl rfl (one_of HT_.out (by kernel_rfl)) (by decide) (fun K hK => ?_)
                  refine goes_ Try.func10 (by kernel_rfl) rfl #[.agg #[.int .i64 t370, .int .i64 t371, .slice Ao28 t372.length co28, .slice Ao29 t375.length co29, .int .i64 t378], .agg #[.int .u32 x365000_2, .int .i64 x365001_2, .int .i64 x365002_2, .int .i64 x365003_2, .int .i64 x365004_2, .int .i64 x365005_2, .int .u16 x365006_2]] (by rfl) rfl rfl (by (try simp only [List.map_toArray, List.map_cons, List.map_nil]); first | done | rfl | (simp only [List.length_drop, List.length_take]; rfl)) ?_
                  with_reducible refine (redist_Pass.calls kj12 t370 t371 _ _ t372 _ _ t375 t378 x365000_2 x365001_2 x365002_2 x365003_2 x365004_2 x365005_2 x365006_2 t379 t380 t381 t382 t383 t384 t385 t386 _ ?side1 ?side2 ?side3 ?side4 A23.out).mono ?_
                  (case side1 => repeat (first | exact (Kd.R_reads' HO374.out).2.2 | (with_reducible refine Kd.C_alloc ?_ _) | (with_reducible refine Kd.C_drewN ?_ _) | (with_reducible refine Kd.C_drew ?_)))
                  (case side2 => exact (Kd.R_reads' HO374.out).2.1)
                  (case side3 => repeat (first | exact (Kd.R_reads' HO377.out).2.2 | (with_reducible refine Kd.C_alloc ?_ _) | (with_reducible refine Kd.C_drewN ?_ _) | (with_reducible refine Kd.C_drew ?_)))
                  (case side4 => exact (Kd.R_reads' HO377.out).2.1)
                  rintro e w30 ⟨rfl, hb⟩
                  refine ⟨_, rfl, ?_⟩
                  have n0_ := Aside0.mk (Kd.R_below (by (with_reducible repeat (first | apply Kd.R_alloc | apply Kd.R_drewN | apply Kd.R_drew)); exact HO374.out) hb)
                  have n1_ := Aside0.mk (Kd.R_below (by (with_reducible repeat (first | apply Kd.R_alloc | apply Kd.R_drewN | apply Kd.R_drew)); exact HO377.out) hb)
                  have n2_ := Aside0.mk (blk_below (g := gb364) (o := .cells #[.int .u32 x365000_2, .int .i64 x365001_2, .int .i64 x365002_2, .int .i64 x365003_2, .int .i64 x365004_2, .int .i64 x365005_2, .int .u16 x365006_2] 31 (0, 0)) (by (with_reducible repeat (first | refine blk_drewN ?_ _ | refine blk_drew ?_ | refine blk_alloc ?_ _)); exact BK364.out) hb)
                  have n3_ := Aside0.mk (blk_below (g := gb387) (o := .cells #[.int .u32 0, .int .i64 0, .int .i64 0, .int .i64 0, .int .i64 0, .int .i64 0, .int .u16 0] 31 (0, 0)) (by (with_reducible repeat (first | refine blk_drewN ?_ _ | refine blk_drew ?_ | refine blk_alloc ?_ _)); exact BK387.out) hb)
                  have n4_ := Aside0.mk (below_step (by repeat (first | (with_reducible first | exact HB.out | apply below_alloc | apply pw_below_drewN | apply below_drew1 | refine below_set ?_ GE364.out | refine below_set ?_ GE387.out) | exact HB.out)) hb)
                  clear HO374
                  clear HO377
                  clear BK364
                  clear BK387
                  clear HB
                  have HO374 := n0_
                  have HO377 := n1_
                  have BK364 := n2_
                  have BK387 := n3_
                  have HB := n4_
                  clear n0_ n1_ n2_ n3_ n4_
                  (try clear hb)
                  (try clear hb2)
                  (try clear hk)
                  (try clear hi)
                  refine hK.out _ _ ⟨(blk_cell BK364.out 0).trans rfl, (blk_cell BK364.out 1).trans rfl, (blk_cell BK364.out 2).trans rfl, (blk_cell BK364.out 3).trans rfl, (blk_cell BK364.out 4).trans rfl, (blk_cell BK364.out 5).trans rfl, (blk_cell BK364.out 6).trans rfl, ((HB.out.cell (World.block_lt_of_cell? w _ hw369_0)).trans hw369_0)⟩ (fun hHeld => ?_)
                  clear hK K
                  refine norm_ (a' := ?_) ?_ ?_
                  rotate_left
                  ·
                   show Act.put _ (some 73) _ = _
                   simp only [Act.put, List.setIfInBounds_toArray, List.set_cons_zero, List.set_cons_succ, i64_w, i32_w]
                   rfl
                  refine pure_ (i := 9) (N := some 64) (v := ?_) (a' := ?_) #[true, true, true, true, true, true, true, true, true, true, false, false, true, false, false] rfl rfl (any_of HT_.out (by kernel_rfl)) (fun _ _ _ h => h) (Or.inl ⟨by rfl, ?_⟩) ?_ ?_
                  rotate_left
                  ·
                   intro w'
                   go_simp
                   with_reducible rfl
                  rotate_left
                  ·
                   simp only [Act.put, List.setIfInBounds_toArray, List.set_cons_zero, List.set_cons_succ, i64_w, i32_w]
                   rfl
                  refine pure_ (i := 10) (N := some 74) (v := ?_) (a' := ?_) #[true, true, true, true, true, true, true, true, true, true, true, false, true, false, false] rfl rfl (any_of HT_.out (by kernel_rfl)) (fun _ _ _ h => h) (Or.inl ⟨by rfl, ?_⟩) ?_ ?_
                  rotate_left
                  ·
                   intro w'
                   go_simp
                   with_reducible rfl
                  rotate_left
                  ·
                   simp only [Act.put, List.setIfInBounds_toArray, List.set_cons_zero, List.set_cons_succ, i64_w, i32_w]
                   rfl
                  refine pure_ (i := 11) (N := some 75) (v := ?_) (a' := ?_) #[true, true, true, true, true, true, true, true, true, true, true, true, true, false, false] rfl rfl (any_of HT_.out (by kernel_rfl)) (fun _ _ _ h => h) (Or.inl ⟨by rfl, ?_⟩) ?_ ?_
                  rotate_left
                  ·
                   intro w'
                   go_simp
                   with_reducible rfl
                  rotate_left
                  ·
                   simp only [Act.put, List.setIfInBounds_toArray, List.set_cons_zero, List.set_cons_succ, i64_w, i32_w]
                   rfl
                  exact norm_ (by simp only [putAll, Act.put, List.setIfInBounds_toArray, List.set_cons_zero, List.set_cons_succ]) (hCont (.slice Ao28 t372.length co28, .slice Ao29 t375.length co29, gb387) _ ⟨hHeld, (by (with_reducible repeat (first | apply Kd.R_alloc | apply Kd.R_drewN | apply Kd.R_drew)); exact HO374.out), (by (with_reducible repeat (first | apply Kd.R_alloc | apply Kd.R_drewN | apply Kd.R_drew)); exact HO377.out), (by (with_reducible repeat (first | refine blk_drewN ?_ _ | refine blk_drew ?_ | refine blk_alloc ?_ _)); exact BK364.out), (by (with_reducible repeat (first | refine blk_drewN ?_ _ | refine blk_drew ?_ | refine blk_alloc ?_ _)); exact BK387.out), GW387.out, GE387.out, NB364_387.out, NB387_364.out, (by repeat (first | (with_reducible first | exact HB.out | apply below_alloc | apply pw_below_drewN | apply below_drew1 | refine below_set ?_ GE364.out | refine below_set ?_ GE387.out) | exact HB.out))⟩)
                ·
                 skip
                 refine box_step ?hg (N := 7) ?hd (cs := #[.int .u32 0, .int .i64 0, .int .i64 0, .int .i64 0, .int .i64 0, .int .i64 0, .int .u16 0]) (t := 31) ?hr ?_; (case hd => rfl); (case hg => rfl); (case hr => first | (go_simp; done) | (go_simp; rfl))
                 intro gb387 hg w26 hbox hb
                 have n0_ := Aside0.mk (blk_below (g := gb364) (o := .cells #[.int .u32 x365000_2, .int .i64 x365001_2, .int .i64 x365002_2, .int .i64 x365003_2, .int .i64 x365004_2, .int .i64 x365005_2, .int .u16 x365006_2] 31 (0, 0)) (by (with_reducible repeat (first | refine blk_drewN ?_ _ | refine blk_drew ?_ | refine blk_alloc ?_ _)); exact BK364.out) hb)
                 have n1_ := Aside0.mk (below_step (by repeat (first | (with_reducible first | exact HB.out | apply below_alloc | apply pw_below_drewN | apply below_drew1 | refine below_set ?_ GE364.out) | exact HB.out)) hb)
                 have n2_ := Aside0.mk (hbox)
                 have n3_ := Aside0.mk ((by rw [hg]; exact (below_size (by repeat (first | (with_reducible first | exact HB.out | apply below_alloc | apply pw_below_drewN | apply below_drew1 | refine below_set ?_ GE364.out) | exact HB.out))) : w.heap.size ≤ gb387))
                 have n4_ := Aside0.mk ((by rw [hg]; exact (below_size (by repeat (first | (with_reducible first | exact HB.out | apply below_alloc | apply pw_below_drewN | apply below_drew1 | refine below_set ?_ GE364.out) | exact HB.out))) : w.heap.size ≤ gb387))
                 have n5_ := Aside0.mk ((by rw [hg]; exact Nat.ne_of_lt (blk_lt (g := gb364) (o := .cells #[.int .u32 x365000_2, .int .i64 x365001_2, .int .i64 x365002_2, .int .i64 x365003_2, .int .i64 x365004_2, .int .i64 x365005_2, .int .u16 x365006_2] 31 (0, 0)) (by (with_reducible repeat (first | refine blk_drewN ?_ _ | refine blk_drew ?_ | refine blk_alloc ?_ _)); exact BK364.out)) : gb364 ≠ gb387))
                 have n6_ := Aside0.mk ((by rw [hg]; exact Nat.ne_of_gt (blk_lt (g := gb364) (o := .cells #[.int .u32 x365000_2, .int .i64 x365001_2, .int .i64 x365002_2, .int .i64 x365003_2, .int .i64 x365004_2, .int .i64 x365005_2, .int .u16 x365006_2] 31 (0, 0)) (by (with_reducible repeat (first | refine blk_drewN ?_ _ | refine blk_drew ?_ | refine blk_alloc ?_ _)); exact BK364.out)) : gb387 ≠ gb364))
                 clear BK364
                 clear HB
                 have BK364 := n0_
                 have HB := n1_
                 have BK387 := n2_
                 have GW387 := n3_
                 have GE387 := n4_
                 have NB364_387 := n5_
                 have NB387_364 := n6_
                 clear n0_ n1_ n2_ n3_ n4_ n5_ n6_
                 clear hb hbox hg
                 refine hK.out _ _ ⟨(blk_cell BK364.out 0).trans rfl, (blk_cell BK364.out 1).trans rfl, (blk_cell BK364.out 2).trans rfl, (blk_cell BK364.out 3).trans rfl, (blk_cell BK364.out 4).trans rfl, (blk_cell BK364.out 5).trans rfl, (blk_cell BK364.out 6).trans rfl, ((HB.out.cell (World.block_lt_of_cell? w _ hw369_0)).trans hw369_0)⟩ (fun hHeld => ?_)
                 clear hK K
                 refine norm_ (a' := ?_) ?_ ?_
                 rotate_left
                 ·
                  show Act.put _ (some 7) _ = _
                  simp only [Act.put, List.setIfInBounds_toArray, List.set_cons_zero, List.set_cons_succ, i64_w, i32_w]
                  rfl
                 refine one_ (i := 6) (N := some 71) #[true, true, true, true, true, true, true, true, false, false, false, false, true, false, false] rfl rfl (one_of HT_.out (by kernel_rfl)) (by decide) (fun K hK => ?_)
                 refine goes_ Try.func14 (by kernel_rfl) rfl #[.int .i64 x365002_2, .int .i64 (rd l0 x6_2)] (by rfl) rfl rfl (by (try simp only [List.map_toArray, List.map_cons, List.map_nil]); first | done | rfl | (simp only [List.length_drop, List.length_take]; rfl)) ?_
                 with_reducible refine (octroilaw15_all.calls x365002_2 (rd l0 x6_2) t370 t371 t372 t375 t378 _ A22.out).mono ?_
                 rintro e w27 ⟨v373, v376, rfl, ho0, ho1, hb⟩
                 refine ⟨_, rfl, ?_⟩
                 have n0_ := Aside0.mk (Kd.R_lower ho0 (below_size (by repeat (first | (with_reducible first | exact HB.out | apply below_alloc | apply pw_below_drewN | apply below_drew1 | refine below_set ?_ GE364.out | refine below_set ?_ GE387.out) | exact HB.out))))
                 have n1_ := Aside0.mk (Kd.R_lower ho1 (below_size (by repeat (first | (with_reducible first | exact HB.out | apply below_alloc | apply pw_below_drewN | apply below_drew1 | refine below_set ?_ GE364.out | refine below_set ?_ GE387.out) | exact HB.out))))
                 have n2_ := Aside0.mk (blk_below (g := gb364) (o := .cells #[.int .u32 x365000_2, .int .i64 x365001_2, .int .i64 x365002_2, .int .i64 x365003_2, .int .i64 x365004_2, .int .i64 x365005_2, .int .u16 x365006_2] 31 (0, 0)) (by (with_reducible repeat (first | refine blk_drewN ?_ _ | refine blk_drew ?_ | refine blk_alloc ?_ _)); exact BK364.out) hb)
                 have n3_ := Aside0.mk (blk_below (g := gb387) (o := .cells #[.int .u32 0, .int .i64 0, .int .i64 0, .int .i64 0, .int .i64 0, .int .i64 0, .int .u16 0] 31 (0, 0)) (by (with_reducible repeat (first | refine blk_drewN ?_ _ | refine blk_drew ?_ | refine blk_alloc ?_ _)); exact BK387.out) hb)
                 have n4_ := Aside0.mk (below_step (by repeat (first | (with_reducible first | exact HB.out | apply below_alloc | apply pw_below_drewN | apply below_drew1 | refine below_set ?_ GE364.out | refine below_set ?_ GE387.out) | exact HB.out)) hb)
                 clear BK364
                 clear BK387
                 clear HB
                 have HO374 := n0_
                 have HO377 := n1_
                 have BK364 := n2_
                 have BK387 := n3_
                 have HB := n4_
                 clear n0_ n1_ n2_ n3_ n4_
                 (try clear hb)
                 (try clear hb2)
                 (try clear hk)
                 (try clear hi)
                 (try clear ho0)
                 (try clear ho1)
                 obtain ⟨Ao28, co28, eo28⟩ := Kd.R_slice HO374.out
                 (first | subst eo28 | (injection eo28 with f1_ f2_ f3_; have f4_ := f1_.symm; have f5_ := f3_.symm; clear f1_ f2_ f3_; subst f4_; subst f5_))
                 obtain ⟨Ao29, co29, eo29⟩ := Kd.R_slice HO377.out
                 (first | subst eo29 | (injection eo29 with f1_ f2_ f3_; have f4_ := f1_.symm; have f5_ := f3_.symm; clear f1_ f2_ f3_; subst f4_; subst f5_))
                 refine hK.out _ _ ⟨(blk_cell BK364.out 0).trans rfl, (blk_cell BK364.out 1).trans rfl, (blk_cell BK364.out 2).trans rfl, (blk_cell BK364.out 3).trans rfl, (blk_cell BK364.out 4).trans rfl, (blk_cell BK364.out 5).trans rfl, (blk_cell BK364.out 6).trans rfl, ((HB.out.cell (World.block_lt_of_cell? w _ hw369_0)).trans hw369_0)⟩ (fun hHeld => ?_)
                 clear hK K
                 refine norm_ (a' := ?_) ?_ ?_
                 rotate_left
                 ·
                  show Act.put _ (some 71) _ = _
                  simp only [Act.put, List.setIfInBounds_toArray, List.set_cons_zero, List.set_cons_succ, i64_w, i32_w]
                  rfl
                 refine one_ (i := 8) (N := some 73) #[true, true, true, true, true, true, true, true, true, false, false, false, true, false, false] rfl rfl (one_of HT_.out (by kernel_rfl)) (by decide) (fun K hK => ?_)
                 refine goes_ Try.func10 (by kernel_rfl) rfl #[.agg #[.int .i64 t370, .int .i64 t371, .slice Ao28 t372.length co28, .slice Ao29 t375.length co29, .int .i64 t378], .agg #[.int .u32 x365000_2, .int .i64 x365001_2, .int .i64 x365002_2, .int .i64 x365003_2, .int .i64 x365004_2, .int .i64 x365005_2, .int .u16 x365006_2]] (by rfl) rfl rfl (by (try simp only [List.map_toArray, List.map_cons, List.map_nil]); first | done | rfl | (simp only [List.length_drop, List.length_take]; rfl)) ?_
                 with_reducible refine (redist_Pass.calls kj12 t370 t371 _ _ t372 _ _ t375 t378 x365000_2 x365001_2 x365002_2 x365003_2 x365004_2 x365005_2 x365006_2 t379 t380 t381 t382 t383 t384 t385 t386 _ ?side1 ?side2 ?side3 ?side4 A23.out).mono ?_
                 (case side1 => repeat (first | exact (Kd.R_reads' HO374.out).2.2 | (with_reducible refine Kd.C_alloc ?_ _) | (with_reducible refine Kd.C_drewN ?_ _) | (with_reducible refine Kd.C_drew ?_)))
                 (case side2 => exact (Kd.R_reads' HO374.out).2.1)
                 (case side3 => repeat (first | exact (Kd.R_reads' HO377.out).2.2 | (with_reducible refine Kd.C_alloc ?_ _) | (with_reducible refine Kd.C_drewN ?_ _) | (with_reducible refine Kd.C_drew ?_)))
                 (case side4 => exact (Kd.R_reads' HO377.out).2.1)
                 rintro e w30 ⟨rfl, hb⟩
                 refine ⟨_, rfl, ?_⟩
                 have n0_ := Aside0.mk (Kd.R_below (by (with_reducible repeat (first | apply Kd.R_alloc | apply Kd.R_drewN | apply Kd.R_drew)); exact HO374.out) hb)
                 have n1_ := Aside0.mk (Kd.R_below (by (with_reducible repeat (first | apply Kd.R_alloc | apply Kd.R_drewN | apply Kd.R_drew)); exact HO377.out) hb)
                 have n2_ := Aside0.mk (blk_below (g := gb364) (o := .cells #[.int .u32 x365000_2, .int .i64 x365001_2, .int .i64 x365002_2, .int .i64 x365003_2, .int .i64 x365004_2, .int .i64 x365005_2, .int .u16 x365006_2] 31 (0, 0)) (by (with_reducible repeat (first | refine blk_drewN ?_ _ | refine blk_drew ?_ | refine blk_alloc ?_ _)); exact BK364.out) hb)
                 have n3_ := Aside0.mk (blk_below (g := gb387) (o := .cells #[.int .u32 0, .int .i64 0, .int .i64 0, .int .i64 0, .int .i64 0, .int .i64 0, .int .u16 0] 31 (0, 0)) (by (with_reducible repeat (first | refine blk_drewN ?_ _ | refine blk_drew ?_ | refine blk_alloc ?_ _)); exact BK387.out) hb)
                 have n4_ := Aside0.mk (below_step (by repeat (first | (with_reducible first | exact HB.out | apply below_alloc | apply pw_below_drewN | apply below_drew1 | refine below_set ?_ GE364.out | refine below_set ?_ GE387.out) | exact HB.out)) hb)
                 clear HO374
                 clear HO377
                 clear BK364
                 clear BK387
                 clear HB
                 have HO374 := n0_
                 have HO377 := n1_
                 have BK364 := n2_
                 have BK387 := n3_
                 have HB := n4_
                 clear n0_ n1_ n2_ n3_ n4_
                 (try clear hb)
                 (try clear hb2)
                 (try clear hk)
                 (try clear hi)
                 refine hK.out _ _ ⟨(blk_cell BK364.out 0).trans rfl, (blk_cell BK364.out 1).trans rfl, (blk_cell BK364.out 2).trans rfl, (blk_cell BK364.out 3).trans rfl, (blk_cell BK364.out 4).trans rfl, (blk_cell BK364.out 5).trans rfl, (blk_cell BK364.out 6).trans rfl, ((HB.out.cell (World.block_lt_of_cell? w _ hw369_0)).trans hw369_0)⟩ (fun hHeld => ?_)
                 clear hK K
                 refine norm_ (a' := ?_) ?_ ?_
                 rotate_left
                 ·
                  show Act.put _ (some 73) _ = _
                  simp only [Act.put, List.setIfInBounds_toArray, List.set_cons_zero, List.set_cons_succ, i64_w, i32_w]
                  rfl
                 refine pure_ (i := 9) (N := some 64) (v := ?_) (a' := ?_) #[true, true, true, true, true, true, true, true, true, true, false, false, true, false, false] rfl rfl (any_of HT_.out (by kernel_rfl)) (fun _ _ _ h => h) (Or.inl ⟨by rfl, ?_⟩) ?_ ?_
                 rotate_left
                 ·
                  intro w'
                  go_simp
                  with_reducible rfl
                 rotate_left
                 ·
                  simp only [Act.put, List.setIfInBounds_toArray, List.set_cons_zero, List.set_cons_succ, i64_w, i32_w]
                  rfl
                 refine pure_ (i := 10) (N := some 74) (v := ?_) (a' := ?_) #[true, true, true, true, true, true, true, true, true, true, true, false, true, false, false] rfl rfl (any_of HT_.out (by kernel_rfl)) (fun _ _ _ h => h) (Or.inl ⟨by rfl, ?_⟩) ?_ ?_
                 rotate_left
                 ·
                  intro w'
                  go_simp
                  with_reducible rfl
                 rotate_left
                 ·
                  simp only [Act.put, List.setIfInBounds_toArray, List.set_cons_zero, List.set_cons_succ, i64_w, i32_w]
                  rfl
                 refine pure_ (i := 11) (N := some 75) (v := ?_) (a' := ?_) #[true, true, true, true, true, true, true, true, true, true, true, true, true, false, false] rfl rfl (any_of HT_.out (by kernel_rfl)) (fun _ _ _ h => h) (Or.inl ⟨by rfl, ?_⟩) ?_ ?_
                 rotate_left
                 ·
                  intro w'
                  go_simp
                  with_reducible rfl
                 rotate_left
                 ·
                  simp only [Act.put, List.setIfInBounds_toArray, List.set_cons_zero, List.set_cons_succ, i64_w, i32_w]
                  rfl
                 exact norm_ (by simp only [putAll, Act.put, List.setIfInBounds_toArray, List.set_cons_zero, List.set_cons_succ]) (hCont (.slice Ao28 t372.length co28, .slice Ao29 t375.length co29, gb387) _ ⟨hHeld, (by (with_reducible repeat (first | apply Kd.R_alloc | apply Kd.R_drewN | apply Kd.R_drew)); exact HO374.out), (by (with_reducible repeat (first | apply Kd.R_alloc | apply Kd.R_drewN | apply Kd.R_drew)); exact HO377.out), (by (with_reducible repeat (first | refine blk_drewN ?_ _ | refine blk_drew ?_ | refine blk_alloc ?_ _)); exact BK364.out), (by (with_reducible repeat (first | refine blk_drewN ?_ _ | refine blk_drew ?_ | refine blk_alloc ?_ _)); exact BK387.out), GW387.out, GE387.out, NB364_387.out, NB387_364.out, (by repeat (first | (with_reducible first | exact HB.out | apply below_alloc | apply pw_below_drewN | apply below_drew1 | refine below_set ?_ GE364.out | refine below_set ?_ GE387.out) | exact HB.out))⟩)
               rintro ⟨v373, v376, gb387⟩ w31 ⟨hS_, h0_, h1_, h2_, h3_, h4_, h5_, h6_, h7_, h8_⟩
               have n0_ : Aside0 (Kd.R k61 61 w31 w.heap.size (fun _ => True) v373 t372) := ⟨h0_⟩
               have n1_ : Aside0 (Kd.R k64 64 w31 w.heap.size (fun _ => True) v376 t375) := ⟨h1_⟩
               have n2_ : Aside0 (w31.heap[gb364]? = some (.cells #[.int .u32 x365000_2, .int .i64 x365001_2, .int .i64 x365002_2, .int .i64 x365003_2, .int .i64 x365004_2, .int .i64 x365005_2, .int .u16 x365006_2] 31 (0, 0))) := ⟨h2_⟩
               have n3_ : Aside0 (w31.heap[gb387]? = some (.cells #[.int .u32 0, .int .i64 0, .int .i64 0, .int .i64 0, .int .i64 0, .int .i64 0, .int .u16 0] 31 (0, 0))) := ⟨h3_⟩
               have n4_ : Aside0 (w.heap.size ≤ gb387) := ⟨h4_⟩
               have n5_ : Aside0 (w.heap.size ≤ gb387) := ⟨h5_⟩
               have n6_ : Aside0 (gb364 ≠ gb387) := ⟨h6_⟩
               have n7_ : Aside0 (gb387 ≠ gb364) := ⟨h7_⟩
               have n8_ : Aside0 (Below w.heap.size w w31) := ⟨h8_⟩
               clear BK364
               clear HB
               clear h0_ h1_ h2_ h3_ h4_ h5_ h6_ h7_ h8_
               have HO374 := n0_
               have HO377 := n1_
               have BK364 := n2_
               have BK387 := n3_
               have GW387 := n4_
               have GE387 := n5_
               have NB364_387 := n6_
               have NB387_364 := n7_
               have HB := n8_
               clear n0_ n1_ n2_ n3_ n4_ n5_ n6_ n7_ n8_
               have hHeld : w31.cell? ⟨gb364, 0, none⟩ = some (.int .u32 x365000_2) ∧ w31.cell? ⟨gb364, 1, none⟩ = some (.int .i64 x365001_2) ∧ w31.cell? ⟨gb364, 2, none⟩ = some (.int .i64 x365002_2) ∧ w31.cell? ⟨gb364, 3, none⟩ = some (.int .i64 x365003_2) ∧ w31.cell? ⟨gb364, 4, none⟩ = some (.int .i64 x365004_2) ∧ w31.cell? ⟨gb364, 5, none⟩ = some (.int .i64 x365005_2) ∧ w31.cell? ⟨gb364, 6, none⟩ = some (.int .u16 x365006_2) ∧ w31.cell? (ad363.add (x6_2).toNat) = some (.int .i64 (rd l0 x6_2)) := hS_
               refine norm_ (a' := ?_) ?_ ?_
               rotate_left
               ·
                simp only [putAll, Act.put, List.setIfInBounds_toArray, List.set_cons_zero, List.set_cons_succ]
                rfl
               refine one_ (i := 13) (N := none) #[true, true, true, true, true, true, true, true, true, true, true, true, true, true, false] rfl rfl (one_of HT_.out (by kernel_rfl)) (by decide) (fun K hK => ?_)
               have hs32 : w31.cell? ⟨gb387, 0, none⟩ = some (.int .u32 0) := (blk_cell BK387.out 0).trans rfl
               have hfs32 := blk_frozen BK387.out 0
               have hns32_0 := NB364_387.out
               have hms32_0 := NB387_364.out
               have hs33 : w31.cell? ⟨gb387, 1, none⟩ = some (.int .i64 0) := (blk_cell BK387.out 1).trans rfl
               have hfs33 := blk_frozen BK387.out 1
               have hns33_0 := NB364_387.out
               have hms33_0 := NB387_364.out
               have hs34 : w31.cell? ⟨gb387, 2, none⟩ = some (.int .i64 0) := (blk_cell BK387.out 2).trans rfl
               have hfs34 := blk_frozen BK387.out 2
               have hns34_0 := NB364_387.out
               have hms34_0 := NB387_364.out
               have hs35 : w31.cell? ⟨gb387, 3, none⟩ = some (.int .i64 0) := (blk_cell BK387.out 3).trans rfl
               have hfs35 := blk_frozen BK387.out 3
               have hns35_0 := NB364_387.out
               have hms35_0 := NB387_364.out
               have hs36 : w31.cell? ⟨gb387, 4, none⟩ = some (.int .i64 0) := (blk_cell BK387.out 4).trans rfl
               have hfs36 := blk_frozen BK387.out 4
               have hns36_0 := NB364_387.out
               have hms36_0 := NB387_364.out
               have hs37 : w31.cell? ⟨gb387, 5, none⟩ = some (.int .i64 0) := (blk_cell BK387.out 5).trans rfl
               have hfs37 := blk_frozen BK387.out 5
               have hns37_0 := NB364_387.out
               have hms37_0 := NB387_364.out
               have hs38 : w31.cell? ⟨gb387, 6, none⟩ = some (.int .u16 0) := (blk_cell BK387.out 6).trans rfl
               have hfs38 := blk_frozen BK387.out 6
               have hns38_0 := NB364_387.out
               have hms38_0 := NB387_364.out
               refine skip_ (w1 := ?_) (by rfl) rfl ?_ ?_
               rotate_left
               ·
                go_simp
                rfl
               refine hK.out _ _ ⟨((cell_far (p := ⟨gb387, _, none⟩) NB364_387.out _).trans (((cell_far (p := ⟨gb387, _, none⟩) NB364_387.out _).trans (((cell_far (p := ⟨gb387, _, none⟩) NB364_387.out _).trans (((cell_far (p := ⟨gb387, _, none⟩) NB364_387.out _).trans (((cell_far (p := ⟨gb387, _, none⟩) NB364_387.out _).trans (((cell_far (p := ⟨gb387, _, none⟩) NB364_387.out _).trans (((cell_far (p := ⟨gb387, _, none⟩) NB364_387.out _).trans (hHeld.1)))))))))))))), ((cell_far (p := ⟨gb387, _, none⟩) NB364_387.out _).trans (((cell_far (p := ⟨gb387, _, none⟩) NB364_387.out _).trans (((cell_far (p := ⟨gb387, _, none⟩) NB364_387.out _).trans (((cell_far (p := ⟨gb387, _, none⟩) NB364_387.out _).trans (((cell_far (p := ⟨gb387, _, none⟩) NB364_387.out _).trans (((cell_far (p := ⟨gb387, _, none⟩) NB364_387.out _).trans (((cell_far (p := ⟨gb387, _, none⟩) NB364_387.out _).trans (hHeld.2.1)))))))))))))), ((cell_far (p := ⟨gb387, _, none⟩) NB364_387.out _).trans (((cell_far (p := ⟨gb387, _, none⟩) NB364_387.out _).trans (((cell_far (p := ⟨gb387, _, none⟩) NB364_387.out _).trans (((cell_far (p := ⟨gb387, _, none⟩) NB364_387.out _).trans (((cell_far (p := ⟨gb387, _, none⟩) NB364_387.out _).trans (((cell_far (p := ⟨gb387, _, none⟩) NB364_387.out _).trans (((cell_far (p := ⟨gb387, _, none⟩) NB364_387.out _).trans (hHeld.2.2.1)))))))))))))), ((cell_far (p := ⟨gb387, _, none⟩) NB364_387.out _).trans (((cell_far (p := ⟨gb387, _, none⟩) NB364_387.out _).trans (((cell_far (p := ⟨gb387, _, none⟩) NB364_387.out _).trans (((cell_far (p := ⟨gb387, _, none⟩) NB364_387.out _).trans (((cell_far (p := ⟨gb387, _, none⟩) NB364_387.out _).trans (((cell_far (p := ⟨gb387, _, none⟩) NB364_387.out _).trans (((cell_far (p := ⟨gb387, _, none⟩) NB364_387.out _).trans (hHeld.2.2.2.1)))))))))))))), ((cell_far (p := ⟨gb387, _, none⟩) NB364_387.out _).trans (((cell_far (p := ⟨gb387, _, none⟩) NB364_387.out _).trans (((cell_far (p := ⟨gb387, _, none⟩) NB364_387.out _).trans (((cell_far (p := ⟨gb387, _, none⟩) NB364_387.out _).trans (((cell_far (p := ⟨gb387, _, none⟩) NB364_387.out _).trans (((cell_far (p := ⟨gb387, _, none⟩) NB364_387.out _).trans (((cell_far (p := ⟨gb387, _, none⟩) NB364_387.out _).trans (hHeld.2.2.2.2.1)))))))))))))), ((cell_far (p := ⟨gb387, _, none⟩) NB364_387.out _).trans (((cell_far (p := ⟨gb387, _, none⟩) NB364_387.out _).trans (((cell_far (p := ⟨gb387, _, none⟩) NB364_387.out _).trans (((cell_far (p := ⟨gb387, _, none⟩) NB364_387.out _).trans (((cell_far (p := ⟨gb387, _, none⟩) NB364_387.out _).trans (((cell_far (p := ⟨gb387, _, none⟩) NB364_387.out _).trans (((cell_far (p := ⟨gb387, _, none⟩) NB364_387.out _).trans (hHeld.2.2.2.2.2.1)))))))))))))), ((cell_far (p := ⟨gb387, _, none⟩) NB364_387.out _).trans (((cell_far (p := ⟨gb387, _, none⟩) NB364_387.out _).trans (((cell_far (p := ⟨gb387, _, none⟩) NB364_387.out _).trans (((cell_far (p := ⟨gb387, _, none⟩) NB364_387.out _).trans (((cell_far (p := ⟨gb387, _, none⟩) NB364_387.out _).trans (((cell_far (p := ⟨gb387, _, none⟩) NB364_387.out _).trans (((cell_far (p := ⟨gb387, _, none⟩) NB364_387.out _).trans (hHeld.2.2.2.2.2.2.1)))))))))))))), ((cell_far (p := ⟨gb387, _, none⟩) (by first | exact Nat.ne_of_lt (Nat.lt_of_lt_of_le (by have := World.block_lt_of_cell? _ _ hw369_0; first | rwa [add_block] at this | exact this) GW387.out) | (rw [add_block]; exact Nat.ne_of_lt (Nat.lt_of_lt_of_le (by have := World.block_lt_of_cell? _ _ hw369_0; first | rwa [add_block] at this | exact this) GW387.out)) | (show (Addr.add _ _).block ≠ _; rw [add_block]; exact Nat.ne_of_lt (Nat.lt_of_lt_of_le (by have := World.block_lt_of_cell? _ _ hw369_0; first | rwa [add_block] at this | exact this) GW387.out)) | (dsimp only; exact Nat.ne_of_lt (Nat.lt_of_lt_of_le (by have := World.block_lt_of_cell? _ _ hw369_0; first | rwa [add_block] at this | exact this) GW387.out))) _).trans (((cell_far (p := ⟨gb387, _, none⟩) (by first | exact Nat.ne_of_lt (Nat.lt_of_lt_of_le (by have := World.block_lt_of_cell? _ _ hw369_0; first | rwa [add_block] at this | exact this) GW387.out) | (rw [add_block]; exact Nat.ne_of_lt (Nat.lt_of_lt_of_le (by have := World.block_lt_of_cell? _ _ hw369_0; first | rwa [add_block] at this | exact this) GW387.out)) | (show (Addr.add _ _).block ≠ _; rw [add_block]; exact Nat.ne_of_lt (Nat.lt_of_lt_of_le (by have := World.block_lt_of_cell? _ _ hw369_0; first | rwa [add_block] at this | exact this) GW387.out)) | (dsimp only; exact Nat.ne_of_lt (Nat.lt_of_lt_of_le (by have := World.block_lt_of_cell? _ _ hw369_0; first | rwa [add_block] at this | exact this) GW387.out))) _).trans (((cell_far (p := ⟨gb387, _, none⟩) (by first | exact Nat.ne_of_lt (Nat.lt_of_lt_of_le (by have := World.block_lt_of_cell? _ _ hw369_0; first | rwa [add_block] at this | exact this) GW387.out) | (rw [add_block]; exact Nat.ne_of_lt (Nat.lt_of_lt_of_le (by have := World.block_lt_of_cell? _ _ hw369_0; first | rwa [add_block] at this | exact this) GW387.out)) | (show (Addr.add _ _).block ≠ _; rw [add_block]; exact Nat.ne_of_lt (Nat.lt_of_lt_of_le (by have := World.block_lt_of_cell? _ _ hw369_0; first | rwa [add_block] at this | exact this) GW387.out)) | (dsimp only; exact Nat.ne_of_lt (Nat.lt_of_lt_of_le (by have := World.block_lt_of_cell? _ _ hw369_0; first | rwa [add_block] at this | exact this) GW387.out))) _).trans (((cell_far (p := ⟨gb387, _, none⟩) (by first | exact Nat.ne_of_lt (Nat.lt_of_lt_of_le (by have := World.block_lt_of_cell? _ _ hw369_0; first | rwa [add_block] at this | exact this) GW387.out) | (rw [add_block]; exact Nat.ne_of_lt (Nat.lt_of_lt_of_le (by have := World.block_lt_of_cell? _ _ hw369_0; first | rwa [add_block] at this | exact this) GW387.out)) | (show (Addr.add _ _).block ≠ _; rw [add_block]; exact Nat.ne_of_lt (Nat.lt_of_lt_of_le (by have := World.block_lt_of_cell? _ _ hw369_0; first | rwa [add_block] at this | exact this) GW387.out)) | (dsimp only; exact Nat.ne_of_lt (Nat.lt_of_lt_of_le (by have := World.block_lt_of_cell? _ _ hw369_0; first | rwa [add_block] at this | exact this) GW387.out))) _).trans (((cell_far (p := ⟨gb387, _, none⟩) (by first | exact Nat.ne_of_lt (Nat.lt_of_lt_of_le (by have := World.block_lt_of_cell? _ _ hw369_0; first | rwa [add_block] at this | exact this) GW387.out) | (rw [add_block]; exact Nat.ne_of_lt (Nat.lt_of_lt_of_le (by have := World.block_lt_of_cell? _ _ hw369_0; first | rwa [add_block] at this | exact this) GW387.out)) | (show (Addr.add _ _).block ≠ _; rw [add_block]; exact Nat.ne_of_lt (Nat.lt_of_lt_of_le (by have := World.block_lt_of_cell? _ _ hw369_0; first | rwa [add_block] at this | exact this) GW387.out)) | (dsimp only; exact Nat.ne_of_lt (Nat.lt_of_lt_of_le (by have := World.block_lt_of_cell? _ _ hw369_0; first | rwa [add_block] at this | exact this) GW387.out))) _).trans (((cell_far (p := ⟨gb387, _, none⟩) (by first | exact Nat.ne_of_lt (Nat.lt_of_lt_of_le (by have := World.block_lt_of_cell? _ _ hw369_0; first | rwa [add_block] at this | exact this) GW387.out) | (rw [add_block]; exact Nat.ne_of_lt (Nat.lt_of_lt_of_le (by have := World.block_lt_of_cell? _ _ hw369_0; first | rwa [add_block] at this | exact this) GW387.out)) | (show (Addr.add _ _).block ≠ _; rw [add_block]; exact Nat.ne_of_lt (Nat.lt_of_lt_of_le (by have := World.block_lt_of_cell? _ _ hw369_0; first | rwa [add_block] at this | exact this) GW387.out)) | (dsimp only; exact Nat.ne_of_lt (Nat.lt_of_lt_of_le (by have := World.block_lt_of_cell? _ _ hw369_0; first | rwa [add_block] at this | exact this) GW387.out))) _).trans (((cell_far (p := ⟨gb387, _, none⟩) (by first | exact Nat.ne_of_lt (Nat.lt_of_lt_of_le (by have := World.block_lt_of_cell? _ _ hw369_0; first | rwa [add_block] at this | exact this) GW387.out) | (rw [add_block]; exact Nat.ne_of_lt (Nat.lt_of_lt_of_le (by have := World.block_lt_of_cell? _ _ hw369_0; first | rwa [add_block] at this | exact this) GW387.out)) | (show (Addr.add _ _).block ≠ _; rw [add_block]; exact Nat.ne_of_lt (Nat.lt_of_lt_of_le (by have := World.block_lt_of_cell? _ _ hw369_0; first | rwa [add_block] at this | exact this) GW387.out)) | (dsimp only; exact Nat.ne_of_lt (Nat.lt_of_lt_of_le (by have := World.block_lt_of_cell? _ _ hw369_0; first | rwa [add_block] at this | exact this) GW387.out))) _).trans (hHeld.2.2.2.2.2.2.2))))))))))))))⟩ (fun hHeld => ?_)
               clear hK K
               refine pure_ (i := 14) (N := some 8) (v := ?_) (a' := ?_) #[true, true, true, true, true, true, true, true, true, true, true, true, true, true, true] rfl rfl (any_of HT_.out (by kernel_rfl)) (fun _ _ _ h => h) (Or.inl ⟨by rfl, ?_⟩) ?_ ?_
               rotate_left
               ·
                intro w'
                go_simp
                with_reducible rfl
               rotate_left
               ·
                simp only [Act.put, List.setIfInBounds_toArray, List.set_cons_zero, List.set_cons_succ, i64_w, i32_w]
                rfl
               refine done_ (done_of HT_.out (by kernel_rfl)) ?_
               have hnb39 := NB387_364.out
               have hnc39 := NB364_387.out
               have hcz40_0 : w31.cell? ⟨gb387, 0, none⟩ = some (.int .u32 0) := (blk_cell BK387.out 0).trans rfl
               have hcz40_1 : w31.cell? ⟨gb387, 1, none⟩ = some (.int .i64 0) := (blk_cell BK387.out 1).trans rfl
               have hcz40_2 : w31.cell? ⟨gb387, 2, none⟩ = some (.int .i64 0) := (blk_cell BK387.out 2).trans rfl
               have hcz40_3 : w31.cell? ⟨gb387, 3, none⟩ = some (.int .i64 0) := (blk_cell BK387.out 3).trans rfl
               have hcz40_4 : w31.cell? ⟨gb387, 4, none⟩ = some (.int .i64 0) := (blk_cell BK387.out 4).trans rfl
               have hcz40_5 : w31.cell? ⟨gb387, 5, none⟩ = some (.int .i64 0) := (blk_cell BK387.out 5).trans rfl
               have hcz40_6 : w31.cell? ⟨gb387, 6, none⟩ = some (.int .u16 0) := (blk_cell BK387.out 6).trans rfl
               have hfz40_0 := blk_frozen BK387.out 0
               have hfz40_1 := blk_frozen BK387.out 1
               have hfz40_2 := blk_frozen BK387.out 2
               have hfz40_3 := blk_frozen BK387.out 3
               have hfz40_4 := blk_frozen BK387.out 4
               have hfz40_5 := blk_frozen BK387.out 5
               have hfz40_6 := blk_frozen BK387.out 6
               have hcz41_0 : w31.cell? ⟨gb364, 0, none⟩ = some (.int .u32 x365000_2) := (blk_cell BK364.out 0).trans rfl
               have hcz41_1 : w31.cell? ⟨gb364, 1, none⟩ = some (.int .i64 x365001_2) := (blk_cell BK364.out 1).trans rfl
               have hcz41_2 : w31.cell? ⟨gb364, 2, none⟩ = some (.int .i64 x365002_2) := (blk_cell BK364.out 2).trans rfl
               have hcz41_3 : w31.cell? ⟨gb364, 3, none⟩ = some (.int .i64 x365003_2) := (blk_cell BK364.out 3).trans rfl
               have hcz41_4 : w31.cell? ⟨gb364, 4, none⟩ = some (.int .i64 x365004_2) := (blk_cell BK364.out 4).trans rfl
               have hcz41_5 : w31.cell? ⟨gb364, 5, none⟩ = some (.int .i64 x365005_2) := (blk_cell BK364.out 5).trans rfl
               have hcz41_6 : w31.cell? ⟨gb364, 6, none⟩ = some (.int .u16 x365006_2) := (blk_cell BK364.out 6).trans rfl
               have hfz41_0 := blk_frozen BK364.out 0
               have hfz41_1 := blk_frozen BK364.out 1
               have hfz41_2 := blk_frozen BK364.out 2
               have hfz41_3 := blk_frozen BK364.out 3
               have hfz41_4 := blk_frozen BK364.out 4
               have hfz41_5 := blk_frozen BK364.out 5
               have hfz41_6 := blk_frozen BK364.out 6
               try go_wp2
               go_roundg kj12
               case measure => have := HJ2.out; have := HK2.out; have := HJ12.out; omega
               case rel => exact ⟨(x6_2), (wrap64 (x6_2 + 1)), (t379), (t380), (t381), (t382), (t383), (t384), (t385), (by first | rfl | (simp; done) | (simp [*]; done)), (by first | rfl | (simp; done) | (simp [*]; done)), H', ⟨by have := HJ2.out; have := HK2.out; have := HJ12.out; omega⟩, ⟨by (with_reducible repeat (first | refine blk_drewN ?_ _ | refine blk_drew ?_ | refine blk_alloc ?_ _)); refine blk_put (cs := #[.int .u32 t379, .int .i64 t380, .int .i64 t381, .int .i64 t382, .int .i64 t383, .int .i64 t384, .int .u16 x365006_2]) ?_ 6 _ rfl; (with_reducible repeat (first | refine blk_drewN ?_ _ | refine blk_drew ?_ | refine blk_alloc ?_ _)); refine blk_put (cs := #[.int .u32 t379, .int .i64 t380, .int .i64 t381, .int .i64 t382, .int .i64 t383, .int .i64 x365005_2, .int .u16 x365006_2]) ?_ 5 _ rfl; (with_reducible repeat (first | refine blk_drewN ?_ _ | refine blk_drew ?_ | refine blk_alloc ?_ _)); refine blk_put (cs := #[.int .u32 t379, .int .i64 t380, .int .i64 t381, .int .i64 t382, .int .i64 x365004_2, .int .i64 x365005_2, .int .u16 x365006_2]) ?_ 4 _ rfl; (with_reducible repeat (first | refine blk_drewN ?_ _ | refine blk_drew ?_ | refine blk_alloc ?_ _)); refine blk_put (cs := #[.int .u32 t379, .int .i64 t380, .int .i64 t381, .int .i64 x365003_2, .int .i64 x365004_2, .int .i64 x365005_2, .int .u16 x365006_2]) ?_ 3 _ rfl; (with_reducible repeat (first | refine blk_drewN ?_ _ | refine blk_drew ?_ | refine blk_alloc ?_ _)); refine blk_put (cs := #[.int .u32 t379, .int .i64 t380, .int .i64 x365002_2, .int .i64 x365003_2, .int .i64 x365004_2, .int .i64 x365005_2, .int .u16 x365006_2]) ?_ 2 _ rfl; (with_reducible repeat (first | refine blk_drewN ?_ _ | refine blk_drew ?_ | refine blk_alloc ?_ _)); refine blk_put (cs := #[.int .u32 t379, .int .i64 x365001_2, .int .i64 x365002_2, .int .i64 x365003_2, .int .i64 x365004_2, .int .i64 x365005_2, .int .u16 x365006_2]) ?_ 1 _ rfl; (with_reducible repeat (first | refine blk_drewN ?_ _ | refine blk_drew ?_ | refine blk_alloc ?_ _)); refine blk_put (cs := #[.int .u32 x365000_2, .int .i64 x365001_2, .int .i64 x365002_2, .int .i64 x365003_2, .int .i64 x365004_2, .int .i64 x365005_2, .int .u16 x365006_2]) ?_ 0 _ rfl; (with_reducible repeat (first | refine blk_drewN ?_ _ | refine blk_drew ?_ | refine blk_alloc ?_ _)); refine blk_far ?_ NB364_387.out _; (with_reducible repeat (first | refine blk_drewN ?_ _ | refine blk_drew ?_ | refine blk_alloc ?_ _)); refine blk_far ?_ NB364_387.out _; (with_reducible repeat (first | refine blk_drewN ?_ _ | refine blk_drew ?_ | refine blk_alloc ?_ _)); refine blk_far ?_ NB364_387.out _; (with_reducible repeat (first | refine blk_drewN ?_ _ | refine blk_drew ?_ | refine blk_alloc ?_ _)); refine blk_far ?_ NB364_387.out _; (with_reducible repeat (first | refine blk_drewN ?_ _ | refine blk_drew ?_ | refine blk_alloc ?_ _)); refine blk_far ?_ NB364_387.out _; (with_reducible repeat (first | refine blk_drewN ?_ _ | refine blk_drew ?_ | refine blk_alloc ?_ _)); refine blk_far ?_ NB364_387.out _; (with_reducible repeat (first | refine blk_drewN ?_ _ | refine blk_drew ?_ | refine blk_alloc ?_ _)); refine blk_far ?_ NB364_387.out _; (with_reducible repeat (first | refine blk_drewN ?_ _ | refine blk_drew ?_ | refine blk_alloc ?_ _)); exact BK364.out⟩, ⟨by repeat (first | (with_reducible first | exact HB.out | apply below_alloc | apply pw_below_drewN | apply below_drew1 | refine below_set ?_ GE364.out | refine below_set ?_ GE387.out) | exact HB.out)⟩⟩
              ·
               rw [if_neg c24] at H
               have c24b0 : (t386 == 0) = false := beq_eq_false_iff_ne.mpr c24
               have c24b1 : (t386 != 0) = true := bne_iff_ne.mpr c24
               have H' := Aside0.mk H
               clear H
               try go_wp2
               have n0_ := Aside0.mk (blk_drew BK364.out)
               have n1_ := Aside0.mk (below_drew1 HB.out)
               clear BK364
               clear HB
               have BK364 := n0_
               have HB := n1_
               clear n0_ n1_
               have p369 : 0 ≤ (x6_2 : Int) := of_decide_eq_true (by first | (with_reducible assumption) | assumption)
               have q369 : x6_2 < (l0.length : Int) := of_decide_eq_true (by first | (with_reducible assumption) | assumption)
               obtain ⟨ad369, e369, hx369_0⟩ := Kd.at_int HR0.out x6_2 p369 q369
               have hw369_0 := hx369_0
               obtain rfl : ad363 = ad369 := (by injection e369)
               replace hx369_0 := (HB.out.cell (World.block_lt_of_cell? w _ hx369_0)).trans hx369_0
               replace p369 := eq_true p369
               replace q369 := eq_true q369
               refine start_ (n := 15) (S := fun w' => w'.cell? ⟨gb364, 0, none⟩ = some (.int .u32 x365000_2) ∧ w'.cell? ⟨gb364, 1, none⟩ = some (.int .i64 x365001_2) ∧ w'.cell? ⟨gb364, 2, none⟩ = some (.int .i64 x365002_2) ∧ w'.cell? ⟨gb364, 3, none⟩ = some (.int .i64 x365003_2) ∧ w'.cell? ⟨gb364, 4, none⟩ = some (.int .i64 x365004_2) ∧ w'.cell? ⟨gb364, 5, none⟩ = some (.int .i64 x365005_2) ∧ w'.cell? ⟨gb364, 6, none⟩ = some (.int .u16 x365006_2) ∧ w'.cell? (ad363.add (x6_2).toNat) = some (.int .i64 (rd l0 x6_2))) (ds := []) #[false, false, false, false, false, false, false, false, false, false, false, false, false, false, false] (by kernel_rfl) rfl rfl ⟨(blk_cell BK364.out 0).trans rfl, (blk_cell BK364.out 1).trans rfl, (blk_cell BK364.out 2).trans rfl, (blk_cell BK364.out 3).trans rfl, (blk_cell BK364.out 4).trans rfl, (blk_cell BK364.out 5).trans rfl, (blk_cell BK364.out 6).trans rfl, ((HB.out.cell (World.block_lt_of_cell? w _ hw369_0)).trans hw369_0)⟩ (fun hHeld => ?_); refine with_tabW octroilaw15_RedistPaths.tab11 octroilaw15_RedistPaths.bits11 (fun HT_ HW_ => ?_)
               generalize wc.drew = w42 at BK364 HB hx369_0 hHeld ⊢
               refine pure_ (i := 0) (N := some 65) (v := ?_) (a' := ?_) #[true, false, false, false, false, false, false, false, false, false, false, false, false, false, false] rfl rfl (any_of HT_.out (by kernel_rfl)) (fun _ _ _ h => h) (Or.inl ⟨by rfl, ?_⟩) ?_ ?_
               rotate_left
               ·
                intro w'
                go_simp
                with_reducible rfl
               rotate_left
               ·
                simp only [Act.put, List.setIfInBounds_toArray, List.set_cons_zero, List.set_cons_succ, i64_w, i32_w]
                rfl
               refine pure_ (i := 2) (N := some 67) (v := ?_) (a' := ?_) #[true, false, true, false, false, false, false, false, false, false, false, false, false, false, false] rfl rfl (any_of HT_.out (by kernel_rfl)) (fun _ _ _ h => h) (Or.inl ⟨by rfl, ?_⟩) ?_ ?_
               rotate_left
               ·
                intro w'
                go_simp
                with_reducible rfl
               rotate_left
               ·
                simp only [Act.put, List.setIfInBounds_toArray, List.set_cons_zero, List.set_cons_succ, i64_w, i32_w]
                rfl
               refine pure_ (i := 3) (N := some 68) (v := ?_) (a' := ?_) #[true, false, true, true, false, false, false, false, false, false, false, false, false, false, false] rfl rfl (any_of HT_.out (by kernel_rfl)) (fun _ _ _ h => h) (Or.inl ⟨by rfl, ?_⟩) ?_ ?_
               rotate_left
               ·
                intro w'
                go_simp
                with_reducible rfl
               rotate_left
               ·
                simp only [Act.put, List.setIfInBounds_toArray, List.set_cons_zero, List.set_cons_succ, i64_w, i32_w]
                rfl
               refine pure_ (i := 4) (N := some 69) (v := ?_) (a' := ?_) #[true, false, true, true, true, false, false, false, false, false, false, false, false, false, false] rfl rfl (any_of HT_.out (by kernel_rfl)) (fun _ _ _ h => h) (Or.inl ⟨by rfl, ?_⟩) ?_ ?_
               rotate_left
               ·
                intro w'
                go_simp
                with_reducible rfl
               rotate_left
               ·
                simp only [Act.put, List.setIfInBounds_toArray, List.set_cons_zero, List.set_cons_succ, i64_w, i32_w]
                rfl
               refine take_ (i := 1) (N := some 66) (v := ?_) (a' := ?_) #[true, true, true, true, true, false, false, false, false, false, false, false, false, false, false] rfl rfl (take_ofW HT_.out HW_.out (by kernel_rfl)) (fun _ _ _ h => h) (Or.inl ⟨by rfl, ?_⟩) hHeld ?_ ?_
               rotate_left
               ·
                rintro w' ⟨s0, s1, s2, s3, s4, s5, s6, s7⟩
                go_simp
                with_reducible rfl
               rotate_left
               ·
                simp only [Act.put, List.setIfInBounds_toArray, List.set_cons_zero, List.set_cons_succ, i64_w, i32_w]
                rfl
               refine take_ (i := 5) (N := some 70) (v := ?_) (a' := ?_) #[true, true, true, true, true, true, false, false, false, false, false, false, false, false, false] rfl rfl (take_ofW HT_.out HW_.out (by kernel_rfl)) (fun _ _ _ h => h) (Or.inl ⟨by rfl, ?_⟩) hHeld ?_ ?_
               rotate_left
               ·
                rintro w' ⟨s0, s1, s2, s3, s4, s5, s6, s7⟩
                go_simp
                with_reducible rfl
               rotate_left
               ·
                simp only [Act.put, List.setIfInBounds_toArray, List.set_cons_zero, List.set_cons_succ, i64_w, i32_w]
                rfl
               refine take_ (i := 7) (N := some 72) (v := ?_) (a' := ?_) #[true, true, true, true, true, true, false, true, false, false, false, false, false, false, false] rfl rfl (take_ofW HT_.out HW_.out (by kernel_rfl)) (fun _ _ _ h => h) (Or.inl ⟨by rfl, ?_⟩) hHeld ?_ ?_
               rotate_left
               ·
                rintro w' ⟨s0, s1, s2, s3, s4, s5, s6, s7⟩
                go_simp
                with_reducible rfl
               rotate_left
               ·
                simp only [Act.put, List.setIfInBounds_toArray, List.set_cons_zero, List.set_cons_succ, i64_w, i32_w]
                rfl
               refine join_ (σ := Value × Value × Nat) 2 #[true, true, true, true, true, true, true, true, true, true, true, true, true, false, false] (fun s_ => [(71, .agg #[.int .i64 t370, .int .i64 t371, s_.1, s_.2.1, .int .i64 t378]), (73, .tuple #[.agg #[.int .u32 t379, .int .i64 t380, .int .i64 t381, .int .i64 t382, .int .i64 t383, .int .i64 t384, .int .u16 t385], .int .i64 t386]), (7, .pointer (some ⟨s_.2.2, 0, none⟩)), (64, .tuple #[.agg #[.int .u32 t379, .int .i64 t380, .int .i64 t381, .int .i64 t382, .int .i64 t383, .int .i64 t384, .int .u16 t385], .int .i64 t386]), (74, .agg #[.int .u32 t379, .int .i64 t380, .int .i64 t381, .int .i64 t382, .int .i64 t383, .int .i64 t384, .int .u16 t385]), (75, .int .i64 t386)]) (fun s_ w' => (w'.cell? ⟨gb364, 0, none⟩ = some (.int .u32 x365000_2) ∧ w'.cell? ⟨gb364, 1, none⟩ = some (.int .i64 x365001_2) ∧ w'.cell? ⟨gb364, 2, none⟩ = some (.int .i64 x365002_2) ∧ w'.cell? ⟨gb364, 3, none⟩ = some (.int .i64 x365003_2) ∧ w'.cell? ⟨gb364, 4, none⟩ = some (.int .i64 x365004_2) ∧ w'.cell? ⟨gb364, 5, none⟩ = some (.int .i64 x365005_2) ∧ w'.cell? ⟨gb364, 6, none⟩ = some (.int .u16 x365006_2) ∧ w'.cell? (ad363.add (x6_2).toNat) = some (.int .i64 (rd l0 x6_2))) ∧ (Kd.R k61 61 w' w.heap.size (fun _ => True) s_.1 t372) ∧ (Kd.R k64 64 w' w.heap.size (fun _ => True) s_.2.1 t375) ∧ (w'.heap[gb364]? = some (.cells #[.int .u32 x365000_2, .int .i64 x365001_2, .int .i64 x365002_2, .int .i64 x365003_2, .int .i64 x365004_2, .int .i64 x365005_2, .int .u16 x365006_2] 31 (0, 0))) ∧ (w'.heap[s_.2.2]? = some (.cells #[.int .u32 0, .int .i64 0, .int .i64 0, .int .i64 0, .int .i64 0, .int .i64 0, .int .u16 0] 31 (0, 0))) ∧ (w.heap.size ≤ s_.2.2) ∧ (w.heap.size ≤ s_.2.2) ∧ (gb364 ≠ s_.2.2) ∧ (s_.2.2 ≠ gb364) ∧ (Below w.heap.size w w')) ?_ ?_
               rotate_left
               ·
                intro hCont
                refine two_ (i := 6) (j := 12) (Ni := some 71) (Nj := some 7) #[true, true, true, true, true, true, true, true, false, false, false, false, false, false, false] #[true, true, true, true, true, true, false, true, false, false, false, false, true, false, false] rfl rfl rfl rfl (two_of HT_.out (by kernel_rfl)) (by decide) (by decide) (fun K hK => ?_) (fun K hK => ?_)
                ·
                 skip
                 refine goes_ Try.func14 (by kernel_rfl) rfl #[.int .i64 x365002_2, .int .i64 (rd l0 x6_2)] (by rfl) rfl rfl (by (try simp only [List.map_toArray, List.map_cons, List.map_nil]); first | done | rfl | (simp only [List.length_drop, List.length_take]; rfl)) ?_
                 with_reducible refine (octroilaw15_all.calls x365002_2 (rd l0 x6_2) t370 t371 t372 t375 t378 _ A22.out).mono ?_
                 rintro e w43 ⟨v373, v376, rfl, ho0, ho1, hb⟩
                 refine ⟨_, rfl, ?_⟩
                 have n0_ := Aside0.mk (Kd.R_lower ho0 (below_size (by repeat (first | (with_reducible first | exact HB.out | apply below_alloc | apply pw_below_drewN | apply below_drew1 | refine below_set ?_ GE364.out) | exact HB.out))))
                 have n1_ := Aside0.mk (Kd.R_lower ho1 (below_size (by repeat (first | (with_reducible first | exact HB.out | apply below_alloc | apply pw_below_drewN | apply below_drew1 | refine below_set ?_ GE364.out) | exact HB.out))))
                 have n2_ := Aside0.mk (blk_below (g := gb364) (o := .cells #[.int .u32 x365000_2, .int .i64 x365001_2, .int .i64 x365002_2, .int .i64 x365003_2, .int .i64 x365004_2, .int .i64 x365005_2, .int .u16 x365006_2] 31 (0, 0)) (by (with_reducible repeat (first | refine blk_drewN ?_ _ | refine blk_drew ?_ | refine blk_alloc ?_ _)); exact BK364.out) hb)
                 have n3_ := Aside0.mk (below_step (by repeat (first | (with_reducible first | exact HB.out | apply below_alloc | apply pw_below_drewN | apply below_drew1 | refine below_set ?_ GE364.out) | exact HB.out)) hb)
                 clear BK364
                 clear HB
                 have HO374 := n0_
                 have HO377 := n1_
                 have BK364 := n2_
                 have HB := n3_
                 clear n0_ n1_ n2_ n3_
                 (try clear hb)
                 (try clear hb2)
                 (try clear hk)
                 (try clear hi)
                 (try clear ho0)
                 (try clear ho1)
                 obtain ⟨Ao44, co44, eo44⟩ := Kd.R_slice HO374.out
                 (first | subst eo44 | (injection eo44 with f1_ f2_ f3_; have f4_ := f1_.symm; have f5_ := f3_.symm; clear f1_ f2_ f3_; subst f4_; subst f5_))
                 obtain ⟨Ao45, co45, eo45⟩ := Kd.R_slice HO377.out
                 (first | subst eo45 | (injection eo45 with f1_ f2_ f3_; have f4_ := f1_.symm; have f5_ := f3_.symm; clear f1_ f2_ f3_; subst f4_; subst f5_))
                 refine hK.out _ _ ⟨(blk_cell BK364.out 0).trans rfl, (blk_cell BK364.out 1).trans rfl, (blk_cell BK364.out 2).trans rfl, (blk_cell BK364.out 3).trans rfl, (blk_cell BK364.out 4).trans rfl, (blk_cell BK364.out 5).trans rfl, (blk_cell BK364.out 6).trans rfl, ((HB.out.cell (World.block_lt_of_cell? w _ hw369_0)).trans hw369_0)⟩ (fun hHeld => ?_)
                 clear hK K
                 refine norm_ (a' := ?_) ?_ ?_
                 rotate_left
                 ·
                  show Act.put _ (some 71) _ = _
                  simp only [Act.put, List.setIfInBounds_toArray, List.set_cons_zero, List.set_cons_succ, i64_w, i32_w]
                  rfl
                 refine two_ (i := 8) (j := 12) (Ni := some 73) (Nj := some 7) #[true, true, true, true, true, true, true, true, true, false, false, false, false, false, false] #[true, true, true, true, true, true, true, true, false, false, false, false, true, false, false] rfl rfl rfl rfl (two_of HT_.out (by kernel_rfl)) (by decide) (by decide) (fun K hK => ?_) (fun K hK => ?_)
                 ·
                  skip
                  refine goes_ Try.func10 (by kernel_rfl) rfl #[.agg #[.int .i64 t370, .int .i64 t371, .slice Ao44 t372.length co44, .slice Ao45 t375.length co45, .int .i64 t378], .agg #[.int .u32 x365000_2, .int .i64 x365001_2, .int .i64 x365002_2, .int .i64 x365003_2, .int .i64 x365004_2, .int .i64 x365005_2, .int .u16 x365006_2]] (by rfl) rfl rfl (by (try simp only [List.map_toArray, List.map_cons, List.map_nil]); first | done | rfl | (simp only [List.length_drop, List.length_take]; rfl)) ?_
                  with_reducible refine (redist_Pass.calls kj12 t370 t371 _ _ t372 _ _ t375 t378 x365000_2 x365001_2 x365002_2 x365003_2 x365004_2 x365005_2 x365006_2 t379 t380 t381 t382 t383 t384 t385 t386 _ ?side1 ?side2 ?side3 ?side4 A23.out).mono ?_
                  (case side1 => repeat (first | exact (Kd.R_reads' HO374.out).2.2 | (with_reducible refine Kd.C_alloc ?_ _) | (with_reducible refine Kd.C_drewN ?_ _) | (with_reducible refine Kd.C_drew ?_)))
                  (case side2 => exact (Kd.R_reads' HO374.out).2.1)
                  (case side3 => repeat (first | exact (Kd.R_reads' HO377.out).2.2 | (with_reducible refine Kd.C_alloc ?_ _) | (with_reducible refine Kd.C_drewN ?_ _) | (with_reducible refine Kd.C_drew ?_)))
                  (case side4 => exact (Kd.R_reads' HO377.out).2.1)
                  rintro e w46 ⟨rfl, hb⟩
                  refine ⟨_, rfl, ?_⟩
                  have n0_ := Aside0.mk (Kd.R_below (by (with_reducible repeat (first | apply Kd.R_alloc | apply Kd.R_drewN | apply Kd.R_drew)); exact HO374.out) hb)
                  have n1_ := Aside0.mk (Kd.R_below (by (with_reducible repeat (first | apply Kd.R_alloc | apply Kd.R_drewN | apply Kd.R_drew)); exact HO377.out) hb)
                  have n2_ := Aside0.mk (blk_below (g := gb364) (o := .cells #[.int .u32 x365000_2, .int .i64 x365001_2, .int .i64 x365002_2, .int .i64 x365003_2, .int .i64 x365004_2, .int .i64 x365005_2, .int .u16 x365006_2] 31 (0, 0)) (by (with_reducible repeat (first | refine blk_drewN ?_ _ | refine blk_drew ?_ | refine blk_alloc ?_ _)); exact BK364.out) hb)
                  have n3_ := Aside0.mk (below_step (by repeat (first | (with_reducible first | exact HB.out | apply below_alloc | apply pw_below_drewN | apply below_drew1 | refine below_set ?_ GE364.out) | exact HB.out)) hb)
                  clear HO374
                  clear HO377
                  clear BK364
                  clear HB
                  have HO374 := n0_
                  have HO377 := n1_
                  have BK364 := n2_
                  have HB := n3_
                  clear n0_ n1_ n2_ n3_
                  (try clear hb)
                  (try clear hb2)
                  (try clear hk)
                  (try clear hi)
                  refine hK.out _ _ ⟨(blk_cell BK364.out 0).trans rfl, (blk_cell BK364.out 1).trans rfl, (blk_cell BK364.out 2).trans rfl, (blk_cell BK364.out 3).trans rfl, (blk_cell BK364.out 4).trans rfl, (blk_cell BK364.out 5).trans rfl, (blk_cell BK364.out 6).trans rfl, ((HB.out.cell (World.block_lt_of_cell? w _ hw369_0)).trans hw369_0)⟩ (fun hHeld => ?_)
                  clear hK K
                  refine norm_ (a' := ?_) ?_ ?_
                  rotate_left
                  ·
                   show Act.put _ (some 73) _ = _
                   simp only [Act.put, List.setIfInBounds_toArray, List.set_cons_zero, List.set_cons_succ, i64_w, i32_w]
                   rfl
                  refine pure_ (i := 9) (N := some 64) (v := ?_) (a' := ?_) #[true, true, true, true, true, true, true, true, true, true, false, false, false, false, false] rfl rfl (any_of HT_.out (by kernel_rfl)) (fun _ _ _ h => h) (Or.inl ⟨by rfl, ?_⟩) ?_ ?_
                  rotate_left
                  ·
                   intro w'
                   go_simp
                   with_reducible rfl
                  rotate_left
                  ·
                   simp only [Act.put, List.setIfInBounds_toArray, List.set_cons_zero, List.set_cons_succ, i64_w, i32_w]
                   rfl
                  refine pure_ (i := 10) (N := some 74) (v := ?_) (a' := ?_) #[true, true, true, true, true, true, true, true, true, true, true, false, false, false, false] rfl rfl (any_of HT_.out (by kernel_rfl)) (fun _ _ _ h => h) (Or.inl ⟨by rfl, ?_⟩) ?_ ?_
                  rotate_left
                  ·
                   intro w'
                   go_simp
                   with_reducible rfl
                  rotate_left
                  ·
                   simp only [Act.put, List.setIfInBounds_toArray, List.set_cons_zero, List.set_cons_succ, i64_w, i32_w]
                   rfl
                  refine pure_ (i := 11) (N := some 75) (v := ?_) (a' := ?_) #[true, true, true, true, true, true, true, true, true, true, true, true, false, false, false] rfl rfl (any_of HT_.out (by kernel_rfl)) (fun _ _ _ h => h) (Or.inl ⟨by rfl, ?_⟩) ?_ ?_
                  rotate_left
                  ·
                   intro w'
                   go_simp
                   with_reducible rfl
                  rotate_left
                  ·
                   simp only [Act.put, List.setIfInBounds_toArray, List.set_cons_zero, List.set_cons_succ, i64_w, i32_w]
                   rfl
                  refine one_ (i := 12) (N := some 7) #[true, true, true, true, true, true, true, true, true, true, true, true, true, false, false] rfl rfl (one_of HT_.out (by kernel_rfl)) (by decide) (fun K hK => ?_)
                  refine box_step ?hg (N := 7) ?hd (cs := #[.int .u32 0, .int .i64 0, .int .i64 0, .int .i64 0, .int .i64 0, .int .i64 0, .int .u16 0]) (t := 31) ?hr ?_; (case hd => rfl); (case hg => rfl); (case hr => first | (go_simp; done) | (go_simp; rfl))
                  intro gb387 hg w47 hbox hb
                  have n0_ := Aside0.mk (Kd.R_below (by (with_reducible repeat (first | apply Kd.R_alloc | apply Kd.R_drewN | apply Kd.R_drew)); exact HO374.out) hb)
                  have n1_ := Aside0.mk (Kd.R_below (by (with_reducible repeat (first | apply Kd.R_alloc | apply Kd.R_drewN | apply Kd.R_drew)); exact HO377.out) hb)
                  have n2_ := Aside0.mk (blk_below (g := gb364) (o := .cells #[.int .u32 x365000_2, .int .i64 x365001_2, .int .i64 x365002_2, .int .i64 x365003_2, .int .i64 x365004_2, .int .i64 x365005_2, .int .u16 x365006_2] 31 (0, 0)) (by (with_reducible repeat (first | refine blk_drewN ?_ _ | refine blk_drew ?_ | refine blk_alloc ?_ _)); exact BK364.out) hb)
                  have n3_ := Aside0.mk (below_step (by repeat (first | (with_reducible first | exact HB.out | apply below_alloc | apply pw_below_drewN | apply below_drew1 | refine below_set ?_ GE364.out) | exact HB.out)) hb)
                  have n4_ := Aside0.mk (hbox)
                  have n5_ := Aside0.mk ((by rw [hg]; exact (below_size (by repeat (first | (with_reducible first | exact HB.out | apply below_alloc | apply pw_below_drewN | apply below_drew1 | refine below_set ?_ GE364.out) | exact HB.out))) : w.heap.size ≤ gb387))
                  have n6_ := Aside0.mk ((by rw [hg]; exact (below_size (by repeat (first | (with_reducible first | exact HB.out | apply below_alloc | apply pw_below_drewN | apply below_drew1 | refine below_set ?_ GE364.out) | exact HB.out))) : w.heap.size ≤ gb387))
                  have n7_ := Aside0.mk ((by rw [hg]; exact Nat.ne_of_lt (blk_lt (g := gb364) (o := .cells #[.int .u32 x365000_2, .int .i64 x365001_2, .int .i64 x365002_2, .int .i64 x365003_2, .int .i64 x365004_2, .int .i64 x365005_2, .int .u16 x365006_2] 31 (0, 0)) (by (with_reducible repeat (first | refine blk_drewN ?_ _ | refine blk_drew ?_ | refine blk_alloc ?_ _)); exact BK364.out)) : gb364 ≠ gb387))
                  have n8_ := Aside0.mk ((by rw [hg]; exact Nat.ne_of_gt (blk_lt (g := gb364) (o := .cells #[.int .u32 x365000_2, .int .i64 x365001_2, .int .i64 x365002_2, .int .i64 x365003_2, .int .i64 x365004_2, .int .i64 x365005_2, .int .u16 x365006_2] 31 (0, 0)) (by (with_reducible repeat (first | refine blk_drewN ?_ _ | refine blk_drew ?_ | refine blk_alloc ?_ _)); exact BK364.out)) : gb387 ≠ gb364))
                  clear HO374
                  clear HO377
                  clear BK364
                  clear HB
                  have HO374 := n0_
                  have HO377 := n1_
                  have BK364 := n2_
                  have HB := n3_
                  have BK387 := n4_
                  have GW387 := n5_
                  have GE387 := n6_
                  have NB364_387 := n7_
                  have NB387_364 := n8_
                  clear n0_ n1_ n2_ n3_ n4_ n5_ n6_ n7_ n8_
                  clear hb hbox hg
                  refine hK.out _ _ ⟨(blk_cell BK364.out 0).trans rfl, (blk_cell BK364.out 1).trans rfl, (blk_cell BK364.out 2).trans rfl, (blk_cell BK364.out 3).trans rfl, (blk_cell BK364.out 4).trans rfl, (blk_cell BK364.out 5).trans rfl, (blk_cell BK364.out 6).trans rfl, ((HB.out.cell (World.block_lt_of_cell? w _ hw369_0)).trans hw369_0)⟩ (fun hHeld => ?_)
                  clear hK K
                  refine norm_ (a' := ?_) ?_ ?_
                  rotate_left
                  ·
                   show Act.put _ (some 7) _ = _
                   simp only [Act.put, List.setIfInBounds_toArray, List.set_cons_zero, List.set_cons_succ, i64_w, i32_w]
                   rfl
                  exact norm_ (by simp only [putAll, Act.put, List.setIfInBounds_toArray, List.set_cons_zero, List.set_cons_succ]) (hCont (.slice Ao44 t372.length co44, .slice Ao45 t375.length co45, gb387) _ ⟨hHeld, (by (with_reducible repeat (first | apply Kd.R_alloc | apply Kd.R_drewN | apply Kd.R_drew)); exact HO374.out), (by (with_reducible repeat (first | apply Kd.R_alloc | apply Kd.R_drewN | apply Kd.R_drew)); exact HO377.out), (by (with_reducible repeat (first | refine blk_drewN ?_ _ | refine blk_drew ?_ | refine blk_alloc ?_ _)); exact BK364.out), (by (with_reducible repeat (first | refine blk_drewN ?_ _ | refine blk_drew ?_ | refine blk_alloc ?_ _)); exact BK387.out), GW387.out, GE387.out, NB364_387.out, NB387_364.out, (by repeat (first | (with_reducible first | exact HB.out | apply below_alloc | apply pw_below_drewN | apply below_drew1 | refine below_set ?_ GE364.out | refine below_set ?_ GE387.out) | exact HB.out))⟩)
                 ·
                  skip
                  refine box_step ?hg (N := 7) ?hd (cs := #[.int .u32 0, .int .i64 0, .int .i64 0, .int .i64 0, .int .i64 0, .int .i64 0, .int .u16 0]) (t := 31) ?hr ?_; (case hd => rfl); (case hg => rfl); (case hr => first | (go_simp; done) | (go_simp; rfl))
                  intro gb387 hg w44 hbox hb
                  have n0_ := Aside0.mk (Kd.R_below (by (with_reducible repeat (first | apply Kd.R_alloc | apply Kd.R_drewN | apply Kd.R_drew)); exact HO374.out) hb)
                  have n1_ := Aside0.mk (Kd.R_below (by (with_reducible repeat (first | apply Kd.R_alloc | apply Kd.R_drewN | apply Kd.R_drew)); exact HO377.out) hb)
                  have n2_ := Aside0.mk (blk_below (g := gb364) (o := .cells #[.int .u32 x365000_2, .int .i64 x365001_2, .int .i64 x365002_2, .int .i64 x365003_2, .int .i64 x365004_2, .int .i64 x365005_2, .int .u16 x365006_2] 31 (0, 0)) (by (with_reducible repeat (first | refine blk_drewN ?_ _ | refine blk_drew ?_ | refine blk_alloc ?_ _)); exact BK364.out) hb)
                  have n3_ := Aside0.mk (below_step (by repeat (first | (with_reducible first | exact HB.out | apply below_alloc | apply pw_below_drewN | apply below_drew1 | refine below_set ?_ GE364.out) | exact HB.out)) hb)
                  have n4_ := Aside0.mk (hbox)
                  have n5_ := Aside0.mk ((by rw [hg]; exact (below_size (by repeat (first | (with_reducible first | exact HB.out | apply below_alloc | apply pw_below_drewN | apply below_drew1 | refine below_set ?_ GE364.out) | exact HB.out))) : w.heap.size ≤ gb387))
                  have n6_ := Aside0.mk ((by rw [hg]; exact (below_size (by repeat (first | (with_reducible first | exact HB.out | apply below_alloc | apply pw_below_drewN | apply below_drew1 | refine below_set ?_ GE364.out) | exact HB.out))) : w.heap.size ≤ gb387))
                  have n7_ := Aside0.mk ((by rw [hg]; exact Nat.ne_of_lt (blk_lt (g := gb364) (o := .cells #[.int .u32 x365000_2, .int .i64 x365001_2, .int .i64 x365002_2, .int .i64 x365003_2, .int .i64 x365004_2, .int .i64 x365005_2, .int .u16 x365006_2] 31 (0, 0)) (by (with_reducible repeat (first | refine blk_drewN ?_ _ | refine blk_drew ?_ | refine blk_alloc ?_ _)); exact BK364.out)) : gb364 ≠ gb387))
                  have n8_ := Aside0.mk ((by rw [hg]; exact Nat.ne_of_gt (blk_lt (g := gb364) (o := .cells #[.int .u32 x365000_2, .int .i64 x365001_2, .int .i64 x365002_2, .int .i64 x365003_2, .int .i64 x365004_2, .int .i64 x365005_2, .int .u16 x365006_2] 31 (0, 0)) (by (with_reducible repeat (first | refine blk_drewN ?_ _ | refine blk_drew ?_ | refine blk_alloc ?_ _)); exact BK364.out)) : gb387 ≠ gb364))
                  clear HO374
                  clear HO377
                  clear BK364
                  clear HB
                  have HO374 := n0_
                  have HO377 := n1_
                  have BK364 := n2_
                  have HB := n3_
                  have BK387 := n4_
                  have GW387 := n5_
                  have GE387 := n6_
                  have NB364_387 := n7_
                  have NB387_364 := n8_
                  clear n0_ n1_ n2_ n3_ n4_ n5_ n6_ n7_ n8_
                  clear hb hbox hg
                  obtain ⟨Ao45, co45, eo45⟩ := Kd.R_slice HO374.out
                  (first | subst eo45 | (injection eo45 with f1_ f2_ f3_; have f4_ := f1_.symm; have f5_ := f3_.symm; clear f1_ f2_ f3_; subst f4_; subst f5_))
                  obtain ⟨Ao46, co46, eo46⟩ := Kd.R_slice HO377.out
                  (first | subst eo46 | (injection eo46 with f1_ f2_ f3_; have f4_ := f1_.symm; have f5_ := f3_.symm; clear f1_ f2_ f3_; subst f4_; subst f5_))
                  refine hK.out _ _ ⟨(blk_cell BK364.out 0).trans rfl, (blk_cell BK364.out 1).trans rfl, (blk_cell BK364.out 2).trans rfl, (blk_cell BK364.out 3).trans rfl, (blk_cell BK364.out 4).trans rfl, (blk_cell BK364.out 5).trans rfl, (blk_cell BK364.out 6).trans rfl, ((HB.out.cell (World.block_lt_of_cell? w _ hw369_0)).trans hw369_0)⟩ (fun hHeld => ?_)
                  clear hK K
                  refine norm_ (a' := ?_) ?_ ?_
                  rotate_left
                  ·
                   show Act.put _ (some 7) _ = _
                   simp only [Act.put, List.setIfInBounds_toArray, List.set_cons_zero, List.set_cons_succ, i64_w, i32_w]
                   rfl
                  refine one_ (i := 8) (N := some 73) #[true, true, true, true, true, true, true, true, true, false, false, false, true, false, false] rfl rfl (one_of HT_.out (by kernel_rfl)) (by decide) (fun K hK => ?_)
                  refine goes_ Try.func10 (by kernel_rfl) rfl #[.agg #[.int .i64 t370, .int .i64 t371, .slice Ao45 t372.length co45, .slice Ao46 t375.length co46, .int .i64 t378], .agg #[.int .u32 x365000_2, .int .i64 x365001_2, .int .i64 x365002_2, .int .i64 x365003_2, .int .i64 x365004_2, .int .i64 x365005_2, .int .u16 x365006_2]] (by rfl) rfl rfl (by (try simp only [List.map_toArray, List.map_cons, List.map_nil]); first | done | rfl | (simp only [List.length_drop, List.length_take]; rfl)) ?_
                  with_reducible refine (redist_Pass.calls kj12 t370 t371 _ _ t372 _ _ t375 t378 x365000_2 x365001_2 x365002_2 x365003_2 x365004_2 x365005_2 x365006_2 t379 t380 t381 t382 t383 t384 t385 t386 _ ?side1 ?side2 ?side3 ?side4 A23.out).mono ?_
                  (case side1 => repeat (first | exact (Kd.R_reads' HO374.out).2.2 | (with_reducible refine Kd.C_alloc ?_ _) | (with_reducible refine Kd.C_drewN ?_ _) | (with_reducible refine Kd.C_drew ?_)))
                  (case side2 => exact (Kd.R_reads' HO374.out).2.1)
                  (case side3 => repeat (first | exact (Kd.R_reads' HO377.out).2.2 | (with_reducible refine Kd.C_alloc ?_ _) | (with_reducible refine Kd.C_drewN ?_ _) | (with_reducible refine Kd.C_drew ?_)))
                  (case side4 => exact (Kd.R_reads' HO377.out).2.1)
                  rintro e w47 ⟨rfl, hb⟩
                  refine ⟨_, rfl, ?_⟩
                  have n0_ := Aside0.mk (Kd.R_below (by (with_reducible repeat (first | apply Kd.R_alloc | apply Kd.R_drewN | apply Kd.R_drew)); exact HO374.out) hb)
                  have n1_ := Aside0.mk (Kd.R_below (by (with_reducible repeat (first | apply Kd.R_alloc | apply Kd.R_drewN | apply Kd.R_drew)); exact HO377.out) hb)
                  have n2_ := Aside0.mk (blk_below (g := gb364) (o := .cells #[.int .u32 x365000_2, .int .i64 x365001_2, .int .i64 x365002_2, .int .i64 x365003_2, .int .i64 x365004_2, .int .i64 x365005_2, .int .u16 x365006_2] 31 (0, 0)) (by (with_reducible repeat (first | refine blk_drewN ?_ _ | refine blk_drew ?_ | refine blk_alloc ?_ _)); exact BK364.out) hb)
                  have n3_ := Aside0.mk (blk_below (g := gb387) (o := .cells #[.int .u32 0, .int .i64 0, .int .i64 0, .int .i64 0, .int .i64 0, .int .i64 0, .int .u16 0] 31 (0, 0)) (by (with_reducible repeat (first | refine blk_drewN ?_ _ | refine blk_drew ?_ | refine blk_alloc ?_ _)); exact BK387.out) hb)
                  have n4_ := Aside0.mk (below_step (by repeat (first | (with_reducible first | exact HB.out | apply below_alloc | apply pw_below_drewN | apply below_drew1 | refine below_set ?_ GE364.out | refine below_set ?_ GE387.out) | exact HB.out)) hb)
                  clear HO374
                  clear HO377
                  clear BK364
                  clear BK387
                  clear HB
                  have HO374 := n0_
                  have HO377 := n1_
                  have BK364 := n2_
                  have BK387 := n3_
                  have HB := n4_
                  clear n0_ n1_ n2_ n3_ n4_
                  (try clear hb)
                  (try clear hb2)
                  (try clear hk)
                  (try clear hi)
                  refine hK.out _ _ ⟨(blk_cell BK364.out 0).trans rfl, (blk_cell BK364.out 1).trans rfl, (blk_cell BK364.out 2).trans rfl, (blk_cell BK364.out 3).trans rfl, (blk_cell BK364.out 4).trans rfl, (blk_cell BK364.out 5).trans rfl, (blk_cell BK364.out 6).trans rfl, ((HB.out.cell (World.block_lt_of_cell? w _ hw369_0)).trans hw369_0)⟩ (fun hHeld => ?_)
                  clear hK K
                  refine norm_ (a' := ?_) ?_ ?_
                  rotate_left
                  ·
                   show Act.put _ (some 73) _ = _
                   simp only [Act.put, List.setIfInBounds_toArray, List.set_cons_zero, List.set_cons_succ, i64_w, i32_w]
                   rfl
                  refine pure_ (i := 9) (N := some 64) (v := ?_) (a' := ?_) #[true, true, true, true, true, true, true, true, true, true, false, false, true, false, false] rfl rfl (any_of HT_.out (by kernel_rfl)) (fun _ _ _ h => h) (Or.inl ⟨by rfl, ?_⟩) ?_ ?_
                  rotate_left
                  ·
                   intro w'
                   go_simp
                   with_reducible rfl
                  rotate_left
                  ·
                   simp only [Act.put, List.setIfInBounds_toArray, List.set_cons_zero, List.set_cons_succ, i64_w, i32_w]
                   rfl
                  refine pure_ (i := 10) (N := some 74) (v := ?_) (a' := ?_) #[true, true, true, true, true, true, true, true, true, true, true, false, true, false, false] rfl rfl (any_of HT_.out (by kernel_rfl)) (fun _ _ _ h => h) (Or.inl ⟨by rfl, ?_⟩) ?_ ?_
                  rotate_left
                  ·
                   intro w'
                   go_simp
                   with_reducible rfl
                  rotate_left
                  ·
                   simp only [Act.put, List.setIfInBounds_toArray, List.set_cons_zero, List.set_cons_succ, i64_w, i32_w]
                   rfl
                  refine pure_ (i := 11) (N := some 75) (v := ?_) (a' := ?_) #[true, true, true, true, true, true, true, true, true, true, true, true, true, false, false] rfl rfl (any_of HT_.out (by kernel_rfl)) (fun _ _ _ h => h) (Or.inl ⟨by rfl, ?_⟩) ?_ ?_
                  rotate_left
                  ·
                   intro w'
                   go_simp
                   with_reducible rfl
                  rotate_left
                  ·
                   simp only [Act.put, List.setIfInBounds_toArray, List.set_cons_zero, List.set_cons_succ, i64_w, i32_w]
                   rfl
                  exact norm_ (by simp only [putAll, Act.put, List.setIfInBounds_toArray, List.set_cons_zero, List.set_cons_succ]) (hCont (.slice Ao45 t372.length co45, .slice Ao46 t375.length co46, gb387) _ ⟨hHeld, (by (with_reducible repeat (first | apply Kd.R_alloc | apply Kd.R_drewN | apply Kd.R_drew)); exact HO374.out), (by (with_reducible repeat (first | apply Kd.R_alloc | apply Kd.R_drewN | apply Kd.R_drew)); exact HO377.out), (by (with_reducible repeat (first | refine blk_drewN ?_ _ | refine blk_drew ?_ | refine blk_alloc ?_ _)); exact BK364.out), (by (with_reducible repeat (first | refine blk_drewN ?_ _ | refine blk_drew ?_ | refine blk_alloc ?_ _)); exact BK387.out), GW387.out, GE387.out, NB364_387.out, NB387_364.out, (by repeat (first | (with_reducible first | exact HB.out | apply below_alloc | apply pw_below_drewN | apply below_drew1 | refine below_set ?_ GE364.out | refine below_set ?_ GE387.out) | exact HB.out))⟩)
                ·
                 skip
                 refine box_step ?hg (N := 7) ?hd (cs := #[.int .u32 0, .int .i64 0, .int .i64 0, .int .i64 0, .int .i64 0, .int .i64 0, .int .u16 0]) (t := 31) ?hr ?_; (case hd => rfl); (case hg => rfl); (case hr => first | (go_simp; done) | (go_simp; rfl))
                 intro gb387 hg w43 hbox hb
                 have n0_ := Aside0.mk (blk_below (g := gb364) (o := .cells #[.int .u32 x365000_2, .int .i64 x365001_2, .int .i64 x365002_2, .int .i64 x365003_2, .int .i64 x365004_2, .int .i64 x365005_2, .int .u16 x365006_2] 31 (0, 0)) (by (with_reducible repeat (first | refine blk_drewN ?_ _ | refine blk_drew ?_ | refine blk_alloc ?_ _)); exact BK364.out) hb)
                 have n1_ := Aside0.mk (below_step (by repeat (first | (with_reducible first | exact HB.out | apply below_alloc | apply pw_below_drewN | apply below_drew1 | refine below_set ?_ GE364.out) | exact HB.out)) hb)
                 have n2_ := Aside0.mk (hbox)
                 have n3_ := Aside0.mk ((by rw [hg]; exact (below_size (by repeat (first | (with_reducible first | exact HB.out | apply below_alloc | apply pw_below_drewN | apply below_drew1 | refine below_set ?_ GE364.out) | exact HB.out))) : w.heap.size ≤ gb387))
                 have n4_ := Aside0.mk ((by rw [hg]; exact (below_size (by repeat (first | (with_reducible first | exact HB.out | apply below_alloc | apply pw_below_drewN | apply below_drew1 | refine below_set ?_ GE364.out) | exact HB.out))) : w.heap.size ≤ gb387))
                 have n5_ := Aside0.mk ((by rw [hg]; exact Nat.ne_of_lt (blk_lt (g := gb364) (o := .cells #[.int .u32 x365000_2, .int .i64 x365001_2, .int .i64 x365002_2, .int .i64 x365003_2, .int .i64 x365004_2, .int .i64 x365005_2, .int .u16 x365006_2] 31 (0, 0)) (by (with_reducible repeat (first | refine blk_drewN ?_ _ | refine blk_drew ?_ | refine blk_alloc ?_ _)); exact BK364.out)) : gb364 ≠ gb387))
                 have n6_ := Aside0.mk ((by rw [hg]; exact Nat.ne_of_gt (blk_lt (g := gb364) (o := .cells #[.int .u32 x365000_2, .int .i64 x365001_2, .int .i64 x365002_2, .int .i64 x365003_2, .int .i64 x365004_2, .int .i64 x365005_2, .int .u16 x365006_2] 31 (0, 0)) (by (with_reducible repeat (first | refine blk_drewN ?_ _ | refine blk_drew ?_ | refine blk_alloc ?_ _)); exact BK364.out)) : gb387 ≠ gb364))
                 clear BK364
                 clear HB
                 have BK364 := n0_
                 have HB := n1_
                 have BK387 := n2_
                 have GW387 := n3_
                 have GE387 := n4_
                 have NB364_387 := n5_
                 have NB387_364 := n6_
                 clear n0_ n1_ n2_ n3_ n4_ n5_ n6_
                 clear hb hbox hg
                 refine hK.out _ _ ⟨(blk_cell BK364.out 0).trans rfl, (blk_cell BK364.out 1).trans rfl, (blk_cell BK364.out 2).trans rfl, (blk_cell BK364.out 3).trans rfl, (blk_cell BK364.out 4).trans rfl, (blk_cell BK364.out 5).trans rfl, (blk_cell BK364.out 6).trans rfl, ((HB.out.cell (World.block_lt_of_cell? w _ hw369_0)).trans hw369_0)⟩ (fun hHeld => ?_)
                 clear hK K
                 refine norm_ (a' := ?_) ?_ ?_
                 rotate_left
                 ·
                  show Act.put _ (some 7) _ = _
                  simp only [Act.put, List.setIfInBounds_toArray, List.set_cons_zero, List.set_cons_succ, i64_w, i32_w]
                  rfl
                 refine one_ (i := 6) (N := some 71) #[true, true, true, true, true, true, true, true, false, false, false, false, true, false, false] rfl rfl (one_of HT_.out (by kernel_rfl)) (by decide) (fun K hK => ?_)
                 refine goes_ Try.func14 (by kernel_rfl) rfl #[.int .i64 x365002_2, .int .i64 (rd l0 x6_2)] (by rfl) rfl rfl (by (try simp only [List.map_toArray, List.map_cons, List.map_nil]); first | done | rfl | (simp only [List.length_drop, List.length_take]; rfl)) ?_
                 with_reducible refine (octroilaw15_all.calls x365002_2 (rd l0 x6_2) t370 t371 t372 t375 t378 _ A22.out).mono ?_
                 rintro e w44 ⟨v373, v376, rfl, ho0, ho1, hb⟩
                 refine ⟨_, rfl, ?_⟩
                 have n0_ := Aside0.mk (Kd.R_lower ho0 (below_size (by repeat (first | (with_reducible first | exact HB.out | apply below_alloc | apply pw_below_drewN | apply below_drew1 | refine below_set ?_ GE364.out | refine below_set ?_ GE387.out) | exact HB.out))))
                 have n1_ := Aside0.mk (Kd.R_lower ho1 (below_size (by repeat (first | (with_reducible first | exact HB.out | apply below_alloc | apply pw_below_drewN | apply below_drew1 | refine below_set ?_ GE364.out | refine below_set ?_ GE387.out) | exact HB.out))))
                 have n2_ := Aside0.mk (blk_below (g := gb364) (o := .cells #[.int .u32 x365000_2, .int .i64 x365001_2, .int .i64 x365002_2, .int .i64 x365003_2, .int .i64 x365004_2, .int .i64 x365005_2, .int .u16 x365006_2] 31 (0, 0)) (by (with_reducible repeat (first | refine blk_drewN ?_ _ | refine blk_drew ?_ | refine blk_alloc ?_ _)); exact BK364.out) hb)
                 have n3_ := Aside0.mk (blk_below (g := gb387) (o := .cells #[.int .u32 0, .int .i64 0, .int .i64 0, .int .i64 0, .int .i64 0, .int .i64 0, .int .u16 0] 31 (0, 0)) (by (with_reducible repeat (first | refine blk_drewN ?_ _ | refine blk_drew ?_ | refine blk_alloc ?_ _)); exact BK387.out) hb)
                 have n4_ := Aside0.mk (below_step (by repeat (first | (with_reducible first | exact HB.out | apply below_alloc | apply pw_below_drewN | apply below_drew1 | refine below_set ?_ GE364.out | refine below_set ?_ GE387.out) | exact HB.out)) hb)
                 clear BK364
                 clear BK387
                 clear HB
                 have HO374 := n0_
                 have HO377 := n1_
                 have BK364 := n2_
                 have BK387 := n3_
                 have HB := n4_
                 clear n0_ n1_ n2_ n3_ n4_
                 (try clear hb)
                 (try clear hb2)
                 (try clear hk)
                 (try clear hi)
                 (try clear ho0)
                 (try clear ho1)
                 obtain ⟨Ao45, co45, eo45⟩ := Kd.R_slice HO374.out
                 (first | subst eo45 | (injection eo45 with f1_ f2_ f3_; have f4_ := f1_.symm; have f5_ := f3_.symm; clear f1_ f2_ f3_; subst f4_; subst f5_))
                 obtain ⟨Ao46, co46, eo46⟩ := Kd.R_slice HO377.out
                 (first | subst eo46 | (injection eo46 with f1_ f2_ f3_; have f4_ := f1_.symm; have f5_ := f3_.symm; clear f1_ f2_ f3_; subst f4_; subst f5_))
                 refine hK.out _ _ ⟨(blk_cell BK364.out 0).trans rfl, (blk_cell BK364.out 1).trans rfl, (blk_cell BK364.out 2).trans rfl, (blk_cell BK364.out 3).trans rfl, (blk_cell BK364.out 4).trans rfl, (blk_cell BK364.out 5).trans rfl, (blk_cell BK364.out 6).trans rfl, ((HB.out.cell (World.block_lt_of_cell? w _ hw369_0)).trans hw369_0)⟩ (fun hHeld => ?_)
                 clear hK K
                 refine norm_ (a' := ?_) ?_ ?_
                 rotate_left
                 ·
                  show Act.put _ (some 71) _ = _
                  simp only [Act.put, List.setIfInBounds_toArray, List.set_cons_zero, List.set_cons_succ, i64_w, i32_w]
                  rfl
                 refine one_ (i := 8) (N := some 73) #[true, true, true, true, true, true, true, true, true, false, false, false, true, false, false] rfl rfl (one_of HT_.out (by kernel_rfl)) (by decide) (fun K hK => ?_)
                 refine goes_ Try.func10 (by kernel_rfl) rfl #[.agg #[.int .i64 t370, .int .i64 t371, .slice Ao45 t372.length co45, .slice Ao46 t375.length co46, .int .i64 t378], .agg #[.int .u32 x365000_2, .int .i64 x365001_2, .int .i64 x365002_2, .int .i64 x365003_2, .int .i64 x365004_2, .int .i64 x365005_2, .int .u16 x365006_2]] (by rfl) rfl rfl (by (try simp only [List.map_toArray, List.map_cons, List.map_nil]); first | done | rfl | (simp only [List.length_drop, List.length_take]; rfl)) ?_
                 with_reducible refine (redist_Pass.calls kj12 t370 t371 _ _ t372 _ _ t375 t378 x365000_2 x365001_2 x365002_2 x365003_2 x365004_2 x365005_2 x365006_2 t379 t380 t381 t382 t383 t384 t385 t386 _ ?side1 ?side2 ?side3 ?side4 A23.out).mono ?_
                 (case side1 => repeat (first | exact (Kd.R_reads' HO374.out).2.2 | (with_reducible refine Kd.C_alloc ?_ _) | (with_reducible refine Kd.C_drewN ?_ _) | (with_reducible refine Kd.C_drew ?_)))
                 (case side2 => exact (Kd.R_reads' HO374.out).2.1)
                 (case side3 => repeat (first | exact (Kd.R_reads' HO377.out).2.2 | (with_reducible refine Kd.C_alloc ?_ _) | (with_reducible refine Kd.C_drewN ?_ _) | (with_reducible refine Kd.C_drew ?_)))
                 (case side4 => exact (Kd.R_reads' HO377.out).2.1)
                 rintro e w47 ⟨rfl, hb⟩
                 refine ⟨_, rfl, ?_⟩
                 have n0_ := Aside0.mk (Kd.R_below (by (with_reducible repeat (first | apply Kd.R_alloc | apply Kd.R_drewN | apply Kd.R_drew)); exact HO374.out) hb)
                 have n1_ := Aside0.mk (Kd.R_below (by (with_reducible repeat (first | apply Kd.R_alloc | apply Kd.R_drewN | apply Kd.R_drew)); exact HO377.out) hb)
                 have n2_ := Aside0.mk (blk_below (g := gb364) (o := .cells #[.int .u32 x365000_2, .int .i64 x365001_2, .int .i64 x365002_2, .int .i64 x365003_2, .int .i64 x365004_2, .int .i64 x365005_2, .int .u16 x365006_2] 31 (0, 0)) (by (with_reducible repeat (first | refine blk_drewN ?_ _ | refine blk_drew ?_ | refine blk_alloc ?_ _)); exact BK364.out) hb)
                 have n3_ := Aside0.mk (blk_below (g := gb387) (o := .cells #[.int .u32 0, .int .i64 0, .int .i64 0, .int .i64 0, .int .i64 0, .int .i64 0, .int .u16 0] 31 (0, 0)) (by (with_reducible repeat (first | refine blk_drewN ?_ _ | refine blk_drew ?_ | refine blk_alloc ?_ _)); exact BK387.out) hb)
                 have n4_ := Aside0.mk (below_step (by repeat (first | (with_reducible first | exact HB.out | apply below_alloc | apply pw_below_drewN | apply below_drew1 | refine below_set ?_ GE364.out | refine below_set ?_ GE387.out) | exact HB.out)) hb)
                 clear HO374
                 clear HO377
                 clear BK364
                 clear BK387
                 clear HB
                 have HO374 := n0_
                 have HO377 := n1_
                 have BK364 := n2_
                 have BK387 := n3_
                 have HB := n4_
                 clear n0_ n1_ n2_ n3_ n4_
                 (try clear hb)
                 (try clear hb2)
                 (try clear hk)
                 (try clear hi)
                 refine hK.out _ _ ⟨(blk_cell BK364.out 0).trans rfl, (blk_cell BK364.out 1).trans rfl, (blk_cell BK364.out 2).trans rfl, (blk_cell BK364.out 3).trans rfl, (blk_cell BK364.out 4).trans rfl, (blk_cell BK364.out 5).trans rfl, (blk_cell BK364.out 6).trans rfl, ((HB.out.cell (World.block_lt_of_cell? w _ hw369_0)).trans hw369_0)⟩ (fun hHeld => ?_)
                 clear hK K
                 refine norm_ (a' := ?_) ?_ ?_
                 rotate_left
                 ·
                  show Act.put _ (some 73) _ = _
                  simp only [Act.put, List.setIfInBounds_toArray, List.set_cons_zero, List.set_cons_succ, i64_w, i32_w]
                  rfl
                 refine pure_ (i := 9) (N := some 64) (v := ?_) (a' := ?_) #[true, true, true, true, true, true, true, true, true, true, false, false, true, false, false] rfl rfl (any_of HT_.out (by kernel_rfl)) (fun _ _ _ h => h) (Or.inl ⟨by rfl, ?_⟩) ?_ ?_
                 rotate_left
                 ·
                  intro w'
                  go_simp
                  with_reducible rfl
                 rotate_left
                 ·
                  simp only [Act.put, List.setIfInBounds_toArray, List.set_cons_zero, List.set_cons_succ, i64_w, i32_w]
                  rfl
                 refine pure_ (i := 10) (N := some 74) (v := ?_) (a' := ?_) #[true, true, true, true, true, true, true, true, true, true, true, false, true, false, false] rfl rfl (any_of HT_.out (by kernel_rfl)) (fun _ _ _ h => h) (Or.inl ⟨by rfl, ?_⟩) ?_ ?_
                 rotate_left
                 ·
                  intro w'
                  go_simp
                  with_reducible rfl
                 rotate_left
                 ·
                  simp only [Act.put, List.setIfInBounds_toArray, List.set_cons_zero, List.set_cons_succ, i64_w, i32_w]
                  rfl
                 refine pure_ (i := 11) (N := some 75) (v := ?_) (a' := ?_) #[true, true, true, true, true, true, true, true, true, true, true, true, true, false, false] rfl rfl (any_of HT_.out (by kernel_rfl)) (fun _ _ _ h => h) (Or.inl ⟨by rfl, ?_⟩) ?_ ?_
                 rotate_left
                 ·
                  intro w'
                  go_simp
                  with_reducible rfl
                 rotate_left
                 ·
                  simp only [Act.put, List.setIfInBounds_toArray, List.set_cons_zero, List.set_cons_succ, i64_w, i32_w]
                  rfl
                 exact norm_ (by simp only [putAll, Act.put, List.setIfInBounds_toArray, List.set_cons_zero, List.set_cons_succ]) (hCont (.slice Ao45 t372.length co45, .slice Ao46 t375.length co46, gb387) _ ⟨hHeld, (by (with_reducible repeat (first | apply Kd.R_alloc | apply Kd.R_drewN | apply Kd.R_drew)); exact HO374.out), (by (with_reducible repeat (first | apply Kd.R_alloc | apply Kd.R_drewN | apply Kd.R_drew)); exact HO377.out), (by (with_reducible repeat (first | refine blk_drewN ?_ _ | refine blk_drew ?_ | refine blk_alloc ?_ _)); exact BK364.out), (by (with_reducible repeat (first | refine blk_drewN ?_ _ | refine blk_drew ?_ | refine blk_alloc ?_ _)); exact BK387.out), GW387.out, GE387.out, NB364_387.out, NB387_364.out, (by repeat (first | (with_reducible first | exact HB.out | apply below_alloc | apply pw_below_drewN | apply below_drew1 | refine below_set ?_ GE364.out | refine below_set ?_ GE387.out) | exact HB.out))⟩)
               rintro ⟨v373, v376, gb387⟩ w48 ⟨hS_, h0_, h1_, h2_, h3_, h4_, h5_, h6_, h7_, h8_⟩
               have n0_ : Aside0 (Kd.R k61 61 w48 w.heap.size (fun _ => True) v373 t372) := ⟨h0_⟩
               have n1_ : Aside0 (Kd.R k64 64 w48 w.heap.size (fun _ => True) v376 t375) := ⟨h1_⟩
               have n2_ : Aside0 (w48.heap[gb364]? = some (.cells #[.int .u32 x365000_2, .int .i64 x365001_2, .int .i64 x365002_2, .int .i64 x365003_2, .int .i64 x365004_2, .int .i64 x365005_2, .int .u16 x365006_2] 31 (0, 0))) := ⟨h2_⟩
               have n3_ : Aside0 (w48.heap[gb387]? = some (.cells #[.int .u32 0, .int .i64 0, .int .i64 0, .int .i64 0, .int .i64 0, .int .i64 0, .int .u16 0] 31 (0, 0))) := ⟨h3_⟩
               have n4_ : Aside0 (w.heap.size ≤ gb387) := ⟨h4_⟩
               have n5_ : Aside0 (w.heap.size ≤ gb387) := ⟨h5_⟩
               have n6_ : Aside0 (gb364 ≠ gb387) := ⟨h6_⟩
               have n7_ : Aside0 (gb387 ≠ gb364) := ⟨h7_⟩
               have n8_ : Aside0 (Below w.heap.size w w48) := ⟨h8_⟩
               clear BK364
               clear HB
               clear h0_ h1_ h2_ h3_ h4_ h5_ h6_ h7_ h8_
               have HO374 := n0_
               have HO377 := n1_
               have BK364 := n2_
               have BK387 := n3_
               have GW387 := n4_
               have GE387 := n5_
               have NB364_387 := n6_
               have NB387_364 := n7_
               have HB := n8_
               clear n0_ n1_ n2_ n3_ n4_ n5_ n6_ n7_ n8_
               have hHeld : w48.cell? ⟨gb364, 0, none⟩ = some (.int .u32 x365000_2) ∧ w48.cell? ⟨gb364, 1, none⟩ = some (.int .i64 x365001_2) ∧ w48.cell? ⟨gb364, 2, none⟩ = some (.int .i64 x365002_2) ∧ w48.cell? ⟨gb364, 3, none⟩ = some (.int .i64 x365003_2) ∧ w48.cell? ⟨gb364, 4, none⟩ = some (.int .i64 x365004_2) ∧ w48.cell? ⟨gb364, 5, none⟩ = some (.int .i64 x365005_2) ∧ w48.cell? ⟨gb364, 6, none⟩ = some (.int .u16 x365006_2) ∧ w48.cell? (ad363.add (x6_2).toNat) = some (.int .i64 (rd l0 x6_2)) := hS_
               refine norm_ (a' := ?_) ?_ ?_
               rotate_left
               ·
                simp only [putAll, Act.put, List.setIfInBounds_toArray, List.set_cons_zero, List.set_cons_succ]
                rfl
               refine one_ (i := 13) (N := none) #[true, true, true, true, true, true, true, true, true, true, true, true, true, true, false] rfl rfl (one_of HT_.out (by kernel_rfl)) (by decide) (fun K hK => ?_)
               have hs49 : w48.cell? ⟨gb387, 0, none⟩ = some (.int .u32 0) := (blk_cell BK387.out 0).trans rfl
               have hfs49 := blk_frozen BK387.out 0
               have hns49_0 := NB364_387.out
               have hms49_0 := NB387_364.out
               have hs50 : w48.cell? ⟨gb387, 1, none⟩ = some (.int .i64 0) := (blk_cell BK387.out 1).trans rfl
               have hfs50 := blk_frozen BK387.out 1
               have hns50_0 := NB364_387.out
               have hms50_0 := NB387_364.out
               have hs51 : w48.cell? ⟨gb387, 2, none⟩ = some (.int .i64 0) := (blk_cell BK387.out 2).trans rfl
               have hfs51 := blk_frozen BK387.out 2
               have hns51_0 := NB364_387.out
               have hms51_0 := NB387_364.out
               have hs52 : w48.cell? ⟨gb387, 3, none⟩ = some (.int .i64 0) := (blk_cell BK387.out 3).trans rfl
               have hfs52 := blk_frozen BK387.out 3
               have hns52_0 := NB364_387.out
               have hms52_0 := NB387_364.out
               have hs53 : w48.cell? ⟨gb387, 4, none⟩ = some (.int .i64 0) := (blk_cell BK387.out 4).trans rfl
               have hfs53 := blk_frozen BK387.out 4
               have hns53_0 := NB364_387.out
               have hms53_0 := NB387_364.out
               have hs54 : w48.cell? ⟨gb387, 5, none⟩ = some (.int .i64 0) := (blk_cell BK387.out 5).trans rfl
               have hfs54 := blk_frozen BK387.out 5
               have hns54_0 := NB364_387.out
               have hms54_0 := NB387_364.out
               have hs55 : w48.cell? ⟨gb387, 6, none⟩ = some (.int .u16 0) := (blk_cell BK387.out 6).trans rfl
               have hfs55 := blk_frozen BK387.out 6
               have hns55_0 := NB364_387.out
               have hms55_0 := NB387_364.out
               refine skip_ (w1 := ?_) (by rfl) rfl ?_ ?_
               rotate_left
               ·
                go_simp
                rfl
               refine hK.out _ _ ⟨((cell_far (p := ⟨gb387, _, none⟩) NB364_387.out _).trans (((cell_far (p := ⟨gb387, _, none⟩) NB364_387.out _).trans (((cell_far (p := ⟨gb387, _, none⟩) NB364_387.out _).trans (((cell_far (p := ⟨gb387, _, none⟩) NB364_387.out _).trans (((cell_far (p := ⟨gb387, _, none⟩) NB364_387.out _).trans (((cell_far (p := ⟨gb387, _, none⟩) NB364_387.out _).trans (((cell_far (p := ⟨gb387, _, none⟩) NB364_387.out _).trans (hHeld.1)))))))))))))), ((cell_far (p := ⟨gb387, _, none⟩) NB364_387.out _).trans (((cell_far (p := ⟨gb387, _, none⟩) NB364_387.out _).trans (((cell_far (p := ⟨gb387, _, none⟩) NB364_387.out _).trans (((cell_far (p := ⟨gb387, _, none⟩) NB364_387.out _).trans (((cell_far (p := ⟨gb387, _, none⟩) NB364_387.out _).trans (((cell_far (p := ⟨gb387, _, none⟩) NB364_387.out _).trans (((cell_far (p := ⟨gb387, _, none⟩) NB364_387.out _).trans (hHeld.2.1)))))))))))))), ((cell_far (p := ⟨gb387, _, none⟩) NB364_387.out _).trans (((cell_far (p := ⟨gb387, _, none⟩) NB364_387.out _).trans (((cell_far (p := ⟨gb387, _, none⟩) NB364_387.out _).trans (((cell_far (p := ⟨gb387, _, none⟩) NB364_387.out _).trans (((cell_far (p := ⟨gb387, _, none⟩) NB364_387.out _).trans (((cell_far (p := ⟨gb387, _, none⟩) NB364_387.out _).trans (((cell_far (p := ⟨gb387, _, none⟩) NB364_387.out _).trans (hHeld.2.2.1)))))))))))))), ((cell_far (p := ⟨gb387, _, none⟩) NB364_387.out _).trans (((cell_far (p := ⟨gb387, _, none⟩) NB364_387.out _).trans (((cell_far (p := ⟨gb387, _, none⟩) NB364_387.out _).trans (((cell_far (p := ⟨gb387, _, none⟩) NB364_387.out _).trans (((cell_far (p := ⟨gb387, _, none⟩) NB364_387.out _).trans (((cell_far (p := ⟨gb387, _, none⟩) NB364_387.out _).trans (((cell_far (p := ⟨gb387, _, none⟩) NB364_387.out _).trans (hHeld.2.2.2.1)))))))))))))), ((cell_far (p := ⟨gb387, _, none⟩) NB364_387.out _).trans (((cell_far (p := ⟨gb387, _, none⟩) NB364_387.out _).trans (((cell_far (p := ⟨gb387, _, none⟩) NB364_387.out _).trans (((cell_far (p := ⟨gb387, _, none⟩) NB364_387.out _).trans (((cell_far (p := ⟨gb387, _, none⟩) NB364_387.out _).trans (((cell_far (p := ⟨gb387, _, none⟩) NB364_387.out _).trans (((cell_far (p := ⟨gb387, _, none⟩) NB364_387.out _).trans (hHeld.2.2.2.2.1)))))))))))))), ((cell_far (p := ⟨gb387, _, none⟩) NB364_387.out _).trans (((cell_far (p := ⟨gb387, _, none⟩) NB364_387.out _).trans (((cell_far (p := ⟨gb387, _, none⟩) NB364_387.out _).trans (((cell_far (p := ⟨gb387, _, none⟩) NB364_387.out _).trans (((cell_far (p := ⟨gb387, _, none⟩) NB364_387.out _).trans (((cell_far (p := ⟨gb387, _, none⟩) NB364_387.out _).trans (((cell_far (p := ⟨gb387, _, none⟩) NB364_387.out _).trans (hHeld.2.2.2.2.2.1)))))))))))))), ((cell_far (p := ⟨gb387, _, none⟩) NB364_387.out _).trans (((cell_far (p := ⟨gb387, _, none⟩) NB364_387.out _).trans (((cell_far (p := ⟨gb387, _, none⟩) NB364_387.out _).trans (((cell_far (p := ⟨gb387, _, none⟩) NB364_387.out _).trans (((cell_far (p := ⟨gb387, _, none⟩) NB364_387.out _).trans (((cell_far (p := ⟨gb387, _, none⟩) NB364_387.out _).trans (((cell_far (p := ⟨gb387, _, none⟩) NB364_387.out _).trans (hHeld.2.2.2.2.2.2.1)))))))))))))), ((cell_far (p := ⟨gb387, _, none⟩) (by first | exact Nat.ne_of_lt (Nat.lt_of_lt_of_le (by have := World.block_lt_of_cell? _ _ hw369_0; first | rwa [add_block] at this | exact this) GW387.out) | (rw [add_block]; exact Nat.ne_of_lt (Nat.lt_of_lt_of_le (by have := World.block_lt_of_cell? _ _ hw369_0; first | rwa [add_block] at this | exact this) GW387.out)) | (show (Addr.add _ _).block ≠ _; rw [add_block]; exact Nat.ne_of_lt (Nat.lt_of_lt_of_le (by have := World.block_lt_of_cell? _ _ hw369_0; first | rwa [add_block] at this | exact this) GW387.out)) | (dsimp only; exact Nat.ne_of_lt (Nat.lt_of_lt_of_le (by have := World.block_lt_of_cell? _ _ hw369_0; first | rwa [add_block] at this | exact this) GW387.out))) _).trans (((cell_far (p := ⟨gb387, _, none⟩) (by first | exact Nat.ne_of_lt (Nat.lt_of_lt_of_le (by have := World.block_lt_of_cell? _ _ hw369_0; first | rwa [add_block] at this | exact this) GW387.out) | (rw [add_block]; exact Nat.ne_of_lt (Nat.lt_of_lt_of_le (by have := World.block_lt_of_cell? _ _ hw369_0; first | rwa [add_block] at this | exact this) GW387.out)) | (show (Addr.add _ _).block ≠ _; rw [add_block]; exact Nat.ne_of_lt (Nat.lt_of_lt_of_le (by have := World.block_lt_of_cell? _ _ hw369_0; first | rwa [add_block] at this | exact this) GW387.out)) | (dsimp only; exact Nat.ne_of_lt (Nat.lt_of_lt_of_le (by have := World.block_lt_of_cell? _ _ hw369_0; first | rwa [add_block] at this | exact this) GW387.out))) _).trans (((cell_far (p := ⟨gb387, _, none⟩) (by first | exact Nat.ne_of_lt (Nat.lt_of_lt_of_le (by have := World.block_lt_of_cell? _ _ hw369_0; first | rwa [add_block] at this | exact this) GW387.out) | (rw [add_block]; exact Nat.ne_of_lt (Nat.lt_of_lt_of_le (by have := World.block_lt_of_cell? _ _ hw369_0; first | rwa [add_block] at this | exact this) GW387.out)) | (show (Addr.add _ _).block ≠ _; rw [add_block]; exact Nat.ne_of_lt (Nat.lt_of_lt_of_le (by have := World.block_lt_of_cell? _ _ hw369_0; first | rwa [add_block] at this | exact this) GW387.out)) | (dsimp only; exact Nat.ne_of_lt (Nat.lt_of_lt_of_le (by have := World.block_lt_of_cell? _ _ hw369_0; first | rwa [add_block] at this | exact this) GW387.out))) _).trans (((cell_far (p := ⟨gb387, _, none⟩) (by first | exact Nat.ne_of_lt (Nat.lt_of_lt_of_le (by have := World.block_lt_of_cell? _ _ hw369_0; first | rwa [add_block] at this | exact this) GW387.out) | (rw [add_block]; exact Nat.ne_of_lt (Nat.lt_of_lt_of_le (by have := World.block_lt_of_cell? _ _ hw369_0; first | rwa [add_block] at this | exact this) GW387.out)) | (show (Addr.add _ _).block ≠ _; rw [add_block]; exact Nat.ne_of_lt (Nat.lt_of_lt_of_le (by have := World.block_lt_of_cell? _ _ hw369_0; first | rwa [add_block] at this | exact this) GW387.out)) | (dsimp only; exact Nat.ne_of_lt (Nat.lt_of_lt_of_le (by have := World.block_lt_of_cell? _ _ hw369_0; first | rwa [add_block] at this | exact this) GW387.out))) _).trans (((cell_far (p := ⟨gb387, _, none⟩) (by first | exact Nat.ne_of_lt (Nat.lt_of_lt_of_le (by have := World.block_lt_of_cell? _ _ hw369_0; first | rwa [add_block] at this | exact this) GW387.out) | (rw [add_block]; exact Nat.ne_of_lt (Nat.lt_of_lt_of_le (by have := World.block_lt_of_cell? _ _ hw369_0; first | rwa [add_block] at this | exact this) GW387.out)) | (show (Addr.add _ _).block ≠ _; rw [add_block]; exact Nat.ne_of_lt (Nat.lt_of_lt_of_le (by have := World.block_lt_of_cell? _ _ hw369_0; first | rwa [add_block] at this | exact this) GW387.out)) | (dsimp only; exact Nat.ne_of_lt (Nat.lt_of_lt_of_le (by have := World.block_lt_of_cell? _ _ hw369_0; first | rwa [add_block] at this | exact this) GW387.out))) _).trans (((cell_far (p := ⟨gb387, _, none⟩) (by first | exact Nat.ne_of_lt (Nat.lt_of_lt_of_le (by have := World.block_lt_of_cell? _ _ hw369_0; first | rwa [add_block] at this | exact this) GW387.out) | (rw [add_block]; exact Nat.ne_of_lt (Nat.lt_of_lt_of_le (by have := World.block_lt_of_cell? _ _ hw369_0; first | rwa [add_block] at this | exact this) GW387.out)) | (show (Addr.add _ _).block ≠ _; rw [add_block]; exact Nat.ne_of_lt (Nat.lt_of_lt_of_le (by have := World.block_lt_of_cell? _ _ hw369_0; first | rwa [add_block] at this | exact this) GW387.out)) | (dsimp only; exact Nat.ne_of_lt (Nat.lt_of_lt_of_le (by have := World.block_lt_of_cell? _ _ hw369_0; first | rwa [add_block] at this | exact this) GW387.out))) _).trans (((cell_far (p := ⟨gb387, _, none⟩) (by first | exact Nat.ne_of_lt (Nat.lt_of_lt_of_le (by have := World.block_lt_of_cell? _ _ hw369_0; first | rwa [add_block] at this | exact this) GW387.out) | (rw [add_block]; exact Nat.ne_of_lt (Nat.lt_of_lt_of_le (by have := World.block_lt_of_cell? _ _ hw369_0; first | rwa [add_block] at this | exact this) GW387.out)) | (show (Addr.add _ _).block ≠ _; rw [add_block]; exact Nat.ne_of_lt (Nat.lt_of_lt_of_le (by have := World.block_lt_of_cell? _ _ hw369_0; first | rwa [add_block] at this | exact this) GW387.out)) | (dsimp only; exact Nat.ne_of_lt (Nat.lt_of_lt_of_le (by have := World.block_lt_of_cell? _ _ hw369_0; first | rwa [add_block] at this | exact this) GW387.out))) _).trans (hHeld.2.2.2.2.2.2.2))))))))))))))⟩ (fun hHeld => ?_)
               clear hK K
               refine pure_ (i := 14) (N := some 8) (v := ?_) (a' := ?_) #[true, true, true, true, true, true, true, true, true, true, true, true, true, true, true] rfl rfl (any_of HT_.out (by kernel_rfl)) (fun _ _ _ h => h) (Or.inl ⟨by rfl, ?_⟩) ?_ ?_
               rotate_left
               ·
                intro w'
                go_simp
                with_reducible rfl
               rotate_left
               ·
                simp only [Act.put, List.setIfInBounds_toArray, List.set_cons_zero, List.set_cons_succ, i64_w, i32_w]
                rfl
               refine done_ (done_of HT_.out (by kernel_rfl)) ?_
               try go_wp2
               go_meet
               case rel => exact ⟨_, (x5_2), (x365000_2), (x365001_2), (x365002_2), (x365003_2), (x365004_2), (x365005_2), (x365006_2), (by first | rfl | (simp; done) | (simp [*]; done)), H', ⟨by have := HJ2.out; have := HK2.out; have := HJ12.out; first | omega | exact Nat.le_refl _⟩, ⟨by (with_reducible repeat (first | refine blk_drewN ?_ _ | refine blk_drew ?_ | refine blk_alloc ?_ _)); refine blk_far ?_ NB364_387.out _; (with_reducible repeat (first | refine blk_drewN ?_ _ | refine blk_drew ?_ | refine blk_alloc ?_ _)); refine blk_far ?_ NB364_387.out _; (with_reducible repeat (first | refine blk_drewN ?_ _ | refine blk_drew ?_ | refine blk_alloc ?_ _)); refine blk_far ?_ NB364_387.out _; (with_reducible repeat (first | refine blk_drewN ?_ _ | refine blk_drew ?_ | refine blk_alloc ?_ _)); refine blk_far ?_ NB364_387.out _; (with_reducible repeat (first | refine blk_drewN ?_ _ | refine blk_drew ?_ | refine blk_alloc ?_ _)); refine blk_far ?_ NB364_387.out _; (with_reducible repeat (first | refine blk_drewN ?_ _ | refine blk_drew ?_ | refine blk_alloc ?_ _)); refine blk_far ?_ NB364_387.out _; (with_reducible repeat (first | refine blk_drewN ?_ _ | refine blk_drew ?_ | refine blk_alloc ?_ _)); refine blk_far ?_ NB364_387.out _; (with_reducible repeat (first | refine blk_drewN ?_ _ | refine blk_drew ?_ | refine blk_alloc ?_ _)); exact BK364.out⟩, ⟨by repeat (first | (with_reducible first | exact HB.out | apply below_alloc | apply pw_below_drewN | apply below_drew1 | refine below_set ?_ GE364.out | refine below_set ?_ GE387.out) | exact HB.out)⟩⟩
             ·
              rw [if_neg c21] at H
              exact absurd H (by simp)
            ·
             rw [if_neg c20] at H
             exact absurd H (by simp)
        ·
         rw [if_neg c12] at H
         have c12b0 : decide (x6_2 < (l0.length : Int)) = false := decide_eq_false c12
         clear c12
         (first | rw [c12b0] | (simp only [i64_w, i32_w]; rw [c12b0]) | skip)
         have H' := Aside0.mk H
         clear H
         go_wp2
         go_meet
         case rel => exact ⟨_, (x5_2), (x365000_2), (x365001_2), (x365002_2), (x365003_2), (x365004_2), (x365005_2), (x365006_2), (by first | rfl | (simp; done) | (simp [*]; done)), H', ⟨by have := HJ2.out; have := HK2.out; first | omega | exact Nat.le_refl _⟩, ⟨by (with_reducible repeat (first | refine blk_drewN ?_ _ | refine blk_drew ?_ | refine blk_alloc ?_ _)); exact BK364.out⟩, ⟨by repeat (first | (with_reducible first | exact HB.out | apply below_alloc | apply pw_below_drewN | apply below_drew1 | refine below_set ?_ GE364.out) | exact HB.out)⟩⟩
     case rest =>
      clear HC9
      try clear c1
      try clear c2
      try clear p2
      try clear c3
      try clear p3
      try clear q3
      try clear hx3
      try clear p6
      try clear c10
      try clear c12
      try clear c12b0
      try clear c14
      try clear c20
      try clear c21
      try clear c24
      try clear c24b0
      try clear c24b1
      try clear p36
      try clear q36
      try clear hx36
      try clear c39
      try clear hcz40_0
      try clear hcz40_1
      try clear hcz40_2
      try clear hcz40_3
      try clear hcz40_4
      try clear hcz40_5
      try clear hcz40_6
      try clear hcz41_0
      try clear hcz41_1
      try clear hcz41_2
      try clear hcz41_3
      try clear hcz41_4
      try clear hcz41_5
      try clear hcz41_6
      try clear hfz40_0
      try clear hfz40_1
      try clear hfz40_2
      try clear hfz40_3
      try clear hfz40_4
      try clear hfz40_5
      try clear hfz40_6
      try clear hfz41_0
      try clear hfz41_1
      try clear hfz41_2
      try clear hfz41_3
      try clear hfz41_4
      try clear hfz41_5
      try clear hfz41_6
      try clear hx369_0
      try clear p369
      try clear q369
      obtain ⟨kq, x5_8, x365000_8, x365001_8, x365002_8, x365003_8, x365004_8, x365005_8, x365006_8, rfl, HA, HJ8, BK364, HB⟩ := hcut
      cases kq with
      | zero => exact absurd HA.out (by simp [octroilaw15_RedistPaths.j3])
      | succ kj8 =>
       have H := HA.out
       clear HA
       simp only [octroilaw15_RedistPaths.j3] at H
       have H' := Aside0.mk H
       clear H
       go_wp2
       go_loopg [9, 10] kj8 (fun kq v9 v10 w' => ∃ (x9_3 : Bool) (x10_3 : Int), v9 = .bool x9_3 ∧ v10 = .int .i64 x10_3 ∧ Aside0 (octroilaw15_RedistPaths.l1 kq l0 x5_8 x9_3 x10_3 x365000_8 x365001_8 x365002_8 x365003_8 x365004_8 x365005_8 x365006_8 = some r) ∧ Aside0 (kq ≤ kj8) ∧ Aside0 (w'.heap[gb364]? = some (.cells #[.int .u32 x365000_8, .int .i64 x365001_8, .int .i64 x365002_8, .int .i64 x365003_8, .int .i64 x365004_8, .int .i64 x365005_8, .int .u16 x365006_8] 31 (0, 0))) ∧ Aside0 (Below w.heap.size w w'))
       case atStart => exact ⟨(false), (0), (by first | rfl | (simp; done) | (simp [*]; done)), (by first | rfl | (simp; done) | (simp [*]; done)), H', ⟨Nat.le_refl _⟩, ⟨by (with_reducible repeat (first | refine blk_drewN ?_ _ | refine blk_drew ?_ | refine blk_alloc ?_ _)); exact BK364.out⟩, ⟨by repeat (first | (with_reducible first | exact HB.out | apply below_alloc | apply pw_below_drewN | apply below_drew1 | refine below_set ?_ GE364.out) | exact HB.out)⟩⟩
       case round =>
        clear H'
        try clear c1
        try clear c2
        try clear p2
        try clear c3
        try clear p3
        try clear q3
        try clear hx3
        try clear p6
        try clear c10
        try clear c12
        try clear c12b0
        try clear c14
        try clear c20
        try clear c21
        try clear c24
        try clear c24b0
        try clear c24b1
        try clear p36
        try clear q36
        try clear hx36
        try clear c39
        try clear hcz40_0
        try clear hcz40_1
        try clear hcz40_2
        try clear hcz40_3
        try clear hcz40_4
        try clear hcz40_5
        try clear hcz40_6
        try clear hcz41_0
        try clear hcz41_1
        try clear hcz41_2
        try clear hcz41_3
        try clear hcz41_4
        try clear hcz41_5
        try clear hcz41_6
        try clear hfz40_0
        try clear hfz40_1
        try clear hfz40_2
        try clear hfz40_3
        try clear hfz40_4
        try clear hfz40_5
        try clear hfz40_6
        try clear hfz41_0
        try clear hfz41_1
        try clear hfz41_2
        try clear hfz41_3
        try clear hfz41_4
        try clear hfz41_5
        try clear hfz41_6
        try clear hx369_0
        try clear p2
        try clear p3
        try clear p36
        try clear p369
        try clear p6
        try clear q3
        try clear q36
        try clear q369
        obtain ⟨x9_3, x10_3, rfl, rfl, HA, HK3, BK364, HB⟩ := hrel
        cases gk with
        | zero => exact absurd HA.out (by simp [octroilaw15_RedistPaths.l1])
        | succ k3 =>
         have H := HA.out
         clear HA
         simp only [octroilaw15_RedistPaths.l1] at H
         by_cases c56 : x10_3 ≤ x5_8
         ·
          rw [if_pos c56] at H
          have c56b0 : decide (x10_3 ≤ x5_8) = true := decide_eq_true c56
          clear c56
          have H' := Aside0.mk H
          clear H
          go_wp2
          go_loopg [9, 11] k3 (fun kq v9 v11 w' => ∃ (x9_4 : Bool) (x11_4 : Int), v9 = .bool x9_4 ∧ v11 = .int .i64 x11_4 ∧ Aside0 (octroilaw15_RedistPaths.l2 kq l0 x5_8 x9_4 x10_3 x11_4 x365000_8 x365001_8 x365002_8 x365003_8 x365004_8 x365005_8 x365006_8 = some r) ∧ Aside0 (kq ≤ k3) ∧ Aside0 (w'.heap[gb364]? = some (.cells #[.int .u32 x365000_8, .int .i64 x365001_8, .int .i64 x365002_8, .int .i64 x365003_8, .int .i64 x365004_8, .int .i64 x365005_8, .int .u16 x365006_8] 31 (0, 0))) ∧ Aside0 (Below w.heap.size w w'))
          case atStart => exact ⟨(x9_3), (0), (by first | rfl | (simp; done) | (simp [*]; done)), (by first | rfl | (simp; done) | (simp [*]; done)), H', ⟨Nat.le_refl _⟩, ⟨by (with_reducible repeat (first | refine blk_drewN ?_ _ | refine blk_drew ?_ | refine blk_alloc ?_ _)); exact BK364.out⟩, ⟨by repeat (first | (with_reducible first | exact HB.out | apply below_alloc | apply pw_below_drewN | apply below_drew1 | refine below_set ?_ GE364.out) | exact HB.out)⟩⟩
          case round =>
           clear H'
           try clear c1
           try clear c2
           try clear p2
           try clear c3
           try clear p3
           try clear q3
           try clear hx3
           try clear c5
           try clear p6
           try clear c10
           try clear c12
           try clear c12b0
           try clear c14
           try clear c20
           try clear c21
           try clear c24
           try clear c24b0
           try clear c24b1
           try clear p36
           try clear q36
           try clear hx36
           try clear c39
           try clear c56
           try clear c56b0
           try clear hcz40_0
           try clear hcz40_1
           try clear hcz40_2
           try clear hcz40_3
           try clear hcz40_4
           try clear hcz40_5
           try clear hcz40_6
           try clear hcz41_0
           try clear hcz41_1
           try clear hcz41_2
           try clear hcz41_3
           try clear hcz41_4
           try clear hcz41_5
           try clear hcz41_6
           try clear hfz40_0
           try clear hfz40_1
           try clear hfz40_2
           try clear hfz40_3
           try clear hfz40_4
           try clear hfz40_5
           try clear hfz40_6
           try clear hfz41_0
           try clear hfz41_1
           try clear hfz41_2
           try clear hfz41_3
           try clear hfz41_4
           try clear hfz41_5
           try clear hfz41_6
           try clear hx369_0
           try clear p2
           try clear p3
           try clear p36
           try clear p369
           try clear p6
           try clear q3
           try clear q36
           try clear q369
           obtain ⟨x9_4, x11_4, rfl, rfl, HA, HK4, BK364, HB⟩ := hrel
           cases gk with
           | zero => exact absurd HA.out (by simp [octroilaw15_RedistPaths.l2])
           | succ k4 =>
            have H := HA.out
            clear HA
            simp only [octroilaw15_RedistPaths.l2] at H
            by_cases c57 : x11_4 < x10_3
            ·
             rw [if_pos c57] at H
             have c57b0 : decide (x11_4 < x10_3) = true := decide_eq_true c57
             clear c57
             by_cases c58 : x9_4 = true
             ·
              subst c58
              have H1 : (octroilaw15_RedistPaths.l2 k4 l0 x5_8 true x10_3 (wrap64 (x11_4 + 1)) x365000_8 x365001_8 x365002_8 x365003_8 x365004_8 x365005_8 x365006_8) = some r := by rw [if_pos rfl] at H; exact H
              clear H
              have H := H1
              clear H1
              have H' := Aside0.mk H
              clear H
              try go_wp2
              have n0_ := Aside0.mk (blk_drew BK364.out)
              have n1_ := Aside0.mk (below_drew1 HB.out)
              clear BK364
              clear HB
              have BK364 := n0_
              have HB := n1_
              clear n0_ n1_
              refine start_ (n := 13) (S := fun w' => True) (ds := []) #[false, false, false, false, false, false, false, false, false, false, false, false, false] (by kernel_rfl) rfl rfl trivial (fun hHeld => ?_); refine with_tabW octroilaw15_RedistPaths.tab22 octroilaw15_RedistPaths.bits22 (fun HT_ HW_ => ?_)
              generalize wr.drew = w59 at BK364 HB hHeld ⊢
              refine pure_ (i := 0) (N := some 90) (v := ?_) (a' := ?_) #[true, false, false, false, false, false, false, false, false, false, false, false, false] rfl rfl (any_of HT_.out (by kernel_rfl)) (fun _ _ _ h => h) (Or.inl ⟨by rfl, ?_⟩) ?_ ?_
              rotate_left
              ·
               intro w'
               go_simp
               with_reducible rfl
              rotate_left
              ·
               simp only [Act.put, List.setIfInBounds_toArray, List.set_cons_zero, List.set_cons_succ, i64_w, i32_w]
               rfl
              refine pure_ (i := 1) (N := some 91) (v := ?_) (a' := ?_) #[true, true, false, false, false, false, false, false, false, false, false, false, false] rfl rfl (any_of HT_.out (by kernel_rfl)) (fun _ _ _ h => h) (Or.inl ⟨by rfl, ?_⟩) ?_ ?_
              rotate_left
              ·
               intro w'
               go_simp
               with_reducible rfl
              rotate_left
              ·
               simp only [Act.put, List.setIfInBounds_toArray, List.set_cons_zero, List.set_cons_succ, i64_w, i32_w]
               rfl
              refine pure_ (i := 2) (N := some 92) (v := undef) (a' := ?_) #[true, true, true, false, false, false, false, false, false, false, false, false, false] rfl rfl (any_of HT_.out (by kernel_rfl)) (fun _ _ _ h => h) (Or.inr ⟨by rfl, rfl⟩) ?_ ?_
              rotate_left
              ·
               simp only [Act.put, List.setIfInBounds_toArray, List.set_cons_zero, List.set_cons_succ, i64_w, i32_w]
               rfl
              refine pure_ (i := 3) (N := some 93) (v := undef) (a' := ?_) #[true, true, true, true, false, false, false, false, false, false, false, false, false] rfl rfl (any_of HT_.out (by kernel_rfl)) (fun _ _ _ h => h) (Or.inr ⟨by rfl, rfl⟩) ?_ ?_
              rotate_left
              ·
               simp only [Act.put, List.setIfInBounds_toArray, List.set_cons_zero, List.set_cons_succ, i64_w, i32_w]
               rfl
              refine pure_ (i := 4) (N := some 94) (v := undef) (a' := ?_) #[true, true, true, true, true, false, false, false, false, false, false, false, false] rfl rfl (any_of HT_.out (by kernel_rfl)) (fun _ _ _ h => h) (Or.inr ⟨by rfl, rfl⟩) ?_ ?_
              rotate_left
              ·
               simp only [Act.put, List.setIfInBounds_toArray, List.set_cons_zero, List.set_cons_succ, i64_w, i32_w]
               rfl
              refine pure_ (i := 5) (N := some 95) (v := undef) (a' := ?_) #[true, true, true, true, true, true, false, false, false, false, false, false, false] rfl rfl (any_of HT_.out (by kernel_rfl)) (fun _ _ _ h => h) (Or.inr ⟨by rfl, rfl⟩) ?_ ?_
              rotate_left
              ·
               simp only [Act.put, List.setIfInBounds_toArray, List.set_cons_zero, List.set_cons_succ, i64_w, i32_w]
               rfl
              refine pure_ (i := 6) (N := some 96) (v := undef) (a' := ?_) #[true, true, true, true, true, true, true, false, false, false, false, false, false] rfl rfl (any_of HT_.out (by kernel_rfl)) (fun _ _ _ h => h) (Or.inr ⟨by rfl, rfl⟩) ?_ ?_
              rotate_left
              ·
               simp only [Act.put, List.setIfInBounds_toArray, List.set_cons_zero, List.set_cons_succ, i64_w, i32_w]
               rfl
              refine pure_ (i := 7) (N := some 97) (v := undef) (a' := ?_) #[true, true, true, true, true, true, true, true, false, false, false, false, false] rfl rfl (any_of HT_.out (by kernel_rfl)) (fun _ _ _ h => h) (Or.inr ⟨by rfl, rfl⟩) ?_ ?_
              rotate_left
              ·
               simp only [Act.put, List.setIfInBounds_toArray, List.set_cons_zero, List.set_cons_succ, i64_w, i32_w]
               rfl
              refine pure_ (i := 8) (N := some 98) (v := undef) (a' := ?_) #[true, true, true, true, true, true, true, true, true, false, false, false, false] rfl rfl (any_of HT_.out (by kernel_rfl)) (fun _ _ _ h => h) (Or.inr ⟨by rfl, rfl⟩) ?_ ?_
              rotate_left
              ·
               simp only [Act.put, List.setIfInBounds_toArray, List.set_cons_zero, List.set_cons_succ, i64_w, i32_w]
               rfl
              refine pure_ (i := 9) (N := some 99) (v := undef) (a' := ?_) #[true, true, true, true, true, true, true, true, true, true, false, false, false] rfl rfl (any_of HT_.out (by kernel_rfl)) (fun _ _ _ h => h) (Or.inr ⟨by rfl, rfl⟩) ?_ ?_
              rotate_left
              ·
               simp only [Act.put, List.setIfInBounds_toArray, List.set_cons_zero, List.set_cons_succ, i64_w, i32_w]
               rfl
              refine pure_ (i := 10) (N := some 100) (v := undef) (a' := ?_) #[true, true, true, true, true, true, true, true, true, true, true, false, false] rfl rfl (any_of HT_.out (by kernel_rfl)) (fun _ _ _ h => h) (Or.inr ⟨by rfl, rfl⟩) ?_ ?_
              rotate_left
              ·
               simp only [Act.put, List.setIfInBounds_toArray, List.set_cons_zero, List.set_cons_succ, i64_w, i32_w]
               rfl
              refine pure_ (i := 11) (N := some 101) (v := ?_) (a' := ?_) #[true, true, true, true, true, true, true, true, true, true, true, true, false] rfl rfl (any_of HT_.out (by kernel_rfl)) (fun _ _ _ h => h) (Or.inl ⟨by rfl, ?_⟩) ?_ ?_
              rotate_left
              ·
               intro w'
               go_simp
               with_reducible rfl
              rotate_left
              ·
               simp only [Act.put, List.setIfInBounds_toArray, List.set_cons_zero, List.set_cons_succ, i64_w, i32_w]
               rfl
              refine pure_ (i := 12) (N := some 9) (v := ?_) (a' := ?_) #[true, true, true, true, true, true, true, true, true, true, true, true, true] rfl rfl (any_of HT_.out (by kernel_rfl)) (fun _ _ _ h => h) (Or.inl ⟨by rfl, ?_⟩) ?_ ?_
              rotate_left
              ·
               intro w'
               go_simp
               with_reducible rfl
              rotate_left
              ·
               simp only [Act.put, List.setIfInBounds_toArray, List.set_cons_zero, List.set_cons_succ, i64_w, i32_w]
               rfl
              refine done_ (done_of HT_.out (by kernel_rfl)) ?_
              try go_wp2
              go_roundg k4
              case measure => have := HJ2.out; have := HJ8.out; have := HK3.out; have := HK4.out; omega
              case rel => exact ⟨(true), (wrap64 (x11_4 + 1)), (by first | rfl | (simp; done) | (simp [*]; done)), (by first | rfl | (simp; done) | (simp [*]; done)), H', ⟨by have := HJ2.out; have := HJ8.out; have := HK3.out; have := HK4.out; omega⟩, ⟨by (with_reducible repeat (first | refine blk_drewN ?_ _ | refine blk_drew ?_ | refine blk_alloc ?_ _)); exact BK364.out⟩, ⟨by repeat (first | (with_reducible first | exact HB.out | apply below_alloc | apply pw_below_drewN | apply below_drew1 | refine below_set ?_ GE364.out) | exact HB.out)⟩⟩
             ·
              replace c58 := Bool.eq_false_iff.mpr c58
              subst c58
              have H1 : (if 0 ≤ x10_3 then (if x10_3 < (l0.length : Int) then (if 0 ≤ x11_4 then (if x11_4 < (l0.length : Int) then (octroilaw15_RedistPaths.l2 k4 l0 x5_8 ((rd l0 x10_3) == (rd l0 x11_4)) x10_3 (wrap64 (x11_4 + 1)) x365000_8 x365001_8 x365002_8 x365003_8 x365004_8 x365005_8 x365006_8) else (none)) else (none)) else (none)) else (none)) = some r := by rw [if_neg (show ¬ (false = true) by decide)] at H; exact H
              clear H
              have H := H1
              clear H1
              by_cases c60 : 0 ≤ x10_3
              ·
               rw [if_pos c60] at H
               have c60b0 : decide (0 ≤ x10_3) = true := decide_eq_true c60
               clear c60
               by_cases c61 : x10_3 < (l0.length : Int)
               ·
                rw [if_pos c61] at H
                have c61b0 : decide (x10_3 < (l0.length : Int)) = true := decide_eq_true c61
                clear c61
                by_cases c62 : 0 ≤ x11_4
                ·
                 rw [if_pos c62] at H
                 have c62b0 : decide (0 ≤ x11_4) = true := decide_eq_true c62
                 clear c62
                 by_cases c63 : x11_4 < (l0.length : Int)
                 ·
                  rw [if_pos c63] at H
                  have c63b0 : decide (x11_4 < (l0.length : Int)) = true := decide_eq_true c63
                  clear c63
                  have H' := Aside0.mk H
                  clear H
                  try go_wp2
                  have n0_ := Aside0.mk (blk_drew BK364.out)
                  have n1_ := Aside0.mk (below_drew1 HB.out)
                  clear BK364
                  clear HB
                  have BK364 := n0_
                  have HB := n1_
                  clear n0_ n1_
                  have p388 : 0 ≤ (x10_3 : Int) := of_decide_eq_true (by first | (with_reducible assumption) | assumption)
                  have q388 : x10_3 < (l0.length : Int) := of_decide_eq_true (by first | (with_reducible assumption) | assumption)
                  obtain ⟨ad388, e388, hx388_0⟩ := Kd.at_int HR0.out x10_3 p388 q388
                  have hw388_0 := hx388_0
                  obtain rfl : ad363 = ad388 := (by injection e388)
                  replace hx388_0 := (HB.out.cell (World.block_lt_of_cell? w _ hx388_0)).trans hx388_0
                  replace p388 := eq_true p388
                  replace q388 := eq_true q388
                  have p389 : 0 ≤ (x11_4 : Int) := of_decide_eq_true (by first | (with_reducible assumption) | assumption)
                  have q389 : x11_4 < (l0.length : Int) := of_decide_eq_true (by first | (with_reducible assumption) | assumption)
                  obtain ⟨ad389, e389, hx389_0⟩ := Kd.at_int HR0.out x11_4 p389 q389
                  have hw389_0 := hx389_0
                  obtain rfl : ad363 = ad389 := (by injection e389)
                  replace hx389_0 := (HB.out.cell (World.block_lt_of_cell? w _ hx389_0)).trans hx389_0
                  replace p389 := eq_true p389
                  replace q389 := eq_true q389
                  refine start_ (n := 13) (S := fun w' => w'.cell? (ad363.add (x10_3).toNat) = some (.int .i64 (rd l0 x10_3)) ∧ w'.cell? (ad363.add (x11_4).toNat) = some (.int .i64 (rd l0 x11_4))) (ds := []) #[false, false, false, false, false, false, false, false, false, false, false, false, false] (by kernel_rfl) rfl rfl ⟨((HB.out.cell (World.block_lt_of_cell? w _ hw388_0)).trans hw388_0), ((HB.out.cell (World.block_lt_of_cell? w _ hw389_0)).trans hw389_0)⟩ (fun hHeld => ?_); refine with_tabW octroilaw15_RedistPaths.tab22 octroilaw15_RedistPaths.bits22 (fun HT_ HW_ => ?_)
                  generalize wr.drew = w64 at BK364 HB hx388_0 hx389_0 hHeld ⊢
                  refine pure_ (i := 0) (N := some 90) (v := ?_) (a' := ?_) #[true, false, false, false, false, false, false, false, false, false, false, false, false] rfl rfl (any_of HT_.out (by kernel_rfl)) (fun _ _ _ h => h) (Or.inl ⟨by rfl, ?_⟩) ?_ ?_
                  rotate_left
                  ·
                   intro w'
                   go_simp
                   with_reducible rfl
                  rotate_left
                  ·
                   simp only [Act.put, List.setIfInBounds_toArray, List.set_cons_zero, List.set_cons_succ, i64_w, i32_w]
                   rfl
                  refine pure_ (i := 1) (N := some 91) (v := ?_) (a' := ?_) #[true, true, false, false, false, false, false, false, false, false, false, false, false] rfl rfl (any_of HT_.out (by kernel_rfl)) (fun _ _ _ h => h) (Or.inl ⟨by rfl, ?_⟩) ?_ ?_
                  rotate_left
                  ·
                   intro w'
                   go_simp
                   with_reducible rfl
                  rotate_left
                  ·
                   simp only [Act.put, List.setIfInBounds_toArray, List.set_cons_zero, List.set_cons_succ, i64_w, i32_w]
                   rfl
                  refine pure_ (i := 2) (N := some 92) (v := ?_) (a' := ?_) #[true, true, true, false, false, false, false, false, false, false, false, false, false] rfl rfl (any_of HT_.out (by kernel_rfl)) (fun _ _ _ h => h) (Or.inl ⟨by rfl, ?_⟩) ?_ ?_
                  rotate_left
                  ·
                   intro w'
                   go_simp
                   with_reducible rfl
                  rotate_left
                  ·
                   simp only [Act.put, List.setIfInBounds_toArray, List.set_cons_zero, List.set_cons_succ, i64_w, i32_w]
                   rfl
                  refine pure_ (i := 3) (N := some 93) (v := ?_) (a' := ?_) #[true, true, true, true, false, false, false, false, false, false, false, false, false] rfl rfl (any_of HT_.out (by kernel_rfl)) (fun _ _ _ h => h) (Or.inl ⟨by rfl, ?_⟩) ?_ ?_
                  rotate_left
                  ·
                   intro w'
                   go_simp
                   with_reducible rfl
                  rotate_left
                  ·
                   simp only [Act.put, List.setIfInBounds_toArray, List.set_cons_zero, List.set_cons_succ, i64_w, i32_w]
                   rfl
                  refine pure_ (i := 4) (N := some 94) (v := ?_) (a' := ?_) #[true, true, true, true, true, false, false, false, false, false, false, false, false] rfl rfl (any_of HT_.out (by kernel_rfl)) (fun _ _ _ h => h) (Or.inl ⟨by rfl, ?_⟩) ?_ ?_
                  rotate_left
                  ·
                   intro w'
                   go_simp
                   with_reducible rfl
                  rotate_left
                  ·
                   simp only [Act.put, List.setIfInBounds_toArray, List.set_cons_zero, List.set_cons_succ, i64_w, i32_w]
                   rfl
                  refine pure_ (i := 6) (N := some 96) (v := ?_) (a' := ?_) #[true, true, true, true, true, false, true, false, false, false, false, false, false] rfl rfl (any_of HT_.out (by kernel_rfl)) (fun _ _ _ h => h) (Or.inl ⟨by rfl, ?_⟩) ?_ ?_
                  rotate_left
                  ·
                   intro w'
                   go_simp
                   with_reducible rfl
                  rotate_left
                  ·
                   simp only [Act.put, List.setIfInBounds_toArray, List.set_cons_zero, List.set_cons_succ, i64_w, i32_w]
                   rfl
                  refine pure_ (i := 7) (N := some 97) (v := ?_) (a' := ?_) #[true, true, true, true, true, false, true, true, false, false, false, false, false] rfl rfl (any_of HT_.out (by kernel_rfl)) (fun _ _ _ h => h) (Or.inl ⟨by rfl, ?_⟩) ?_ ?_
                  rotate_left
                  ·
                   intro w'
                   go_simp
                   with_reducible rfl
                  rotate_left
                  ·
                   simp only [Act.put, List.setIfInBounds_toArray, List.set_cons_zero, List.set_cons_succ, i64_w, i32_w]
                   rfl
                  refine pure_ (i := 8) (N := some 98) (v := ?_) (a' := ?_) #[true, true, true, true, true, false, true, true, true, false, false, false, false] rfl rfl (any_of HT_.out (by kernel_rfl)) (fun _ _ _ h => h) (Or.inl ⟨by rfl, ?_⟩) ?_ ?_
                  rotate_left
                  ·
                   intro w'
                   go_simp
                   with_reducible rfl
                  rotate_left
                  ·
                   simp only [Act.put, List.setIfInBounds_toArray, List.set_cons_zero, List.set_cons_succ, i64_w, i32_w]
                   rfl
                  refine take_ (i := 5) (N := some 95) (v := ?_) (a' := ?_) #[true, true, true, true, true, true, true, true, true, false, false, false, false] rfl rfl (take_ofW HT_.out HW_.out (by kernel_rfl)) (fun _ _ _ h => h) (Or.inl ⟨by rfl, ?_⟩) hHeld ?_ ?_
                  rotate_left
                  ·
                   rintro w' ⟨s0, s1⟩
                   go_simp
                   with_reducible rfl
                  rotate_left
                  ·
                   simp only [Act.put, List.setIfInBounds_toArray, List.set_cons_zero, List.set_cons_succ, i64_w, i32_w]
                   rfl
                  refine take_ (i := 9) (N := some 99) (v := ?_) (a' := ?_) #[true, true, true, true, true, true, true, true, true, true, false, false, false] rfl rfl (take_ofW HT_.out HW_.out (by kernel_rfl)) (fun _ _ _ h => h) (Or.inl ⟨by rfl, ?_⟩) hHeld ?_ ?_
                  rotate_left
                  ·
                   rintro w' ⟨s0, s1⟩
                   go_simp
                   with_reducible rfl
                  rotate_left
                  ·
                   simp only [Act.put, List.setIfInBounds_toArray, List.set_cons_zero, List.set_cons_succ, i64_w, i32_w]
                   rfl
                  refine pure_ (i := 10) (N := some 100) (v := ?_) (a' := ?_) #[true, true, true, true, true, true, true, true, true, true, true, false, false] rfl rfl (any_of HT_.out (by kernel_rfl)) (fun _ _ _ h => h) (Or.inl ⟨by rfl, ?_⟩) ?_ ?_
                  rotate_left
                  ·
                   intro w'
                   go_simp
                   with_reducible rfl
                  rotate_left
                  ·
                   simp only [Act.put, List.setIfInBounds_toArray, List.set_cons_zero, List.set_cons_succ, i64_w, i32_w]
                   rfl
                  refine pure_ (i := 11) (N := some 101) (v := ?_) (a' := ?_) #[true, true, true, true, true, true, true, true, true, true, true, true, false] rfl rfl (any_of HT_.out (by kernel_rfl)) (fun _ _ _ h => h) (Or.inl ⟨by rfl, ?_⟩) ?_ ?_
                  rotate_left
                  ·
                   intro w'
                   go_simp
                   with_reducible rfl
                  rotate_left
                  ·
                   simp only [Act.put, List.setIfInBounds_toArray, List.set_cons_zero, List.set_cons_succ, i64_w, i32_w]
                   rfl
                  refine pure_ (i := 12) (N := some 9) (v := ?_) (a' := ?_) #[true, true, true, true, true, true, true, true, true, true, true, true, true] rfl rfl (any_of HT_.out (by kernel_rfl)) (fun _ _ _ h => h) (Or.inl ⟨by rfl, ?_⟩) ?_ ?_
                  rotate_left
                  ·
                   intro w'
                   go_simp
                   with_reducible rfl
                  rotate_left
                  ·
                   simp only [Act.put, List.setIfInBounds_toArray, List.set_cons_zero, List.set_cons_succ, i64_w, i32_w]
                   rfl
                  refine done_ (done_of HT_.out (by kernel_rfl)) ?_
                  try go_wp2
                  go_roundg k4
                  case measure => have := HJ2.out; have := HJ8.out; have := HK3.out; have := HK4.out; omega
                  case rel => exact ⟨(((rd l0 x10_3) == (rd l0 x11_4))), (wrap64 (x11_4 + 1)), (by first | rfl | (simp; done) | (simp [*]; done)), (by first | rfl | (simp; done) | (simp [*]; done)), H', ⟨by have := HJ2.out; have := HJ8.out; have := HK3.out; have := HK4.out; omega⟩, ⟨by (with_reducible repeat (first | refine blk_drewN ?_ _ | refine blk_drew ?_ | refine blk_alloc ?_ _)); exact BK364.out⟩, ⟨by repeat (first | (with_reducible first | exact HB.out | apply below_alloc | apply pw_below_drewN | apply below_drew1 | refine below_set ?_ GE364.out) | exact HB.out)⟩⟩
                 ·
                  rw [if_neg c63] at H
                  exact absurd H (by simp)
                ·
                 rw [if_neg c62] at H
                 exact absurd H (by simp)
               ·
                rw [if_neg c61] at H
                exact absurd H (by simp)
              ·
               rw [if_neg c60] at H
               exact absurd H (by simp)
            ·
             rw [if_neg c57] at H
             have c57b0 : decide (x11_4 < x10_3) = false := decide_eq_false c57
             clear c57
             have H' := Aside0.mk H
             clear H
             go_wp2
             go_roundg k4
             case measure => have := HJ2.out; have := HJ8.out; have := HK3.out; have := HK4.out; omega
             case rel => exact ⟨(x9_4), (wrap64 (x10_3 + 1)), (by first | rfl | (simp; done) | (simp [*]; done)), (by first | rfl | (simp; done) | (simp [*]; done)), H', ⟨by have := HJ2.out; have := HJ8.out; have := HK3.out; have := HK4.out; omega⟩, ⟨by (with_reducible repeat (first | refine blk_drewN ?_ _ | refine blk_drew ?_ | refine blk_alloc ?_ _)); exact BK364.out⟩, ⟨by repeat (first | (with_reducible first | exact HB.out | apply below_alloc | apply pw_below_drewN | apply below_drew1 | refine below_set ?_ GE364.out) | exact HB.out)⟩⟩
         ·
          rw [if_neg c56] at H
          have c56b0 : decide (x10_3 ≤ x5_8) = false := decide_eq_false c56
          clear c56
          by_cases c65 : 0 ≤ x5_8
          ·
           rw [if_pos c65] at H
           have c65b0 := eq_true c65
           have c65b1 : decide (0 ≤ x5_8) = true := decide_eq_true c65
           clear c65
           by_cases c66 : x5_8 ≤ (l0.length : Int)
           ·
            rw [if_pos c66] at H
            have c66b0 := eq_true c66
            have c66b1 : decide (x5_8 ≤ (l0.length : Int)) = true := decide_eq_true c66
            clear c66
            replace H := Option.bind_eq_some_iff.mp H
            obtain ⟨⟨t391, t392⟩, A670, H⟩ := H
            replace H : (if x9_3 = true then (octroilaw15_RedistPaths.j6 k3 l0 x5_8 true) else (if t392 = 0 then (if t391 = x365006_8 then ((tags_Depth.f k3 x365006_8).bind fun t393 => (octroilaw15_RedistPaths.j6 k3 l0 x5_8 (t393 != x5_8))) else (octroilaw15_RedistPaths.j6 k3 l0 x5_8 true)) else (octroilaw15_RedistPaths.j6 k3 l0 x5_8 true))) = some r := H
            have A67 := Aside0.mk A670
            clear A670
            have HC68 := Aside0.mk H
            clear H
            obtain ⟨i069, hi069, _, hsz69, _⟩ := info_parts info3
            obtain ⟨hcut69, hA69, hC69⟩ := print_take_of (P := Try.prog) (Value.int .i64) 0 48 3 .i64 Try.underlying48 hi069 hsz69 (some ad363) c0 l0 x5_8 (of_decide_eq_true (by first | (with_reducible assumption) | assumption)) (of_decide_eq_true (by first | (with_reducible assumption) | assumption)) HC0.out
            have HR390 := Aside0.mk (Kd.C_of_reads (h1 := fun _ => rfl) (hA69 _ (Kd.reads_of_C HR0.out)))
            have HC390 := Aside0.mk hC69
            clear hA69 hC69 hi069 hsz69
            go_upto_region 24 with (first | ((with_reducible refine gate_callee (f := 22) rfl ?_); refine goesL_ (some 106) rfl rfl Try.func22 (by kernel_rfl) rfl #[.slice (some ad363) (l0.take (x5_8 : Int).toNat).length c0] rfl (by (try simp only [List.map_toArray, List.map_cons, List.map_nil]); first | done | (rw [show (l0.take (x5_8 : Int).toNat).length = x5_8.toNat from (by rw [List.length_take]; have h_ : (x5_8 : Int) ≤ (l0.length : Int) := of_decide_eq_true (by first | (with_reducible assumption) | assumption); omega)] <;> rfl) | rfl | (simp only [List.length_drop, List.length_take]; rfl)) ?_; (with_reducible refine (tags_Of.calls k3 _ _ (l0.take (x5_8 : Int).toNat) t391 t392 _ ?side1 ?side2 A67.out).mono ?_); (case side1 => repeat (first | exact (Kd.C_below HR390.out HB.out) | (with_reducible refine Kd.C_alloc ?_ _) | (with_reducible refine Kd.C_drewN ?_ _) | (with_reducible refine Kd.C_drew ?_))); (case side2 => exact HC390.out); rintro e w' ⟨rfl, ⟨nd, rfl⟩⟩; refine ⟨_, rfl, ?_⟩))
            (try simp only [Act.put, List.setIfInBounds_toArray, List.set_cons_zero, List.set_cons_succ])
            go_cut [126] (fun v126 wc => ∃ (kq : Nat) (x126_67 : Bool), v126 = .bool x126_67 ∧ Aside0 (octroilaw15_RedistPaths.j6 kq l0 x5_8 x126_67 = some r) ∧ Aside0 (kq ≤ k3) ∧ Aside0 (wc.heap[gb364]? = some (.cells #[.int .u32 x365000_8, .int .i64 x365001_8, .int .i64 x365002_8, .int .i64 x365003_8, .int .i64 x365004_8, .int .i64 x365005_8, .int .u16 x365006_8] 31 (0, 0))) ∧ Aside0 (Below w.heap.size w wc))
            case first =>
             have H := HC68.out
             clear HC68
             by_cases c70 : x9_3 = true
             ·
              subst c70
              have H1 : (octroilaw15_RedistPaths.j6 k3 l0 x5_8 true) = some r := by rw [if_pos rfl] at H; exact H
              clear H
              have H := H1
              clear H1
              have H' := Aside0.mk H
              clear H
              go_wp2
              go_meet
              case rel => exact ⟨_, (true), (by first | rfl | (simp; done) | (simp [*]; done)), H', ⟨by have := HJ2.out; have := HJ8.out; have := HK3.out; first | omega | exact Nat.le_refl _⟩, ⟨by (with_reducible repeat (first | refine blk_drewN ?_ _ | refine blk_drew ?_ | refine blk_alloc ?_ _)); exact BK364.out⟩, ⟨by repeat (first | (with_reducible first | exact HB.out | apply below_alloc | apply pw_below_drewN | apply below_drew1 | refine below_set ?_ GE364.out) | exact HB.out)⟩⟩
             ·
              replace c70 := Bool.eq_false_iff.mpr c70
              subst c70
              have H1 : (if t392 = 0 then (if t391 = x365006_8 then ((tags_Depth.f k3 x365006_8).bind fun t393 => (octroilaw15_RedistPaths.j6 k3 l0 x5_8 (t393 != x5_8))) else (octroilaw15_RedistPaths.j6 k3 l0 x5_8 true)) else (octroilaw15_RedistPaths.j6 k3 l0 x5_8 true)) = some r := by rw [if_neg (show ¬ (false = true) by decide)] at H; exact H
              clear H
              have H := H1
              clear H1
              by_cases c71 : t392 = 0
              ·
               rw [if_pos c71] at H
               have c71b0 : (t392 == 0) = true := beq_iff_eq.mpr c71
               have c71b1 : (t392 != 0) = false := bne_eq_false_iff_eq.mpr c71
               clear c71
               (first | rw [c71b0] | (simp only [i64_w, i32_w]; rw [c71b0]) | skip)
               by_cases c72 : t391 = x365006_8
               ·
                rw [if_pos c72] at H
                have c72b0 : (t391 == x365006_8) = true := beq_iff_eq.mpr c72
                have c72b1 : (t391 != x365006_8) = false := bne_eq_false_iff_eq.mpr c72
                clear c72
                replace H := Option.bind_eq_some_iff.mp H
                obtain ⟨t393, A730, H⟩ := H
                replace H : (octroilaw15_RedistPaths.j6 k3 l0 x5_8 (t393 != x5_8)) = some r := H
                have A73 := Aside0.mk A730
                clear A730
                have H' := Aside0.mk H
                clear H
                have hcz74_0 : wr.cell? ⟨gb364, 0, none⟩ = some (.int .u32 x365000_8) := (blk_cell BK364.out 0).trans rfl
                have hcz74_1 : wr.cell? ⟨gb364, 1, none⟩ = some (.int .i64 x365001_8) := (blk_cell BK364.out 1).trans rfl
                have hcz74_2 : wr.cell? ⟨gb364, 2, none⟩ = some (.int .i64 x365002_8) := (blk_cell BK364.out 2).trans rfl
                have hcz74_3 : wr.cell? ⟨gb364, 3, none⟩ = some (.int .i64 x365003_8) := (blk_cell BK364.out 3).trans rfl
                have hcz74_4 : wr.cell? ⟨gb364, 4, none⟩ = some (.int .i64 x365004_8) := (blk_cell BK364.out 4).trans rfl
                have hcz74_5 : wr.cell? ⟨gb364, 5, none⟩ = some (.int .i64 x365005_8) := (blk_cell BK364.out 5).trans rfl
                have hcz74_6 : wr.cell? ⟨gb364, 6, none⟩ = some (.int .u16 x365006_8) := (blk_cell BK364.out 6).trans rfl
                have hfz74_0 := blk_frozen BK364.out 0
                have hfz74_1 := blk_frozen BK364.out 1
                have hfz74_2 := blk_frozen BK364.out 2
                have hfz74_3 := blk_frozen BK364.out 3
                have hfz74_4 := blk_frozen BK364.out 4
                have hfz74_5 := blk_frozen BK364.out 5
                have hfz74_6 := blk_frozen BK364.out 6
                go_wp2_with (first | (go_at_call 19; (with_reducible refine (tags_Depth.calls k3 x365006_8 t393 _ A73.out).mono ?_); rintro e w' ⟨rfl, ⟨nd, rfl⟩⟩))
                go_meet
                case rel => exact ⟨_, ((t393 != x5_8)), (by first | rfl | (simp; done) | (simp [*]; done)), H', ⟨by have := HJ2.out; have := HJ8.out; have := HK3.out; first | omega | exact Nat.le_refl _⟩, ⟨by (with_reducible repeat (first | refine blk_drewN ?_ _ | refine blk_drew ?_ | refine blk_alloc ?_ _)); exact BK364.out⟩, ⟨by repeat (first | (with_reducible first | exact HB.out | apply below_alloc | apply pw_below_drewN | apply below_drew1 | refine below_set ?_ GE364.out) | exact HB.out)⟩⟩
               ·
                rw [if_neg c72] at H
                have c72b0 : (t391 == x365006_8) = false := beq_eq_false_iff_ne.mpr c72
                have c72b1 : (t391 != x365006_8) = true := bne_iff_ne.mpr c72
                have H' := Aside0.mk H
                clear H
                have hcz75_0 : wr.cell? ⟨gb364, 0, none⟩ = some (.int .u32 x365000_8) := (blk_cell BK364.out 0).trans rfl
                have hcz75_1 : wr.cell? ⟨gb364, 1, none⟩ = some (.int .i64 x365001_8) := (blk_cell BK364.out 1).trans rfl
                have hcz75_2 : wr.cell? ⟨gb364, 2, none⟩ = some (.int .i64 x365002_8) := (blk_cell BK364.out 2).trans rfl
                have hcz75_3 : wr.cell? ⟨gb364, 3, none⟩ = some (.int .i64 x365003_8) := (blk_cell BK364.out 3).trans rfl
                have hcz75_4 : wr.cell? ⟨gb364, 4, none⟩ = some (.int .i64 x365004_8) := (blk_cell BK364.out 4).trans rfl
                have hcz75_5 : wr.cell? ⟨gb364, 5, none⟩ = some (.int .i64 x365005_8) := (blk_cell BK364.out 5).trans rfl
                have hcz75_6 : wr.cell? ⟨gb364, 6, none⟩ = some (.int .u16 x365006_8) := (blk_cell BK364.out 6).trans rfl
                have hfz75_0 := blk_frozen BK364.out 0
                have hfz75_1 := blk_frozen BK364.out 1
                have hfz75_2 := blk_frozen BK364.out 2
                have hfz75_3 := blk_frozen BK364.out 3
                have hfz75_4 := blk_frozen BK364.out 4
                have hfz75_5 := blk_frozen BK364.out 5
                have hfz75_6 := blk_frozen BK364.out 6
                go_wp2
                go_meet
                case rel => exact ⟨_, (true), (by first | rfl | (simp; done) | (simp [*]; done)), H', ⟨by have := HJ2.out; have := HJ8.out; have := HK3.out; first | omega | exact Nat.le_refl _⟩, ⟨by (with_reducible repeat (first | refine blk_drewN ?_ _ | refine blk_drew ?_ | refine blk_alloc ?_ _)); exact BK364.out⟩, ⟨by repeat (first | (with_reducible first | exact HB.out | apply below_alloc | apply pw_below_drewN | apply below_drew1 | refine below_set ?_ GE364.out) | exact HB.out)⟩⟩
              ·
               rw [if_neg c71] at H
               have c71b0 : (t392 == 0) = false := beq_eq_false_iff_ne.mpr c71
               have c71b1 : (t392 != 0) = true := bne_iff_ne.mpr c71
               (first | rw [c71b0] | (simp only [i64_w, i32_w]; rw [c71b0]) | skip)
               have H' := Aside0.mk H
               clear H
               go_wp2
               go_meet
               case rel => exact ⟨_, (true), (by first | rfl | (simp; done) | (simp [*]; done)), H', ⟨by have := HJ2.out; have := HJ8.out; have := HK3.out; first | omega | exact Nat.le_refl _⟩, ⟨by (with_reducible repeat (first | refine blk_drewN ?_ _ | refine blk_drew ?_ | refine blk_alloc ?_ _)); exact BK364.out⟩, ⟨by repeat (first | (with_reducible first | exact HB.out | apply below_alloc | apply pw_below_drewN | apply below_drew1 | refine below_set ?_ GE364.out) | exact HB.out)⟩⟩
            case rest =>
             clear HC68
             try clear c1
             try clear c2
             try clear p2
             try clear c3
             try clear p3
             try clear q3
             try clear hx3
             try clear c5
             try clear c6
             try clear p6
             try clear c7
             try clear c10
             try clear c12
             try clear c12b0
             try clear c14
             try clear c20
             try clear c21
             try clear c22
             try clear c24
             try clear c24b0
             try clear c24b1
             try clear p36
             try clear q36
             try clear hx36
             try clear p38
             try clear q38
             try clear hx38
             try clear c39
             try clear c56
             try clear c56b0
             try clear c57
             try clear c57b0
             try clear c58
             try clear c60
             try clear c60b0
             try clear c61
             try clear c61b0
             try clear c62
             try clear c62b0
             try clear c63
             try clear c63b0
             try clear p64
             try clear c65
             try clear c65b0
             try clear c65b1
             try clear c66
             try clear c66b0
             try clear c66b1
             try clear c70
             try clear c71
             try clear c71b0
             try clear c71b1
             try clear c72
             try clear c72b0
             try clear c72b1
             try clear hcz40_0
             try clear hcz40_1
             try clear hcz40_2
             try clear hcz40_3
             try clear hcz40_4
             try clear hcz40_5
             try clear hcz40_6
             try clear hcz41_0
             try clear hcz41_1
             try clear hcz41_2
             try clear hcz41_3
             try clear hcz41_4
             try clear hcz41_5
             try clear hcz41_6
             try clear hcz74_0
             try clear hcz74_1
             try clear hcz74_2
             try clear hcz74_3
             try clear hcz74_4
             try clear hcz74_5
             try clear hcz74_6
             try clear hcz75_0
             try clear hcz75_1
             try clear hcz75_2
             try clear hcz75_3
             try clear hcz75_4
             try clear hcz75_5
             try clear hcz75_6
             try clear hfz40_0
             try clear hfz40_1
             try clear hfz40_2
             try clear hfz40_3
             try clear hfz40_4
             try clear hfz40_5
             try clear hfz40_6
             try clear hfz41_0
             try clear hfz41_1
             try clear hfz41_2
             try clear hfz41_3
             try clear hfz41_4
             try clear hfz41_5
             try clear hfz41_6
             try clear hfz74_0
             try clear hfz74_1
             try clear hfz74_2
             try clear hfz74_3
             try clear hfz74_4
             try clear hfz74_5
             try clear hfz74_6
             try clear hfz75_0
             try clear hfz75_1
             try clear hfz75_2
             try clear hfz75_3
             try clear hfz75_4
             try clear hfz75_5
             try clear hfz75_6
             try clear hx369_0
             try clear hx388_0
             try clear hx389_0
             try clear p2
             try clear p3
             try clear p36
             try clear p369
             try clear p388
             try clear p389
             try clear p6
             try clear q3
             try clear q36
             try clear q369
             try clear q388
             try clear q389
             obtain ⟨kq, x126_67, rfl, HA, HJ67, BK364, HB⟩ := hcut
             cases kq with
             | zero => exact absurd HA.out (by simp [octroilaw15_RedistPaths.j6])
             | succ kj67 =>
              have H := HA.out
              clear HA
              simp only [octroilaw15_RedistPaths.j6] at H
              by_cases c76 : x126_67 = true
              ·
               subst c76
               have H1 : (none) = some r := by rw [if_pos rfl] at H; exact H
               clear H
               have H := H1
               clear H1
               exact absurd H (by simp)
              ·
               replace c76 := Bool.eq_false_iff.mpr c76
               subst c76
               have H1 : (if x5_8 = (wrap64 ((l0.length : Int) - 1)) then (some true) else (octroilaw15_RedistPaths.l3 kj67 l0 x5_8 false 0)) = some r := by rw [if_neg (show ¬ (false = true) by decide)] at H; exact H
               clear H
               have H := H1
               clear H1
               by_cases c77 : x5_8 = (wrap64 ((l0.length : Int) - 1))
               ·
                rw [if_pos c77] at H
                have c77b0 : (x5_8 == (wrap64 ((l0.length : Int) - 1))) = true := beq_iff_eq.mpr c77
                have c77b1 : (x5_8 != (wrap64 ((l0.length : Int) - 1))) = false := bne_eq_false_iff_eq.mpr c77
                clear c77
                obtain rfl := Option.some.inj H
                go_wp2
                go_ret
                exact ⟨by first | rfl | (simp [errW_none, errW_some] <;> rfl) | (simp [*, errW_none, errW_some] <;> rfl), by repeat (first | (with_reducible first | exact HB.out | apply below_alloc | apply pw_below_drewN | apply below_drew1 | refine below_set ?_ GE364.out) | exact HB.out)⟩
               ·
                rw [if_neg c77] at H
                have c77b0 : (x5_8 == (wrap64 ((l0.length : Int) - 1))) = false := beq_eq_false_iff_ne.mpr c77
                have c77b1 : (x5_8 != (wrap64 ((l0.length : Int) - 1))) = true := bne_iff_ne.mpr c77
                have H' := Aside0.mk H
                clear H
                go_wp2
                go_loopg [14, 15] kj67 (fun kq v14 v15 w' => ∃ (x14_5 : Bool) (x15_5 : Int), v14 = .bool x14_5 ∧ v15 = .int .i64 x15_5 ∧ Aside0 (octroilaw15_RedistPaths.l3 kq l0 x5_8 x14_5 x15_5 = some r) ∧ Aside0 (kq ≤ kj67) ∧ Aside0 (w'.heap[gb364]? = some (.cells #[.int .u32 x365000_8, .int .i64 x365001_8, .int .i64 x365002_8, .int .i64 x365003_8, .int .i64 x365004_8, .int .i64 x365005_8, .int .u16 x365006_8] 31 (0, 0))) ∧ Aside0 (Below w.heap.size w w'))
                case atStart => exact ⟨(false), (0), (by first | rfl | (simp; done) | (simp [*]; done)), (by first | rfl | (simp; done) | (simp [*]; done)), H', ⟨Nat.le_refl _⟩, ⟨by (with_reducible repeat (first | refine blk_drewN ?_ _ | refine blk_drew ?_ | refine blk_alloc ?_ _)); exact BK364.out⟩, ⟨by repeat (first | (with_reducible first | exact HB.out | apply below_alloc | apply pw_below_drewN | apply below_drew1 | refine below_set ?_ GE364.out) | exact HB.out)⟩⟩
                case round =>
                 clear H'
                 try clear c1
                 try clear c2
                 try clear p2
                 try clear c3
                 try clear p3
                 try clear q3
                 try clear hx3
                 try clear c5
                 try clear c6
                 try clear p6
                 try clear c7
                 try clear c10
                 try clear c12
                 try clear c12b0
                 try clear c14
                 try clear c20
                 try clear c21
                 try clear c22
                 try clear c24
                 try clear c24b0
                 try clear c24b1
                 try clear p36
                 try clear q36
                 try clear hx36
                 try clear p38
                 try clear q38
                 try clear hx38
                 try clear c39
                 try clear c56
                 try clear c56b0
                 try clear c57
                 try clear c57b0
                 try clear c58
                 try clear c60
                 try clear c60b0
                 try clear c61
                 try clear c61b0
                 try clear c62
                 try clear c62b0
                 try clear c63
                 try clear c63b0
                 try clear p64
                 try clear c65
                 try clear c65b0
                 try clear c65b1
                 try clear c66
                 try clear c66b0
                 try clear c66b1
                 try clear c70
                 try clear c71
                 try clear c71b0
                 try clear c71b1
                 try clear c72
                 try clear c72b0
                 try clear c72b1
                 try clear c76
                 try clear c77
                 try clear c77b0
                 try clear c77b1
                 try clear hcz40_0
                 try clear hcz40_1
                 try clear hcz40_2
                 try clear hcz40_3
                 try clear hcz40_4
                 try clear hcz40_5
                 try clear hcz40_6
                 try clear hcz41_0
                 try clear hcz41_1
                 try clear hcz41_2
                 try clear hcz41_3
                 try clear hcz41_4
                 try clear hcz41_5
                 try clear hcz41_6
                 try clear hcz74_0
                 try clear hcz74_1
                 try clear hcz74_2
                 try clear hcz74_3
                 try clear hcz74_4
                 try clear hcz74_5
                 try clear hcz74_6
                 try clear hcz75_0
                 try clear hcz75_1
                 try clear hcz75_2
                 try clear hcz75_3
                 try clear hcz75_4
                 try clear hcz75_5
                 try clear hcz75_6
                 try clear hfz40_0
                 try clear hfz40_1
                 try clear hfz40_2
                 try clear hfz40_3
                 try clear hfz40_4
                 try clear hfz40_5
                 try clear hfz40_6
                 try clear hfz41_0
                 try clear hfz41_1
                 try clear hfz41_2
                 try clear hfz41_3
                 try clear hfz41_4
                 try clear hfz41_5
                 try clear hfz41_6
                 try clear hfz74_0
                 try clear hfz74_1
                 try clear hfz74_2
                 try clear hfz74_3
                 try clear hfz74_4
                 try clear hfz74_5
                 try clear hfz74_6
                 try clear hfz75_0
                 try clear hfz75_1
                 try clear hfz75_2
                 try clear hfz75_3
                 try clear hfz75_4
                 try clear hfz75_5
                 try clear hfz75_6
                 try clear hx369_0
                 try clear hx388_0
                 try clear hx389_0
                 try clear p2
                 try clear p3
                 try clear p36
                 try clear p369
                 try clear p38
                 try clear p388
                 try clear p389
                 try clear p6
                 try clear p64
                 try clear q3
                 try clear q36
                 try clear q369
                 try clear q38
                 try clear q388
                 try clear q389
                 obtain ⟨x14_5, x15_5, rfl, rfl, HA, HK5, BK364, HB⟩ := hrel
                 cases gk with
                 | zero => exact absurd HA.out (by simp [octroilaw15_RedistPaths.l3])
                 | succ k5 =>
                  have H := HA.out
                  clear HA
                  simp only [octroilaw15_RedistPaths.l3] at H
                  by_cases c78 : x15_5 ≤ x5_8
                  ·
                   rw [if_pos c78] at H
                   have c78b0 : decide (x15_5 ≤ x5_8) = true := decide_eq_true c78
                   clear c78
                   by_cases c79 : x14_5 = true
                   ·
                    subst c79
                    have H1 : (octroilaw15_RedistPaths.l3 k5 l0 x5_8 true (wrap64 (x15_5 + 1))) = some r := by rw [if_pos rfl] at H; exact H
                    clear H
                    have H := H1
                    clear H1
                    have H' := Aside0.mk H
                    clear H
                    try go_wp2
                    have n0_ := Aside0.mk (blk_drew BK364.out)
                    have n1_ := Aside0.mk (below_drew1 HB.out)
                    clear BK364
                    clear HB
                    have BK364 := n0_
                    have HB := n1_
                    clear n0_ n1_
                    refine start_ (n := 14) (S := fun w' => True) (ds := []) #[false, false, false, false, false, false, false, false, false, false, false, false, false, false] (by kernel_rfl) rfl rfl trivial (fun hHeld => ?_); refine with_tabW octroilaw15_RedistPaths.tab32 octroilaw15_RedistPaths.bits32 (fun HT_ HW_ => ?_)
                    generalize wr.drew = w80 at BK364 HB hHeld ⊢
                    refine pure_ (i := 0) (N := some 137) (v := ?_) (a' := ?_) #[true, false, false, false, false, false, false, false, false, false, false, false, false, false] rfl rfl (any_of HT_.out (by kernel_rfl)) (fun _ _ _ h => h) (Or.inl ⟨by rfl, ?_⟩) ?_ ?_
                    rotate_left
                    ·
                     intro w'
                     go_simp
                     with_reducible rfl
                    rotate_left
                    ·
                     simp only [Act.put, List.setIfInBounds_toArray, List.set_cons_zero, List.set_cons_succ, i64_w, i32_w]
                     rfl
                    refine pure_ (i := 1) (N := some 138) (v := ?_) (a' := ?_) #[true, true, false, false, false, false, false, false, false, false, false, false, false, false] rfl rfl (any_of HT_.out (by kernel_rfl)) (fun _ _ _ h => h) (Or.inl ⟨by rfl, ?_⟩) ?_ ?_
                    rotate_left
                    ·
                     intro w'
                     go_simp
                     with_reducible rfl
                    rotate_left
                    ·
                     simp only [Act.put, List.setIfInBounds_toArray, List.set_cons_zero, List.set_cons_succ, i64_w, i32_w]
                     rfl
                    refine pure_ (i := 2) (N := some 139) (v := undef) (a' := ?_) #[true, true, true, false, false, false, false, false, false, false, false, false, false, false] rfl rfl (any_of HT_.out (by kernel_rfl)) (fun _ _ _ h => h) (Or.inr ⟨by rfl, rfl⟩) ?_ ?_
                    rotate_left
                    ·
                     simp only [Act.put, List.setIfInBounds_toArray, List.set_cons_zero, List.set_cons_succ, i64_w, i32_w]
                     rfl
                    refine pure_ (i := 3) (N := some 140) (v := undef) (a' := ?_) #[true, true, true, true, false, false, false, false, false, false, false, false, false, false] rfl rfl (any_of HT_.out (by kernel_rfl)) (fun _ _ _ h => h) (Or.inr ⟨by rfl, rfl⟩) ?_ ?_
                    rotate_left
                    ·
                     simp only [Act.put, List.setIfInBounds_toArray, List.set_cons_zero, List.set_cons_succ, i64_w, i32_w]
                     rfl
                    refine pure_ (i := 4) (N := some 141) (v := undef) (a' := ?_) #[true, true, true, true, true, false, false, false, false, false, false, false, false, false] rfl rfl (any_of HT_.out (by kernel_rfl)) (fun _ _ _ h => h) (Or.inr ⟨by rfl, rfl⟩) ?_ ?_
                    rotate_left
                    ·
                     simp only [Act.put, List.setIfInBounds_toArray, List.set_cons_zero, List.set_cons_succ, i64_w, i32_w]
                     rfl
                    refine pure_ (i := 5) (N := some 142) (v := undef) (a' := ?_) #[true, true, true, true, true, true, false, false, false, false, false, false, false, false] rfl rfl (any_of HT_.out (by kernel_rfl)) (fun _ _ _ h => h) (Or.inr ⟨by rfl, rfl⟩) ?_ ?_
                    rotate_left
                    ·
                     simp only [Act.put, List.setIfInBounds_toArray, List.set_cons_zero, List.set_cons_succ, i64_w, i32_w]
                     rfl
                    refine pure_ (i := 6) (N := some 143) (v := undef) (a' := ?_) #[true, true, true, true, true, true, true, false, false, false, false, false, false, false] rfl rfl (any_of HT_.out (by kernel_rfl)) (fun _ _ _ h => h) (Or.inr ⟨by rfl, rfl⟩) ?_ ?_
                    rotate_left
                    ·
                     simp only [Act.put, List.setIfInBounds_toArray, List.set_cons_zero, List.set_cons_succ, i64_w, i32_w]
                     rfl
                    refine pure_ (i := 7) (N := some 144) (v := undef) (a' := ?_) #[true, true, true, true, true, true, true, true, false, false, false, false, false, false] rfl rfl (any_of HT_.out (by kernel_rfl)) (fun _ _ _ h => h) (Or.inr ⟨by rfl, rfl⟩) ?_ ?_
                    rotate_left
                    ·
                     simp only [Act.put, List.setIfInBounds_toArray, List.set_cons_zero, List.set_cons_succ, i64_w, i32_w]
                     rfl
                    refine pure_ (i := 8) (N := some 145) (v := undef) (a' := ?_) #[true, true, true, true, true, true, true, true, true, false, false, false, false, false] rfl rfl (any_of HT_.out (by kernel_rfl)) (fun _ _ _ h => h) (Or.inr ⟨by rfl, rfl⟩) ?_ ?_
                    rotate_left
                    ·
                     simp only [Act.put, List.setIfInBounds_toArray, List.set_cons_zero, List.set_cons_succ, i64_w, i32_w]
                     rfl
                    refine pure_ (i := 9) (N := some 146) (v := undef) (a' := ?_) #[true, true, true, true, true, true, true, true, true, true, false, false, false, false] rfl rfl (any_of HT_.out (by kernel_rfl)) (fun _ _ _ h => h) (Or.inr ⟨by rfl, rfl⟩) ?_ ?_
                    rotate_left
                    ·
                     simp only [Act.put, List.setIfInBounds_toArray, List.set_cons_zero, List.set_cons_succ, i64_w, i32_w]
                     rfl
                    refine pure_ (i := 10) (N := some 147) (v := undef) (a' := ?_) #[true, true, true, true, true, true, true, true, true, true, true, false, false, false] rfl rfl (any_of HT_.out (by kernel_rfl)) (fun _ _ _ h => h) (Or.inr ⟨by rfl, rfl⟩) ?_ ?_
                    rotate_left
                    ·
                     simp only [Act.put, List.setIfInBounds_toArray, List.set_cons_zero, List.set_cons_succ, i64_w, i32_w]
                     rfl
                    refine pure_ (i := 11) (N := some 148) (v := undef) (a' := ?_) #[true, true, true, true, true, true, true, true, true, true, true, true, false, false] rfl rfl (any_of HT_.out (by kernel_rfl)) (fun _ _ _ h => h) (Or.inr ⟨by rfl, rfl⟩) ?_ ?_
                    rotate_left
                    ·
                     simp only [Act.put, List.setIfInBounds_toArray, List.set_cons_zero, List.set_cons_succ, i64_w, i32_w]
                     rfl
                    refine pure_ (i := 12) (N := some 149) (v := ?_) (a' := ?_) #[true, true, true, true, true, true, true, true, true, true, true, true, true, false] rfl rfl (any_of HT_.out (by kernel_rfl)) (fun _ _ _ h => h) (Or.inl ⟨by rfl, ?_⟩) ?_ ?_
                    rotate_left
                    ·
                     intro w'
                     go_simp
                     with_reducible rfl
                    rotate_left
                    ·
                     simp only [Act.put, List.setIfInBounds_toArray, List.set_cons_zero, List.set_cons_succ, i64_w, i32_w]
                     rfl
                    refine pure_ (i := 13) (N := some 14) (v := ?_) (a' := ?_) #[true, true, true, true, true, true, true, true, true, true, true, true, true, true] rfl rfl (any_of HT_.out (by kernel_rfl)) (fun _ _ _ h => h) (Or.inl ⟨by rfl, ?_⟩) ?_ ?_
                    rotate_left
                    ·
                     intro w'
                     go_simp
                     with_reducible rfl
                    rotate_left
                    ·
                     simp only [Act.put, List.setIfInBounds_toArray, List.set_cons_zero, List.set_cons_succ, i64_w, i32_w]
                     rfl
                    refine done_ (done_of HT_.out (by kernel_rfl)) ?_
                    try go_wp2
                    go_roundg k5
                    case measure => have := HJ2.out; have := HJ8.out; have := HK3.out; have := HJ67.out; have := HK5.out; omega
                    case rel => exact ⟨(true), (wrap64 (x15_5 + 1)), (by first | rfl | (simp; done) | (simp [*]; done)), (by first | rfl | (simp; done) | (simp [*]; done)), H', ⟨by have := HJ2.out; have := HJ8.out; have := HK3.out; have := HJ67.out; have := HK5.out; omega⟩, ⟨by (with_reducible repeat (first | refine blk_drewN ?_ _ | refine blk_drew ?_ | refine blk_alloc ?_ _)); exact BK364.out⟩, ⟨by repeat (first | (with_reducible first | exact HB.out | apply below_alloc | apply pw_below_drewN | apply below_drew1 | refine below_set ?_ GE364.out) | exact HB.out)⟩⟩
                   ·
                    replace c79 := Bool.eq_false_iff.mpr c79
                    subst c79
                    have H1 : (if 0 ≤ x15_5 then (if x15_5 < (l0.length : Int) then (if 0 ≤ (wrap64 (x5_8 + 1)) then (if (wrap64 (x5_8 + 1)) < (l0.length : Int) then (octroilaw15_RedistPaths.l3 k5 l0 x5_8 ((rd l0 x15_5) == (rd l0 (wrap64 (x5_8 + 1)))) (wrap64 (x15_5 + 1))) else (none)) else (none)) else (none)) else (none)) = some r := by rw [if_neg (show ¬ (false = true) by decide)] at H; exact H
                    clear H
                    have H := H1
                    clear H1
                    by_cases c81 : 0 ≤ x15_5
                    ·
                     rw [if_pos c81] at H
                     have c81b0 : decide (0 ≤ x15_5) = true := decide_eq_true c81
                     clear c81
                     by_cases c82 : x15_5 < (l0.length : Int)
                     ·
                      rw [if_pos c82] at H
                      have c82b0 : decide (x15_5 < (l0.length : Int)) = true := decide_eq_true c82
                      clear c82
                      obtain ⟨ji83, hji83⟩ : ∃ j_ : Int, (wrap64 (x5_8 + 1)) = j_ := ⟨_, rfl⟩
                      replace H : (if 0 ≤ (ji83) then (if (ji83) < (l0.length : Int) then (octroilaw15_RedistPaths.l3 k5 l0 x5_8 ((rd l0 x15_5) == (rd l0 (ji83))) (wrap64 (x15_5 + 1))) else (none)) else (none)) = some r := by first | (rw [hji83] at H; exact H) | (simp only [hji83] at H ⊢; exact H)
                      have hji83w : (IntKind.i64.wrap (x5_8 + 1)) = ji83 := (i64_w _).trans hji83
                      by_cases c84 : 0 ≤ (ji83)
                      ·
                       rw [if_pos c84] at H
                       have c84b0 : decide (0 ≤ (ji83)) = true := decide_eq_true c84
                       clear c84
                       by_cases c85 : (ji83) < (l0.length : Int)
                       ·
                        rw [if_pos c85] at H
                        have c85b0 : decide ((ji83) < (l0.length : Int)) = true := decide_eq_true c85
                        clear c85
                        have H' := Aside0.mk H
                        clear H
                        try go_wp2
                        have n0_ := Aside0.mk (blk_drew BK364.out)
                        have n1_ := Aside0.mk (below_drew1 HB.out)
                        clear BK364
                        clear HB
                        have BK364 := n0_
                        have HB := n1_
                        clear n0_ n1_
                        have p394 : 0 ≤ (x15_5 : Int) := of_decide_eq_true (by first | (with_reducible assumption) | assumption)
                        have q394 : x15_5 < (l0.length : Int) := of_decide_eq_true (by first | (with_reducible assumption) | assumption)
                        obtain ⟨ad394, e394, hx394_0⟩ := Kd.at_int HR0.out x15_5 p394 q394
                        have hw394_0 := hx394_0
                        obtain rfl : ad363 = ad394 := (by injection e394)
                        replace hx394_0 := (HB.out.cell (World.block_lt_of_cell? w _ hx394_0)).trans hx394_0
                        replace p394 := eq_true p394
                        replace q394 := eq_true q394
                        have p395 : 0 ≤ ((ji83) : Int) := of_decide_eq_true (by first | (with_reducible assumption) | assumption)
                        have q395 : (ji83) < (l0.length : Int) := of_decide_eq_true (by first | (with_reducible assumption) | assumption)
                        obtain ⟨ad395, e395, hx395_0⟩ := Kd.at_int HR0.out (ji83) p395 q395
                        have hw395_0 := hx395_0
                        obtain rfl : ad363 = ad395 := (by injection e395)
                        replace hx395_0 := (HB.out.cell (World.block_lt_of_cell? w _ hx395_0)).trans hx395_0
                        replace p395 := eq_true p395
                        replace q395 := eq_true q395
                        refine start_ (n := 14) (S := fun w' => w'.cell? (ad363.add (x15_5).toNat) = some (.int .i64 (rd l0 x15_5)) ∧ w'.cell? (ad363.add ((ji83)).toNat) = some (.int .i64 (rd l0 (ji83)))) (ds := []) #[false, false, false, false, false, false, false, false, false, false, false, false, false, false] (by kernel_rfl) rfl rfl ⟨((HB.out.cell (World.block_lt_of_cell? w _ hw394_0)).trans hw394_0), ((HB.out.cell (World.block_lt_of_cell? w _ hw395_0)).trans hw395_0)⟩ (fun hHeld => ?_); refine with_tabW octroilaw15_RedistPaths.tab32 octroilaw15_RedistPaths.bits32 (fun HT_ HW_ => ?_)
                        generalize wr.drew = w86 at BK364 HB hx394_0 hx395_0 hHeld ⊢
                        refine pure_ (i := 0) (N := some 137) (v := ?_) (a' := ?_) #[true, false, false, false, false, false, false, false, false, false, false, false, false, false] rfl rfl (any_of HT_.out (by kernel_rfl)) (fun _ _ _ h => h) (Or.inl ⟨by rfl, ?_⟩) ?_ ?_
                        rotate_left
                        ·
                         intro w'
                         go_simp
                         with_reducible rfl
                        rotate_left
                        ·
                         simp only [Act.put, List.setIfInBounds_toArray, List.set_cons_zero, List.set_cons_succ, i64_w, i32_w]
                         rfl
                        refine pure_ (i := 1) (N := some 138) (v := ?_) (a' := ?_) #[true, true, false, false, false, false, false, false, false, false, false, false, false, false] rfl rfl (any_of HT_.out (by kernel_rfl)) (fun _ _ _ h => h) (Or.inl ⟨by rfl, ?_⟩) ?_ ?_
                        rotate_left
                        ·
                         intro w'
                         go_simp
                         with_reducible rfl
                        rotate_left
                        ·
                         simp only [Act.put, List.setIfInBounds_toArray, List.set_cons_zero, List.set_cons_succ, i64_w, i32_w]
                         rfl
                        refine pure_ (i := 2) (N := some 139) (v := ?_) (a' := ?_) #[true, true, true, false, false, false, false, false, false, false, false, false, false, false] rfl rfl (any_of HT_.out (by kernel_rfl)) (fun _ _ _ h => h) (Or.inl ⟨by rfl, ?_⟩) ?_ ?_
                        rotate_left
                        ·
                         intro w'
                         go_simp
                         with_reducible rfl
                        rotate_left
                        ·
                         simp only [Act.put, List.setIfInBounds_toArray, List.set_cons_zero, List.set_cons_succ, i64_w, i32_w]
                         rfl
                        refine pure_ (i := 3) (N := some 140) (v := ?_) (a' := ?_) #[true, true, true, true, false, false, false, false, false, false, false, false, false, false] rfl rfl (any_of HT_.out (by kernel_rfl)) (fun _ _ _ h => h) (Or.inl ⟨by rfl, ?_⟩) ?_ ?_
                        rotate_left
                        ·
                         intro w'
                         go_simp
                         with_reducible rfl
                        rotate_left
                        ·
                         simp only [Act.put, List.setIfInBounds_toArray, List.set_cons_zero, List.set_cons_succ, i64_w, i32_w]
                         rfl
                        refine pure_ (i := 4) (N := some 141) (v := ?_) (a' := ?_) #[true, true, true, true, true, false, false, false, false, false, false, false, false, false] rfl rfl (any_of HT_.out (by kernel_rfl)) (fun _ _ _ h => h) (Or.inl ⟨by rfl, ?_⟩) ?_ ?_
                        rotate_left
                        ·
                         intro w'
                         go_simp
                         with_reducible rfl
                        rotate_left
                        ·
                         simp only [Act.put, List.setIfInBounds_toArray, List.set_cons_zero, List.set_cons_succ, i64_w, i32_w]
                         rfl
                        refine pure_ (i := 6) (N := some 143) (v := ?_) (a' := ?_) #[true, true, true, true, true, false, true, false, false, false, false, false, false, false] rfl rfl (any_of HT_.out (by kernel_rfl)) (fun _ _ _ h => h) (Or.inl ⟨by rfl, ?_⟩) ?_ ?_
                        rotate_left
                        ·
                         intro w'
                         go_simp
                         with_reducible rfl
                        rotate_left
                        ·
                         simp only [Act.put, List.setIfInBounds_toArray, List.set_cons_zero, List.set_cons_succ, i64_w, i32_w]
                         rfl
                        refine pure_ (i := 7) (N := some 144) (v := ?_) (a' := ?_) #[true, true, true, true, true, false, true, true, false, false, false, false, false, false] rfl rfl (any_of HT_.out (by kernel_rfl)) (fun _ _ _ h => h) (Or.inl ⟨by rfl, ?_⟩) ?_ ?_
                        rotate_left
                        ·
                         intro w'
                         go_simp
                         with_reducible rfl
                        rotate_left
                        ·
                         simp only [Act.put, List.setIfInBounds_toArray, List.set_cons_zero, List.set_cons_succ, i64_w, i32_w]
                         rfl
                        refine pure_ (i := 8) (N := some 145) (v := ?_) (a' := ?_) #[true, true, true, true, true, false, true, true, true, false, false, false, false, false] rfl rfl (any_of HT_.out (by kernel_rfl)) (fun _ _ _ h => h) (Or.inl ⟨by rfl, ?_⟩) ?_ ?_
                        rotate_left
                        ·
                         intro w'
                         go_simp
                         with_reducible rfl
                        rotate_left
                        ·
                         simp only [Act.put, List.setIfInBounds_toArray, List.set_cons_zero, List.set_cons_succ, i64_w, i32_w]
                         rfl
                        refine pure_ (i := 9) (N := some 146) (v := ?_) (a' := ?_) #[true, true, true, true, true, false, true, true, true, true, false, false, false, false] rfl rfl (any_of HT_.out (by kernel_rfl)) (fun _ _ _ h => h) (Or.inl ⟨by rfl, ?_⟩) ?_ ?_
                        rotate_left
                        ·
                         intro w'
                         go_simp
                         with_reducible rfl
                        rotate_left
                        ·
                         simp only [Act.put, List.setIfInBounds_toArray, List.set_cons_zero, List.set_cons_succ, i64_w, i32_w]
                         rfl
                        refine take_ (i := 5) (N := some 142) (v := ?_) (a' := ?_) #[true, true, true, true, true, true, true, true, true, true, false, false, false, false] rfl rfl (take_ofW HT_.out HW_.out (by kernel_rfl)) (fun _ _ _ h => h) (Or.inl ⟨by rfl, ?_⟩) hHeld ?_ ?_
                        rotate_left
                        ·
                         rintro w' ⟨s0, s1⟩
                         go_simp
                         with_reducible rfl
                        rotate_left
                        ·
                         simp only [Act.put, List.setIfInBounds_toArray, List.set_cons_zero, List.set_cons_succ, i64_w, i32_w]
                         rfl
                        refine take_ (i := 10) (N := some 147) (v := ?_) (a' := ?_) #[true, true, true, true, true, true, true, true, true, true, true, false, false, false] rfl rfl (take_ofW HT_.out HW_.out (by kernel_rfl)) (fun _ _ _ h => h) (Or.inl ⟨by rfl, ?_⟩) hHeld ?_ ?_
                        rotate_left
                        ·
                         rintro w' ⟨s0, s1⟩
                         go_simp
                         with_reducible rfl
                        rotate_left
                        ·
                         simp only [Act.put, List.setIfInBounds_toArray, List.set_cons_zero, List.set_cons_succ, i64_w, i32_w]
                         rfl
                        refine pure_ (i := 11) (N := some 148) (v := ?_) (a' := ?_) #[true, true, true, true, true, true, true, true, true, true, true, true, false, false] rfl rfl (any_of HT_.out (by kernel_rfl)) (fun _ _ _ h => h) (Or.inl ⟨by rfl, ?_⟩) ?_ ?_
                        rotate_left
                        ·
                         intro w'
                         go_simp
                         with_reducible rfl
                        rotate_left
                        ·
                         simp only [Act.put, List.setIfInBounds_toArray, List.set_cons_zero, List.set_cons_succ, i64_w, i32_w]
                         rfl
                        refine pure_ (i := 12) (N := some 149) (v := ?_) (a' := ?_) #[true, true, true, true, true, true, true, true, true, true, true, true, true, false] rfl rfl (any_of HT_.out (by kernel_rfl)) (fun _ _ _ h => h) (Or.inl ⟨by rfl, ?_⟩) ?_ ?_
                        rotate_left
                        ·
                         intro w'
                         go_simp
                         with_reducible rfl
                        rotate_left
                        ·
                         simp only [Act.put, List.setIfInBounds_toArray, List.set_cons_zero, List.set_cons_succ, i64_w, i32_w]
                         rfl
                        refine pure_ (i := 13) (N := some 14) (v := ?_) (a' := ?_) #[true, true, true, true, true, true, true, true, true, true, true, true, true, true] rfl rfl (any_of HT_.out (by kernel_rfl)) (fun _ _ _ h => h) (Or.inl ⟨by rfl, ?_⟩) ?_ ?_
                        rotate_left
                        ·
                         intro w'
                         go_simp
                         with_reducible rfl
                        rotate_left
                        ·
                         simp only [Act.put, List.setIfInBounds_toArray, List.set_cons_zero, List.set_cons_succ, i64_w, i32_w]
                         rfl
                        refine done_ (done_of HT_.out (by kernel_rfl)) ?_
                        try go_wp2
                        go_roundg k5
                        case measure => have := HJ2.out; have := HJ8.out; have := HK3.out; have := HJ67.out; have := HK5.out; omega
                        case rel => exact ⟨(((rd l0 x15_5) == (rd l0 (ji83)))), (wrap64 (x15_5 + 1)), (by first | rfl | (simp; done) | (simp only [← hji83] <;> (first | rfl | simp)) | (simp [*]; done)), (by first | rfl | (simp; done) | (simp [*]; done)), H', ⟨by have := HJ2.out; have := HJ8.out; have := HK3.out; have := HJ67.out; have := HK5.out; omega⟩, ⟨by (with_reducible repeat (first | refine blk_drewN ?_ _ | refine blk_drew ?_ | refine blk_alloc ?_ _)); exact BK364.out⟩, ⟨by repeat (first | (with_reducible first | exact HB.out | apply below_alloc | apply pw_below_drewN | apply below_drew1 | refine below_set ?_ GE364.out) | exact HB.out)⟩⟩
                       ·
                        rw [if_neg c85] at H
                        exact absurd H (by simp)
                      ·
                       rw [if_neg c84] at H
                       exact absurd H (by simp)
                     ·
                      rw [if_neg c82] at H
                      exact absurd H (by simp)
                    ·
                     rw [if_neg c81] at H
                     exact absurd H (by simp)
                  ·
                   rw [if_neg c78] at H
                   have c78b0 : decide (x15_5 ≤ x5_8) = false := decide_eq_false c78
                   clear c78
                   obtain rfl := Option.some.inj H
                   go_wp2
                   go_ret
                   exact ⟨by first | rfl | (simp [errW_none, errW_some] <;> rfl) | (simp [*, errW_none, errW_some] <;> rfl), by repeat (first | (with_reducible first | exact HB.out | apply below_alloc | apply pw_below_drewN | apply below_drew1 | refine below_set ?_ GE364.out) | exact HB.out)⟩
           ·
            rw [if_neg c66] at H
            exact absurd H (by simp)
          ·
           rw [if_neg c65] at H
           exact absurd H (by simp)
    ·
     rw [if_neg c8] at H
     exact absurd H (by simp)

/-- THE ONE PURE STATEMENT of octroilaw15_RedistPaths: yours. -/
def octroilaw15_RedistPaths.Pure : Prop := ∀ (l0 : List Int), l0.length ≤ maxLen → l0.length * 8 ≤ 140737488351232 → (∀ x ∈ l0, (Lit.int .i64 x).wf = true) → ∃ k, octroilaw15_RedistPaths.f k l0 = some true
theorem octroilaw15_RedistPaths.walk (P : octroilaw15_RedistPaths.Pure) (a0 : Option Addr) (len0 cap0 : Nat) (z0 : List Int) (w : World) (w0 : (a0 = none ∧ len0 = 0 ∧ cap0 = 0 ∧ z0 = []) ∨ ∃ x, a0 = some x ∧ len0 ≤ cap0 ∧ cap0 ≤ maxLen ∧ z0.length = cap0 ∧ (∀ i, i < z0.length → w.cell? (x.add i) = some (.int .i64 (z0.getD i 0))) ∧ ∀ n ∈ z0, (Lit.int .i64 n).wf = true) (y0 : len0 * 8 ≤ 140737488351232) :
  Calls Try.prog 7 #[.slice a0 len0 cap0] w fun e w' => e = .returned (.bool true) ∧ Below w.heap.size w w' := by
 obtain ⟨l0, rfl, hr0, hm0, hw0, hc0⟩ := ReadsInt.ofRowC w0
 obtain ⟨k, h⟩ := P l0 hm0 y0 hw0
 refine (octroilaw15_RedistPaths.calls k _ _ l0 true w (Kd.C_of_reads (d := (0 : Int)) (h1 := fun _ => rfl) hr0) hc0 h).mono ?_
 rintro e w' ⟨rfl, hd⟩
 exact ⟨rfl, hd⟩

end Go.Proofs.Ytdhejpjggmikiaa.L
