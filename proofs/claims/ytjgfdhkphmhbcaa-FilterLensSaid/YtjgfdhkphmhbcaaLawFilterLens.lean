/- The given statement FilterLens: for every input the law returns true, and each argument reads afterwards as it read before. No condition beside the statement's own. -/
import Derived.Test.YtjgfdhkphmhbcaaRows
import Derived.Test.YtjgfdhkphmhbcaaLxqFilterLens
import Derived.Test.YtjgfdhkphmhbcaaPureFilterLens
import Derived.WalkKit
import Derived.ProofKit
import Derived.OpenShut
import Derived.ShutString
import Derived.ChangeOld
import Derived.Below
import Derived.SizedLaws
namespace Go.Proofs.Ytjgfdhkphmhbcaa.filterLens
open Go.ChangeShapes Go.WideShapes Go.ChangeAt Go.RowKit Go.Proofs.YtjgfdhkphmhbcaaOpen Go.Proofs.Ytjgfdhkphmhbcaa.L Go.Proofs.YtjgfdhkphmhbcaaW.PrintWords
set_option linter.unusedVariables false
theorem own : ownKnob Try.prog.godebug = none := by kernel_rfl
theorem laidOut : laidOutB Try.prog = true := by kernel_rfl
set_option maxRecDepth 100000 in
theorem lifted (os : Os) (started : os.Started) (H : Type) (enc : TypeId × Value → H) :
    ReturnsInHanded {} Try.checked os 11 .any (Rows.filterLensSpec.pre6 enc Try.prog Try.f11 Rows.filterLensRow.domain false) (Rows.filterLensSpec.post enc Try.prog Try.f11 false true false false) := by
  refine returnsInHanded_of_change_sized (C := Try.checked) own started (by kernel_rfl) Try.func11
    (ChangeSpec.witness6 (enc := enc) (C := Try.checked) false ⟨#[], #[.agg #[.bool false, .int .u32 0, .int .i64 0, .int .i64 0, .int .i64 0, .int .u16 0, .int .u16 0], .agg #[.int .u32 0, .int .i64 0]], []⟩ 8 (by kernel_rfl) (by kernel_rfl) (by kernel_rfl) (by kernel_rfl)) ?_
  intro W base args ds gs before hval0 hW hcnd hsz0 _
  have hval : ∀ (j : Nat) t v, Try.f11.params[j]? = some t → args[j]? = some v → Value.okWide Try.prog W .any base t v := hval0
  have hW' := hW
  obtain ⟨p, q, hA0, hV, rfl, hfz, hnd⟩ := hW
  have hA : DataW.TrodAll enc Try.prog W 0 (fun _ => true) true Try.f11.params.toList args.toList ds p := hA0
  rw [Try.params11] at hA hval
  obtain ⟨v0, vs0, d0, ds0, p0, q0, hargs, rfl, rfl, h0, r0⟩ := trodAll_cons hA
  obtain ⟨v1, vs1, d1, ds1, p1, q1, rfl, rfl, rfl, h1, r1⟩ := trodAll_cons r0
  obtain ⟨rfl, rfl, rfl⟩ := trodAll_nil r1
  obtain rfl : args = #[v0, v1] := by cases args; simp_all
  obtain ⟨rfl, rfl⟩ := trodVars_none hV
  have e0 := h0
  have t0 := trod_lts e0
  obtain ⟨cs0, x0, rfl, hK0, hg0⟩ := arg_struct (d := (Kd.pair Kd.bool (Kd.pair (Kd.pair (Kd.int .u32) (Kd.int .i64)) (Kd.pair (Kd.int .i64) (Kd.pair (Kd.int .i64) (Kd.pair (Kd.int .u16) (Kd.int .u16))))))) Try.underlying42 (hval 0 42 v0 rfl rfl) h0 (opens_struct Try.underlying42 (by kernel_rfl) (opensF_cons rfl (opens_bool Try.underlying4) (opensF_cons (by kernel_rfl) (opens_struct Try.underlying35 (by kernel_rfl) (opensF_cons rfl (opens_int Try.underlying33) (opensF_last (by kernel_rfl) (opens_int Try.underlying3)))) (opensF_cons (by kernel_rfl) (opens_int Try.underlying3) (opensF_cons (by kernel_rfl) (opens_int Try.underlying3) (opensF_cons (by kernel_rfl) (opens_int Try.underlying36) (opensF_last (by kernel_rfl) (opens_int Try.underlying36))))))))
  obtain ⟨a0_0, ⟨a0_1, a0_2⟩, a0_3, a0_4, a0_5, a0_6⟩ := x0
  obtain ⟨_, _, rfl, rfl, ⟨_, _, rfl, ⟨_, _, rfl, rfl, rfl⟩, ⟨_, _, rfl, rfl, ⟨_, _, rfl, rfl, ⟨_, _, rfl, rfl, rfl⟩⟩⟩⟩⟩ := hK0
  have e1 := h1
  have t1 := trod_lts e1
  obtain ⟨cs1, x1, rfl, hK1, hg1⟩ := arg_struct (d := (Kd.pair (Kd.int .u32) (Kd.int .i64))) Try.underlying35 (hval 1 35 v1 rfl rfl) h1 (opens_struct Try.underlying35 (by kernel_rfl) (opensF_cons rfl (opens_int Try.underlying33) (opensF_last (by kernel_rfl) (opens_int Try.underlying3))))
  obtain ⟨a1_0, a1_1⟩ := x1
  obtain ⟨_, _, rfl, rfl, rfl⟩ := hK1
  obtain ⟨k_, h_⟩ := Pure.FilterLens a0_0 a0_1 a0_2 a0_3 a0_4 a0_5 a0_6 a1_0 a1_1 hg0.2.1.1 hg0.2.1.2 hg0.2.2.1 hg0.2.2.2.1 hg0.2.2.2.2.1 hg0.2.2.2.2.2 hg1.1 hg1.2
  refine Calls.mono (show Calls Try.prog 11 #[.agg #[.bool a0_0, .int .u32 a0_1, .int .i64 a0_2, .int .i64 a0_3, .int .i64 a0_4, .int .u16 a0_5, .int .u16 a0_6], .agg #[.int .u32 a1_0, .int .i64 a1_1]] W _ from L.octroilaw13_FilterLens.calls k_ a0_0 a0_1 a0_2 a0_3 a0_4 a0_5 a0_6 a1_0 a1_1 true W h_) fun e W' he_ => ?_
  obtain ⟨he, bel0⟩ := he_
  have bel : Below W.heap.size W W' := bel0
  subst he
  exact ⟨_, rfl, _, _, _, [], _, [], hW', trodAll_mk1 (shut_bool Try.underlying4 _), (trodAll_cons_mk (Below.trod laidOut (by kernel_rfl) (of_decide_eq_true (by kernel_rfl)) e0 bel t0) (trodAll_cons_mk (Below.trod laidOut (by kernel_rfl) (of_decide_eq_true (by kernel_rfl)) e1 bel t1) trodAll_mk0)), rfl, bel.frame _, fun h => by cases h⟩
theorem over : Rows.filterLensRow.holds Try.pinned (OpenSpec.ofChange Rows.filterLensSpec) :=
  OpenClaim.holds_of_wide 11 Try.f11 rfl rfl rfl rfl rfl rfl rfl ⟨rfl, rfl, rfl, rfl, rfl⟩ rfl rfl rfl rfl rfl (by kernel_rfl) Try.func11 (by kernel_rfl)
    (of_decide_eq_true (by kernel_rfl)) (by unfold Func.isWrapper; first | (rw [if_pos (by decide +kernel)]; kernel_rfl) | (rw [if_neg (by decide +kernel)]; exact ⟨rfl, rfl⟩))
    (fun os started H enc _ => lifted os started H enc)
theorem proved : Rows.FilterLensSaid := over
#print axioms proved
end Go.Proofs.Ytjgfdhkphmhbcaa.filterLens
namespace Go.Proofs.Ytjgfdhkphmhbcaa
/-- The row, under a short name, for the claim. -/
theorem filterLens_holds : Rows.FilterLensSaid := filterLens.proved
end Go.Proofs.Ytjgfdhkphmhbcaa
