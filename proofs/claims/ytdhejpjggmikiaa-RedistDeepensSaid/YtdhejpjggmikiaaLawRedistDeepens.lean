/- The given statement RedistDeepens: for every input the law returns true, and each argument reads afterwards as it read before. No condition beside the statement's own. -/
import Derived.Test.YtdhejpjggmikiaaRows
import Derived.Test.YtdhejpjggmikiaaLxqRedistDeepens
import Derived.Test.YtdhejpjggmikiaaPureRedistDeepens
import Derived.WalkKit
import Derived.ProofKit
import Derived.OpenShut
import Derived.ShutString
import Derived.ChangeOld
import Derived.Below
import Derived.SizedLaws
namespace Go.Proofs.Ytdhejpjggmikiaa.redistDeepens
open Go.ChangeShapes Go.WideShapes Go.ChangeAt Go.RowKit Go.Proofs.YtdhejpjggmikiaaOpen Go.Proofs.Ytdhejpjggmikiaa.L Go.Proofs.YtdhejpjggmikiaaW.PrintWords
set_option linter.unusedVariables false
theorem own : ownKnob Try.prog.godebug = none := by kernel_rfl
theorem laidOut : laidOutB Try.prog = true := by kernel_rfl
set_option maxRecDepth 100000 in
theorem lifted (os : Os) (started : os.Started) (H : Type) (enc : TypeId × Value → H) :
    ReturnsInHanded {} Try.checked os 6 .any (Rows.redistDeepensSpec.pre6 enc Try.prog Try.f6 Rows.redistDeepensRow.domain false) (Rows.redistDeepensSpec.post enc Try.prog Try.f6 false true false false) := by
  refine returnsInHanded_of_change_sized (C := Try.checked) own started (by kernel_rfl) Try.func6
    (ChangeSpec.witness6 (enc := enc) (C := Try.checked) false ⟨#[], #[.agg #[.int .i64 0, .int .i64 0, .slice none 0 0, .slice none 0 0, .int .i64 0], .agg #[.int .u32 0, .int .i64 0, .int .i64 0, .int .i64 0, .int .i64 0, .int .i64 0, .int .u16 0]], []⟩ 8 (by kernel_rfl) (by kernel_rfl) (by kernel_rfl) (by kernel_rfl)) ?_
  intro W base args ds gs before hval0 hW hcnd hsz0 _
  have hval : ∀ (j : Nat) t v, Try.f6.params[j]? = some t → args[j]? = some v → Value.okWide Try.prog W .any base t v := hval0
  have hW' := hW
  obtain ⟨p, q, hA0, hV, rfl, hfz, hnd⟩ := hW
  have hA : DataW.TrodAll enc Try.prog W 0 (fun _ => true) true Try.f6.params.toList args.toList ds p := hA0
  rw [Try.params6] at hA hval
  obtain ⟨v0, vs0, d0, ds0, p0, q0, hargs, rfl, rfl, h0, r0⟩ := trodAll_cons hA
  obtain ⟨v1, vs1, d1, ds1, p1, q1, rfl, rfl, rfl, h1, r1⟩ := trodAll_cons r0
  obtain ⟨rfl, rfl, rfl⟩ := trodAll_nil r1
  obtain rfl : args = #[v0, v1] := by cases args; simp_all
  obtain ⟨rfl, rfl⟩ := trodVars_none hV
  have e0 := h0
  have t0 := trod_lts e0
  obtain ⟨cs0, x0, rfl, hK0, hg0⟩ := arg_struct (d := (Kd.pair (Kd.int .i64) (Kd.pair (Kd.int .i64) (Kd.pair (Kd.slice 61 k61) (Kd.pair (Kd.slice 64 k64) (Kd.int .i64)))))) Try.underlying25 (hval 0 25 v0 rfl rfl) h0 (opens_struct Try.underlying25 (by kernel_rfl) (opensF_cons rfl (opens_int Try.underlying3) (opensF_cons (by kernel_rfl) (opens_int Try.underlying3) (opensF_cons (by kernel_rfl) (opens_slice Try.underlying22 (by kernel_rfl) opens61) (opensF_cons (by kernel_rfl) (opens_slice Try.underlying23 (by kernel_rfl) opens64) (opensF_last (by kernel_rfl) (opens_int Try.underlying3)))))))
  obtain ⟨a0_0, a0_1, l0_2, l0_3, a0_4⟩ := x0
  obtain ⟨_, _, rfl, rfl, ⟨_, _, rfl, rfl, ⟨_, _, rfl, ⟨A0_2, c0_2, rfl, hc0_2, hr0_2⟩, ⟨_, _, rfl, ⟨A0_3, c0_3, rfl, hc0_3, hr0_3⟩, rfl⟩⟩⟩⟩ := hK0
  have e1 := h1
  have t1 := trod_lts e1
  obtain ⟨cs1, x1, rfl, hK1, hg1⟩ := arg_struct (d := (Kd.pair (Kd.pair (Kd.int .u32) (Kd.int .i64)) (Kd.pair (Kd.int .i64) (Kd.pair (Kd.int .i64) (Kd.pair (Kd.int .i64) (Kd.pair (Kd.int .i64) (Kd.int .u16))))))) Try.underlying31 (hval 1 31 v1 rfl rfl) h1 (opens_struct Try.underlying31 (by kernel_rfl) (opensF_cons rfl (opens_struct Try.underlying28 (by kernel_rfl) (opensF_cons rfl (opens_int Try.underlying26) (opensF_last (by kernel_rfl) (opens_int Try.underlying3)))) (opensF_cons (by kernel_rfl) (opens_int Try.underlying3) (opensF_cons (by kernel_rfl) (opens_int Try.underlying3) (opensF_cons (by kernel_rfl) (opens_int Try.underlying3) (opensF_cons (by kernel_rfl) (opens_int Try.underlying3) (opensF_last (by kernel_rfl) (opens_int Try.underlying29))))))))
  obtain ⟨⟨a1_0, a1_1⟩, a1_2, a1_3, a1_4, a1_5, a1_6⟩ := x1
  obtain ⟨_, _, rfl, ⟨_, _, rfl, rfl, rfl⟩, ⟨_, _, rfl, rfl, ⟨_, _, rfl, rfl, ⟨_, _, rfl, rfl, ⟨_, _, rfl, rfl, rfl⟩⟩⟩⟩⟩ := hK1
  obtain ⟨k_, h_⟩ := Pure.RedistDeepens a0_0 a0_1 l0_2 l0_3 a0_4 a1_0 a1_1 a1_2 a1_3 a1_4 a1_5 a1_6 hg0.1 hg0.2.1 hg0.2.2.1.1 hg0.2.2.1.2 hg0.2.2.2.1.1 hg0.2.2.2.1.2 hg0.2.2.2.2 hg1.1.1 hg1.1.2 hg1.2.1 hg1.2.2.1 hg1.2.2.2.1 hg1.2.2.2.2.1 hg1.2.2.2.2.2
  refine Calls.mono (show Calls Try.prog 6 #[.agg #[.int .i64 a0_0, .int .i64 a0_1, .slice A0_2 l0_2.length c0_2, .slice A0_3 l0_3.length c0_3, .int .i64 a0_4], .agg #[.int .u32 a1_0, .int .i64 a1_1, .int .i64 a1_2, .int .i64 a1_3, .int .i64 a1_4, .int .i64 a1_5, .int .u16 a1_6]] W _ from L.octroilaw15_RedistDeepens.calls k_ a0_0 a0_1 _ _ l0_2 _ _ l0_3 a0_4 a1_0 a1_1 a1_2 a1_3 a1_4 a1_5 a1_6 true W hr0_2 hc0_2 hr0_3 hc0_3 h_) fun e W' he_ => ?_
  obtain ⟨he, bel0⟩ := he_
  have bel : Below W.heap.size W W' := bel0
  subst he
  exact ⟨_, rfl, _, _, _, [], _, [], hW', trodAll_mk1 (shut_bool Try.underlying4 _), (trodAll_cons_mk (Below.trod laidOut (by kernel_rfl) (of_decide_eq_true (by kernel_rfl)) e0 bel t0) (trodAll_cons_mk (Below.trod laidOut (by kernel_rfl) (of_decide_eq_true (by kernel_rfl)) e1 bel t1) trodAll_mk0)), rfl, bel.frame _, fun h => by cases h⟩
theorem over : Rows.redistDeepensRow.holds Try.pinned (OpenSpec.ofChange Rows.redistDeepensSpec) :=
  OpenClaim.holds_of_wide 6 Try.f6 rfl rfl rfl rfl rfl rfl rfl ⟨rfl, rfl, rfl, rfl, rfl⟩ rfl rfl rfl rfl rfl (by kernel_rfl) Try.func6 (by kernel_rfl)
    (of_decide_eq_true (by kernel_rfl)) (by unfold Func.isWrapper; first | (rw [if_pos (by decide +kernel)]; kernel_rfl) | (rw [if_neg (by decide +kernel)]; exact ⟨rfl, rfl⟩))
    (fun os started H enc _ => lifted os started H enc)
theorem proved : Rows.RedistDeepensSaid := over
#print axioms proved
end Go.Proofs.Ytdhejpjggmikiaa.redistDeepens
namespace Go.Proofs.Ytdhejpjggmikiaa
/-- The row, under a short name, for the claim. -/
theorem redistDeepens_holds : Rows.RedistDeepensSaid := redistDeepens.proved
end Go.Proofs.Ytdhejpjggmikiaa
