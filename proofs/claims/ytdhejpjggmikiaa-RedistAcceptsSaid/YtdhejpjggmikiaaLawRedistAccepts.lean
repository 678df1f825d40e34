/- The given statement RedistAccepts: for every input the law returns true, and each argument reads afterwards as it read before. No condition beside the statement's own. -/
import Derived.Test.YtdhejpjggmikiaaRows
import Derived.Test.YtdhejpjggmikiaaLxqRedistAccepts
import Derived.Test.YtdhejpjggmikiaaPureRedistAccepts
import Derived.WalkKit
import Derived.ProofKit
import Derived.OpenShut
import Derived.ShutString
import Derived.ChangeOld
import Derived.Below
import Derived.SizedLaws
namespace Go.Proofs.Ytdhejpjggmikiaa.redistAccepts
open Go.ChangeShapes Go.WideShapes Go.ChangeAt Go.RowKit Go.Proofs.YtdhejpjggmikiaaOpen Go.Proofs.Ytdhejpjggmikiaa.L Go.Proofs.YtdhejpjggmikiaaW.PrintWords
set_option linter.unusedVariables false
theorem own : ownKnob Try.prog.godebug = none := by kernel_rfl
theorem laidOut : laidOutB Try.prog = true := by kernel_rfl
set_option maxRecDepth 100000 in
theorem lifted (os : Os) (started : os.Started) (H : Type) (enc : TypeId × Value → H) :
    ReturnsInHanded {} Try.checked os 5 .any (Rows.redistAcceptsSpec.pre6 enc Try.prog Try.f5 Rows.redistAcceptsRow.domain false) (Rows.redistAcceptsSpec.post enc Try.prog Try.f5 false true false false) := by
  refine returnsInHanded_of_change_sized (C := Try.checked) own started (by kernel_rfl) Try.func5
    (ChangeSpec.witness6 (enc := enc) (C := Try.checked) false ⟨#[], #[.int .i64 0, .agg #[.int .u32 0, .int .i64 0, .int .i64 0, .int .i64 0, .int .i64 0, .int .i64 0, .int .u16 0], .int .i64 0, .bool false], []⟩ 8 (by kernel_rfl) (by kernel_rfl) (by kernel_rfl) (by kernel_rfl)) ?_
  intro W base args ds gs before hval0 hW hcnd hsz0 _
  have hval : ∀ (j : Nat) t v, Try.f5.params[j]? = some t → args[j]? = some v → Value.okWide Try.prog W .any base t v := hval0
  have hW' := hW
  obtain ⟨p, q, hA0, hV, rfl, hfz, hnd⟩ := hW
  have hA : DataW.TrodAll enc Try.prog W 0 (fun _ => true) true Try.f5.params.toList args.toList ds p := hA0
  rw [Try.params5] at hA hval
  obtain ⟨v0, vs0, d0, ds0, p0, q0, hargs, rfl, rfl, h0, r0⟩ := trodAll_cons hA
  obtain ⟨v1, vs1, d1, ds1, p1, q1, rfl, rfl, rfl, h1, r1⟩ := trodAll_cons r0
  obtain ⟨v2, vs2, d2, ds2, p2, q2, rfl, rfl, rfl, h2, r2⟩ := trodAll_cons r1
  obtain ⟨v3, vs3, d3, ds3, p3, q3, rfl, rfl, rfl, h3, r3⟩ := trodAll_cons r2
  obtain ⟨rfl, rfl, rfl⟩ := trodAll_nil r3
  obtain rfl : args = #[v0, v1, v2, v3] := by cases args; simp_all
  obtain ⟨rfl, rfl⟩ := trodVars_none hV
  obtain ⟨a0, rfl, rfl, rfl, w0⟩ := open_int Try.underlying3 (hval 0 3 v0 rfl rfl) h0
  have e1 := h1
  have t1 := trod_lts e1
  obtain ⟨cs1, x1, rfl, hK1, hg1⟩ := arg_struct (d := (Kd.pair (Kd.pair (Kd.int .u32) (Kd.int .i64)) (Kd.pair (Kd.int .i64) (Kd.pair (Kd.int .i64) (Kd.pair (Kd.int .i64) (Kd.pair (Kd.int .i64) (Kd.int .u16))))))) Try.underlying31 (hval 1 31 v1 rfl rfl) h1 (opens_struct Try.underlying31 (by kernel_rfl) (opensF_cons rfl (opens_struct Try.underlying28 (by kernel_rfl) (opensF_cons rfl (opens_int Try.underlying26) (opensF_last (by kernel_rfl) (opens_int Try.underlying3)))) (opensF_cons (by kernel_rfl) (opens_int Try.underlying3) (opensF_cons (by kernel_rfl) (opens_int Try.underlying3) (opensF_cons (by kernel_rfl) (opens_int Try.underlying3) (opensF_cons (by kernel_rfl) (opens_int Try.underlying3) (opensF_last (by kernel_rfl) (opens_int Try.underlying29))))))))
  obtain ⟨⟨a1_0, a1_1⟩, a1_2, a1_3, a1_4, a1_5, a1_6⟩ := x1
  obtain ⟨_, _, rfl, ⟨_, _, rfl, rfl, rfl⟩, ⟨_, _, rfl, rfl, ⟨_, _, rfl, rfl, ⟨_, _, rfl, rfl, ⟨_, _, rfl, rfl, rfl⟩⟩⟩⟩⟩ := hK1
  obtain ⟨a2, rfl, rfl, rfl, w2⟩ := open_int Try.underlying3 (hval 2 3 v2 rfl rfl) h2
  obtain ⟨a3, rfl, rfl, rfl⟩ := open_bool Try.underlying4 (hval 3 4 v3 rfl rfl) h3
  obtain ⟨k_, h_⟩ := Pure.RedistAccepts a0 a1_0 a1_1 a1_2 a1_3 a1_4 a1_5 a1_6 a2 a3 w0 hg1.1.1 hg1.1.2 hg1.2.1 hg1.2.2.1 hg1.2.2.2.1 hg1.2.2.2.2.1 hg1.2.2.2.2.2 w2
  refine Calls.mono (show Calls Try.prog 5 #[.int .i64 a0, .agg #[.int .u32 a1_0, .int .i64 a1_1, .int .i64 a1_2, .int .i64 a1_3, .int .i64 a1_4, .int .i64 a1_5, .int .u16 a1_6], .int .i64 a2, .bool a3] W _ from L.octroilaw15_RedistAccepts.calls k_ a0 a1_0 a1_1 a1_2 a1_3 a1_4 a1_5 a1_6 a2 a3 true W h_) fun e W' he_ => ?_
  obtain ⟨he, bel0⟩ := he_
  have bel : Below W.heap.size W W' := bel0
  subst he
  exact ⟨_, rfl, _, _, _, [], _, [], hW', trodAll_mk1 (shut_bool Try.underlying4 _), (trodAll_cons_mk (shut_int Try.underlying3 w0) (trodAll_cons_mk (Below.trod laidOut (by kernel_rfl) (of_decide_eq_true (by kernel_rfl)) e1 bel t1) (trodAll_cons_mk (shut_int Try.underlying3 w2) (trodAll_cons_mk (shut_bool Try.underlying4 _) trodAll_mk0)))), rfl, bel.frame _, fun h => by cases h⟩
theorem over : Rows.redistAcceptsRow.holds Try.pinned (OpenSpec.ofChange Rows.redistAcceptsSpec) :=
  OpenClaim.holds_of_wide 5 Try.f5 rfl rfl rfl rfl rfl rfl rfl ⟨rfl, rfl, rfl, rfl, rfl⟩ rfl rfl rfl rfl rfl (by kernel_rfl) Try.func5 (by kernel_rfl)
    (of_decide_eq_true (by kernel_rfl)) (by unfold Func.isWrapper; first | (rw [if_pos (by decide +kernel)]; kernel_rfl) | (rw [if_neg (by decide +kernel)]; exact ⟨rfl, rfl⟩))
    (fun os started H enc _ => lifted os started H enc)
theorem proved : Rows.RedistAcceptsSaid := over
#print axioms proved
end Go.Proofs.Ytdhejpjggmikiaa.redistAccepts
namespace Go.Proofs.Ytdhejpjggmikiaa
/-- The row, under a short name, for the claim. -/
theorem redistAccepts_holds : Rows.RedistAcceptsSaid := redistAccepts.proved
end Go.Proofs.Ytdhejpjggmikiaa
