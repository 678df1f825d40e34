/- The given statement FilterPermits: for every input the law returns true, and each argument reads afterwards as it read before. No condition beside the statement's own. -/
import Derived.Test.YtjgfdhkphmhbcaaRows
import Derived.Test.YtjgfdhkphmhbcaaLxqFilterPermits
import Derived.Test.YtjgfdhkphmhbcaaPureFilterPermits
import Derived.WalkKit
import Derived.ProofKit
import Derived.OpenShut
import Derived.ShutString
import Derived.ChangeOld
import Derived.Below
import Derived.SizedLaws
namespace Go.Proofs.Ytjgfdhkphmhbcaa.filterPermits
open Go.ChangeShapes Go.WideShapes Go.ChangeAt Go.RowKit Go.Proofs.YtjgfdhkphmhbcaaOpen Go.Proofs.Ytjgfdhkphmhbcaa.L Go.Proofs.YtjgfdhkphmhbcaaW.PrintWords
set_option linter.unusedVariables false
theorem own : ownKnob Try.prog.godebug = none := by kernel_rfl
theorem laidOut : laidOutB Try.prog = true := by kernel_rfl
set_option maxRecDepth 100000 in
theorem lifted (os : Os) (started : os.Started) (H : Type) (enc : TypeId × Value → H) :
    ReturnsInHanded {} Try.checked os 7 .any (Rows.filterPermitsSpec.pre6 enc Try.prog Try.f7 Rows.filterPermitsRow.domain false) (Rows.filterPermitsSpec.post enc Try.prog Try.f7 false true false false) := by
  refine returnsInHanded_of_change_sized (C := Try.checked) own started (by kernel_rfl) Try.func7
    (ChangeSpec.witness6 (enc := enc) (C := Try.checked) false ⟨#[], #[.slice none 0 0, .agg #[.int .u32 0, .int .i64 0], .int .u16 0], []⟩ 8 (by kernel_rfl) (by kernel_rfl) (by kernel_rfl) (by kernel_rfl)) ?_
  intro W base args ds gs before hval0 hW hcnd hsz0 _
  have hval : ∀ (j : Nat) t v, Try.f7.params[j]? = some t → args[j]? = some v → Value.okWide Try.prog W .any base t v := hval0
  have hW' := hW
  obtain ⟨p, q, hA0, hV, rfl, hfz, hnd⟩ := hW
  have hA : DataW.TrodAll enc Try.prog W 0 (fun _ => true) true Try.f7.params.toList args.toList ds p := hA0
  rw [Try.params7] at hA hval
  obtain ⟨v0, vs0, d0, ds0, p0, q0, hargs, rfl, rfl, h0, r0⟩ := trodAll_cons hA
  obtain ⟨v1, vs1, d1, ds1, p1, q1, rfl, rfl, rfl, h1, r1⟩ := trodAll_cons r0
  obtain ⟨v2, vs2, d2, ds2, p2, q2, rfl, rfl, rfl, h2, r2⟩ := trodAll_cons r1
  obtain ⟨rfl, rfl, rfl⟩ := trodAll_nil r2
  obtain rfl : args = #[v0, v1, v2] := by cases args; simp_all
  obtain ⟨rfl, rfl⟩ := trodVars_none hV
  have e0 := h0
  have t0 := trod_lts e0
  obtain ⟨A0, c0, l0, rfl, hc0, hr0, hg0⟩ := arg_slice Try.underlying32 (hval 0 32 v0 rfl rfl) h0 (opens_slice Try.underlying32 (by kernel_rfl) opens42)
  have e1 := h1
  have t1 := trod_lts e1
  obtain ⟨cs1, x1, rfl, hK1, hg1⟩ := arg_struct (d := (Kd.pair (Kd.int .u32) (Kd.int .i64))) Try.underlying35 (hval 1 35 v1 rfl rfl) h1 (opens_struct Try.underlying35 (by kernel_rfl) (opensF_cons rfl (opens_int Try.underlying33) (opensF_last (by kernel_rfl) (opens_int Try.underlying3))))
  obtain ⟨a1_0, a1_1⟩ := x1
  obtain ⟨_, _, rfl, rfl, rfl⟩ := hK1
  obtain ⟨a2, rfl, rfl, rfl, w2⟩ := open_int Try.underlying36 (hval 2 36 v2 rfl rfl) h2
  obtain ⟨k_, h_⟩ := Pure.FilterPermits l0 a1_0 a1_1 a2 hg0.1 hg0.2 hg1.1 hg1.2 w2
  refine Calls.mono (show Calls Try.prog 7 #[.slice A0 l0.length c0, .agg #[.int .u32 a1_0, .int .i64 a1_1], .int .u16 a2] W _ from L.octroilaw13_FilterPermits.calls k_ _ _ l0 a1_0 a1_1 a2 true W hr0 hc0 h_) fun e W' he_ => ?_
  obtain ⟨he, bel0⟩ := he_
  have bel : Below W.heap.size W W' := bel0
  subst he
  exact ⟨_, rfl, _, _, _, [], _, [], hW', trodAll_mk1 (shut_bool Try.underlying4 _), (trodAll_cons_mk (Below.trod laidOut (by kernel_rfl) (of_decide_eq_true (by kernel_rfl)) e0 bel t0) (trodAll_cons_mk (Below.trod laidOut (by kernel_rfl) (of_decide_eq_true (by kernel_rfl)) e1 bel t1) (trodAll_cons_mk (shut_int Try.underlying36 w2) trodAll_mk0))), rfl, bel.frame _, fun h => by cases h⟩
theorem over : Rows.filterPermitsRow.holds Try.pinned (OpenSpec.ofChange Rows.filterPermitsSpec) :=
  OpenClaim.holds_of_wide 7 Try.f7 rfl rfl rfl rfl rfl rfl rfl ⟨rfl, rfl, rfl, rfl, rfl⟩ rfl rfl rfl rfl rfl (by kernel_rfl) Try.func7 (by kernel_rfl)
    (of_decide_eq_true (by kernel_rfl)) (by unfold Func.isWrapper; first | (rw [if_pos (by decide +kernel)]; kernel_rfl) | (rw [if_neg (by decide +kernel)]; exact ⟨rfl, rfl⟩))
    (fun os started H enc _ => lifted os started H enc)
theorem proved : Rows.FilterPermitsSaid := over
#print axioms proved
end Go.Proofs.Ytjgfdhkphmhbcaa.filterPermits
namespace Go.Proofs.Ytjgfdhkphmhbcaa
/-- The row, under a short name, for the claim. -/
theorem filterPermits_holds : Rows.FilterPermitsSaid := filterPermits.proved
end Go.Proofs.Ytjgfdhkphmhbcaa
