/- The given statement FilterFirst: for every input the law returns true, and each argument reads afterwards as it read before. No condition beside the statement's own. -/
import Derived.Test.YtjgfdhkphmhbcaaRows
import Derived.Test.YtjgfdhkphmhbcaaLxqFilterFirst
import Derived.Test.YtjgfdhkphmhbcaaPureFilterFirst
import Derived.WalkKit
import Derived.ProofKit
import Derived.OpenShut
import Derived.ShutString
import Derived.ChangeOld
import Derived.Below
import Derived.SizedLaws
namespace Go.Proofs.Ytjgfdhkphmhbcaa.filterFirst
open Go.ChangeShapes Go.WideShapes Go.ChangeAt Go.RowKit Go.Proofs.YtjgfdhkphmhbcaaOpen Go.Proofs.Ytjgfdhkphmhbcaa.L Go.Proofs.YtjgfdhkphmhbcaaW.PrintWords
set_option linter.unusedVariables false
theorem own : ownKnob Try.prog.godebug = none := by kernel_rfl
theorem laidOut : laidOutB Try.prog = true := by kernel_rfl
set_option maxRecDepth 100000 in
theorem lifted (os : Os) (started : os.Started) (H : Type) (enc : TypeId × Value → H) :
    ReturnsInHanded {} Try.checked os 8 .any (Rows.filterFirstSpec.pre6 enc Try.prog Try.f8 Rows.filterFirstRow.domain false) (Rows.filterFirstSpec.post enc Try.prog Try.f8 false true false false) := by
  refine returnsInHanded_of_change_sized (C := Try.checked) own started (by kernel_rfl) Try.func8
    (ChangeSpec.witness6 (enc := enc) (C := Try.checked) false ⟨#[], #[.slice none 0 0, .slice none 0 0, .agg #[.int .u32 0, .int .i64 0], .int .u16 0], []⟩ 8 (by kernel_rfl) (by kernel_rfl) (by kernel_rfl) (by kernel_rfl)) ?_
  intro W base args ds gs before hval0 hW hcnd hsz0 _
  have hval : ∀ (j : Nat) t v, Try.f8.params[j]? = some t → args[j]? = some v → Value.okWide Try.prog W .any base t v := hval0
  have hW' := hW
  obtain ⟨p, q, hA0, hV, rfl, hfz, hnd⟩ := hW
  have hA : DataW.TrodAll enc Try.prog W 0 (fun _ => true) true Try.f8.params.toList args.toList ds p := hA0
  rw [Try.params8] at hA hval
  obtain ⟨v0, vs0, d0, ds0, p0, q0, hargs, rfl, rfl, h0, r0⟩ := trodAll_cons hA
  obtain ⟨v1, vs1, d1, ds1, p1, q1, rfl, rfl, rfl, h1, r1⟩ := trodAll_cons r0
  obtain ⟨v2, vs2, d2, ds2, p2, q2, rfl, rfl, rfl, h2, r2⟩ := trodAll_cons r1
  obtain ⟨v3, vs3, d3, ds3, p3, q3, rfl, rfl, rfl, h3, r3⟩ := trodAll_cons r2
  obtain ⟨rfl, rfl, rfl⟩ := trodAll_nil r3
  obtain rfl : args = #[v0, v1, v2, v3] := by cases args; simp_all
  obtain ⟨rfl, rfl⟩ := trodVars_none hV
  have e0 := h0
  have t0 := trod_lts e0
  obtain ⟨A0, c0, l0, rfl, hc0, hr0, hg0⟩ := arg_slice Try.underlying32 (hval 0 32 v0 rfl rfl) h0 (opens_slice Try.underlying32 (by kernel_rfl) opens42)
  have e1 := h1
  have t1 := trod_lts e1
  obtain ⟨A1, c1, l1, rfl, hc1, hr1, hg1⟩ := arg_slice Try.underlying32 (hval 1 32 v1 rfl rfl) h1 (opens_slice Try.underlying32 (by kernel_rfl) opens42)
  have e2 := h2
  have t2 := trod_lts e2
  obtain ⟨cs2, x2, rfl, hK2, hg2⟩ := arg_struct (d := (Kd.pair (Kd.int .u32) (Kd.int .i64))) Try.underlying35 (hval 2 35 v2 rfl rfl) h2 (opens_struct Try.underlying35 (by kernel_rfl) (opensF_cons rfl (opens_int Try.underlying33) (opensF_last (by kernel_rfl) (opens_int Try.underlying3))))
  obtain ⟨a2_0, a2_1⟩ := x2
  obtain ⟨_, _, rfl, rfl, rfl⟩ := hK2
  obtain ⟨a3, rfl, rfl, rfl, w3⟩ := open_int Try.underlying36 (hval 3 36 v3 rfl rfl) h3
  obtain ⟨k_, h_⟩ := Pure.FilterFirst l0 l1 a2_0 a2_1 a3 hg0.1 hg0.2 hg1.1 hg1.2 hg2.1 hg2.2 w3
  refine Calls.mono (show Calls Try.prog 8 #[.slice A0 l0.length c0, .slice A1 l1.length c1, .agg #[.int .u32 a2_0, .int .i64 a2_1], .int .u16 a3] W _ from L.octroilaw13_FilterFirst.calls k_ _ _ l0 _ _ l1 a2_0 a2_1 a3 true W hr0 hc0 hr1 hc1 h_) fun e W' he_ => ?_
  obtain ⟨he, bel0⟩ := he_
  have bel : Below W.heap.size W W' := bel0
  subst he
  exact ⟨_, rfl, _, _, _, [], _, [], hW', trodAll_mk1 (shut_bool Try.underlying4 _), (trodAll_cons_mk (Below.trod laidOut (by kernel_rfl) (of_decide_eq_true (by kernel_rfl)) e0 bel t0) (trodAll_cons_mk (Below.trod laidOut (by kernel_rfl) (of_decide_eq_true (by kernel_rfl)) e1 bel t1) (trodAll_cons_mk (Below.trod laidOut (by kernel_rfl) (of_decide_eq_true (by kernel_rfl)) e2 bel t2) (trodAll_cons_mk (shut_int Try.underlying36 w3) trodAll_mk0)))), rfl, bel.frame _, fun h => by cases h⟩
theorem over : Rows.filterFirstRow.holds Try.pinned (OpenSpec.ofChange Rows.filterFirstSpec) :=
  OpenClaim.holds_of_wide 8 Try.f8 rfl rfl rfl rfl rfl rfl rfl ⟨rfl, rfl, rfl, rfl, rfl⟩ rfl rfl rfl rfl rfl (by kernel_rfl) Try.func8 (by kernel_rfl)
    (of_decide_eq_true (by kernel_rfl)) (by unfold Func.isWrapper; first | (rw [if_pos (by decide +kernel)]; kernel_rfl) | (rw [if_neg (by decide +kernel)]; exact ⟨rfl, rfl⟩))
    (fun os started H enc _ => lifted os started H enc)
theorem proved : Rows.FilterFirstSaid := over
#print axioms proved
end Go.Proofs.Ytjgfdhkphmhbcaa.filterFirst
namespace Go.Proofs.Ytjgfdhkphmhbcaa
/-- The row, under a short name, for the claim. -/
theorem filterFirst_holds : Rows.FilterFirstSaid := filterFirst.proved
end Go.Proofs.Ytjgfdhkphmhbcaa
