/- The given statement NeighDoes: for every input the law returns true, and its argument reads afterwards as it read before. No condition beside the statement's own. -/
import Derived.Test.YtchmcmioilmnpaaRows
import Derived.Test.YtchmcmioilmnpaaLxo
import Derived.Test.YtchmcmioilmnpaaNeighDoes
import Derived.WalkKit
import Derived.ProofKit
import Derived.OpenShut
import Derived.ShutString
import Derived.ChangeOld
import Derived.Below
import Derived.SizedLaws
namespace Go.Proofs.Ytchmcmioilmnpaa.neighDoes
open Go.ChangeShapes Go.WideShapes Go.ChangeAt Go.RowKit Go.Proofs.YtchmcmioilmnpaaOpen Go.Proofs.Ytchmcmioilmnpaa.L Go.Proofs.YtchmcmioilmnpaaW.PrintWords
set_option linter.unusedVariables false
theorem own : ownKnob Try.prog.godebug = none := by kernel_rfl
theorem laidOut : laidOutB Try.prog = true := by kernel_rfl
set_option maxRecDepth 100000 in
theorem lifted (os : Os) (started : os.Started) (H : Type) (enc : TypeId × Value → H) :
    ReturnsInHanded {} Try.checked os 3 .any (Rows.neighDoesSpec.pre6 enc Try.prog Try.f3 Rows.neighDoesRow.domain false) (Rows.neighDoesSpec.post enc Try.prog Try.f3 false true false false) := by
  refine returnsInHanded_of_change_sized (C := Try.checked) own started (by kernel_rfl) Try.func3
    (ChangeSpec.witness6 (enc := enc) (C := Try.checked) false ⟨#[], #[.slice none 0 0], []⟩ 8 (by kernel_rfl) (by kernel_rfl) (by kernel_rfl) (by kernel_rfl)) ?_
  intro W base args ds gs before hval0 hW hcnd hsz0 _
  have hval : ∀ (j : Nat) t v, Try.f3.params[j]? = some t → args[j]? = some v → Value.okWide Try.prog W .any base t v := hval0
  have hW' := hW
  obtain ⟨p, q, hA0, hV, rfl, hfz, hnd⟩ := hW
  have hA : DataW.TrodAll enc Try.prog W 0 (fun _ => true) true Try.f3.params.toList args.toList ds p := hA0
  rw [Try.params3] at hA hval
  obtain ⟨v0, vs0, d0, ds0, p0, q0, hargs, rfl, rfl, h0, r0⟩ := trodAll_cons hA
  obtain ⟨rfl, rfl, rfl⟩ := trodAll_nil r0
  obtain rfl : args = #[v0] := by cases args; simp_all
  obtain ⟨rfl, rfl⟩ := trodVars_none hV
  have e0 := h0
  have t0 := trod_lts e0
  obtain ⟨A0, c0, l0, rfl, hc0, hr0, hg0⟩ := arg_slice Try.underlying22 (hval 0 22 v0 rfl rfl) h0 (opens_slice Try.underlying22 (by kernel_rfl) opens29)
  refine Calls.mono (show Calls Try.prog 3 #[.slice A0 l0.length c0] W _ from L.octroilaw11_NeighDoes.calls _ _ l0 W hr0 hc0) fun e W' he_ => ?_
  obtain ⟨he, bel0⟩ := he_
  have bel : Below W.heap.size W W' := bel0
  subst he
  exact ⟨_, rfl, _, _, _, [], _, [], hW', trodAll_mk1 (shut_bool Try.underlying4 _), (trodAll_cons_mk (Below.trod laidOut (by kernel_rfl) (of_decide_eq_true (by kernel_rfl)) e0 bel t0) trodAll_mk0), rfl, bel.frame _, fun h => by cases h⟩
theorem over : Rows.neighDoesRow.holds Try.pinned (OpenSpec.ofChange Rows.neighDoesSpec) :=
  OpenClaim.holds_of_wide 3 Try.f3 rfl rfl rfl rfl rfl rfl rfl ⟨rfl, rfl, rfl, rfl, rfl⟩ rfl rfl rfl rfl rfl (by kernel_rfl) Try.func3 (by kernel_rfl)
    (of_decide_eq_true (by kernel_rfl)) (by unfold Func.isWrapper; first | (rw [if_pos (by decide +kernel)]; kernel_rfl) | (rw [if_neg (by decide +kernel)]; exact ⟨rfl, rfl⟩))
    (fun os started H enc _ => lifted os started H enc)
theorem proved : Rows.NeighDoesSaid := over
#print axioms proved
end Go.Proofs.Ytchmcmioilmnpaa.neighDoes
namespace Go.Proofs.Ytchmcmioilmnpaa
/-- The row, under a short name, for the claim. -/
theorem neighDoes_holds : Rows.NeighDoesSaid := neighDoes.proved
end Go.Proofs.Ytchmcmioilmnpaa
