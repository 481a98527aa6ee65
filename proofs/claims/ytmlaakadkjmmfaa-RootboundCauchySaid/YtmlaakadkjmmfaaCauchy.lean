import Derived.WalkKit
import Derived.Orders
import Derived.Below
import Derived.Laws.AppendOwn
import Derived.Calls
import Derived.OpenShut
import Derived.ChangeArms
import Derived.ChangeShapes
import Derived.WideShapes
import Derived.KernelRfl
import Derived.JoinedOf
import Derived.Scope
import Derived.ProofKit
import Derived.ShutString
import Derived.ChangeOld
import Derived.SizedLaws
import Derived.Test.YtmlaakadkjmmfaaProg
import Derived.Test.YtmlaakadkjmmfaaRows
import Derived.Test.YtmlaakadkjmmfaaCauchyx0
import Derived.Test.YtmlaakadkjmmfaaCauchyx1
import Derived.Test.YtmlaakadkjmmfaaCauchyx2
import Derived.Test.YtmlaakadkjmmfaaCauchyx3
import Derived.Test.YtmlaakadkjmmfaaCauchyx4
/- The bounds of Cauchy, their logarithm and the lower bound are those of the reference, for every list of coefficients. -/
namespace Go.Proofs.Ytmlaakadkjmmfaa.rootboundCauchy
open Go.ChangeShapes Go.WideShapes Go.ChangeAt Go.RowKit Go.Abs
set_option linter.unusedVariables false
theorem own : ownKnob Try.prog.godebug = none := by kernel_rfl
set_option maxRecDepth 100000 in
theorem lifted (os : Os) (started : os.Started) (H : Type) (enc : TypeId × Value → H) :
    ReturnsInHanded {} Try.checked os 14 .any (Rows.rootboundCauchySpec.pre6 enc Try.prog Try.f14 Rows.rootboundCauchyRow.domain false) (Rows.rootboundCauchySpec.post enc Try.prog Try.f14 false true false false) := by
  refine returnsInHanded_of_change_sized (C := Try.checked) own started (by kernel_rfl) Try.func14
    (ChangeSpec.witness6 (enc := enc) (C := Try.checked) false ⟨#[], #[.slice none 0 0], []⟩ 8 (by kernel_rfl) (by kernel_rfl) (by kernel_rfl) (by kernel_rfl)) ?_
  intro W base args ds gs before hval0 hW hcnd hsz0 _
  have hval : ∀ (j : Nat) t v, Try.f14.params[j]? = some t → args[j]? = some v → Value.okWide Try.prog W .any base t v := hval0
  have hW' := hW
  obtain ⟨p, q, hA0, hV, rfl, hfz, hnd⟩ := hW
  have hA : DataW.TrodAll enc Try.prog W 0 (fun _ => true) true Try.f14.params.toList args.toList ds p := hA0
  have hpar : Try.f14.params = #[72] := by kernel_rfl
  rw [hpar] at hA hval
  obtain ⟨v0, vs0, d0, ds0, p0, q0, hargs, rfl, rfl, h0, r0⟩ := trodAll_cons hA
  obtain ⟨rfl, rfl, rfl⟩ := trodAll_nil r0
  obtain rfl : args = #[v0] := by cases args; simp_all
  obtain ⟨rfl, rfl⟩ := trodVars_none hV
  have lt0 : ∀ x ∈ p0, x.block < W.heap.size := by obtain ⟨m, hm⟩ := h0; exact DataW.trod_lt m _ _ _ hm
  obtain ⟨a0, len0, cap0, rfl⟩ := okWide_slice desc72 (hval 0 72 v0 rfl rfl)
  obtain ⟨x0, A0, R0⟩ := rd_d rd_row16 rfl h0
  refine (fn_law (cauchyLaw_fn x0 A0) rfl ?_).mono fun e W' ⟨he, bel⟩ => ?_
  · simp only [RepVs, RepV]
    exact ⟨⟨_, rfl, R0⟩, trivial⟩
  subst he
  exact ⟨_, rfl, _, _, _, [], _, [], hW', trodAll_mk1 (shut_bool desc4 _), (trodAll_cons_mk (Below.trod laid_out (by kernel_rfl) (of_decide_eq_true (by kernel_rfl)) h0 bel lt0) trodAll_mk0), rfl, bel.frame _, fun h => by cases h⟩
theorem joined : joinedFacts Try.prog 14 Try.f14 Rows.rootboundCauchySpec Rows.rootboundCauchyRow = true :=
  joined_of (by kernel_rfl) (by kernel_rfl) (by kernel_rfl) (by kernel_rfl) (by kernel_rfl) (by kernel_rfl) (by kernel_rfl) (by kernel_rfl) (by kernel_rfl) (by kernel_rfl) (by kernel_rfl) plain_keys (by kernel_rfl) (by kernel_rfl) laid_out maps_rowed stops_none knobs_none stops_heard
theorem over : Rows.rootboundCauchyRow.holds Try.pinned (OpenSpec.ofChange Rows.rootboundCauchySpec) :=
  OpenClaim.holds_of_wide 14 Try.f14 rfl rfl rfl rfl rfl rfl rfl ⟨rfl, rfl, rfl, rfl, rfl⟩ rfl rfl rfl rfl rfl (by kernel_rfl) Try.func14 joined
    (of_decide_eq_true (by kernel_rfl)) (by unfold Func.isWrapper; first | (rw [if_pos (by decide +kernel)]; kernel_rfl) | (rw [if_neg (by decide +kernel)]; exact ⟨rfl, rfl⟩))
    (fun os started H enc _ => lifted os started H enc)
theorem proved : Rows.RootboundCauchySaid := over
end Go.Proofs.Ytmlaakadkjmmfaa.rootboundCauchy
namespace Go.Proofs.Ytmlaakadkjmmfaa
/-- The row, under a short name, for the claim. -/
theorem rootboundCauchy_holds : Rows.RootboundCauchySaid := rootboundCauchy.proved
#print axioms rootboundCauchy_holds
end Go.Proofs.Ytmlaakadkjmmfaa

