import Derived.WalkKit
import Derived.Orders
import Derived.Below
import Derived.Laws.AppendOwn
import Derived.Calls
import Derived.OpenShut
import Derived.ChangeArms
import Derived.ChangeShapes
import Derived.WideShapes
import Derived.KernelRfl
import Derived.JoinedOf
import Derived.Scope
import Derived.ProofKit
import Derived.ShutString
import Derived.ChangeOld
import Derived.SizedLaws
import Derived.Test.YtmlaakadkjmmfaaProg
import Derived.Test.YtmlaakadkjmmfaaRows
import Derived.Test.YtmlaakadkjmmfaaEvalsx0
import Derived.Test.YtmlaakadkjmmfaaEvalsx1
import Derived.Test.YtmlaakadkjmmfaaEvalsx2
import Derived.Test.YtmlaakadkjmmfaaEvalsx3
import Derived.Test.YtmlaakadkjmmfaaEvalsx4
import Derived.Test.YtmlaakadkjmmfaaEvalsx5
/- Eval, EvalRat and SignAt return the value and the sign of the reference, for every polynomial and every fraction. -/
namespace Go.Proofs.Ytmlaakadkjmmfaa.unipolyEvals
open Go.ChangeShapes Go.WideShapes Go.ChangeAt Go.RowKit Go.Abs
set_option linter.unusedVariables false
theorem own : ownKnob Try.prog.godebug = none := by kernel_rfl
set_option maxRecDepth 100000 in
theorem lifted (os : Os) (started : os.Started) (H : Type) (enc : TypeId × Value → H) :
    ReturnsInHanded {} Try.checked os 11 .any (Rows.unipolyEvalsSpec.pre6 enc Try.prog Try.f11 Rows.unipolyEvalsRow.domain false) (Rows.unipolyEvalsSpec.post enc Try.prog Try.f11 false true false false) := by
  refine returnsInHanded_of_change_sized (C := Try.checked) own started (by kernel_rfl) Try.func11
    (ChangeSpec.witness6 (enc := enc) (C := Try.checked) false ⟨#[], #[.slice none 0 0, .agg #[.bool false, .slice none 0 0, .slice none 0 0]], []⟩ 8 (by kernel_rfl) (by kernel_rfl) (by kernel_rfl) (by kernel_rfl)) ?_
  intro W base args ds gs before hval0 hW hcnd hsz0 _
  have hval : ∀ (j : Nat) t v, Try.f11.params[j]? = some t → args[j]? = some v → Value.okWide Try.prog W .any base t v := hval0
  have hW' := hW
  obtain ⟨p, q, hA0, hV, rfl, hfz, hnd⟩ := hW
  have hA : DataW.TrodAll enc Try.prog W 0 (fun _ => true) true Try.f11.params.toList args.toList ds p := hA0
  have hpar : Try.f11.params = #[23, 78] := by kernel_rfl
  rw [hpar] at hA hval
  obtain ⟨v0, vs0, d0, ds0, p0, q0, hargs, rfl, rfl, h0, r0⟩ := trodAll_cons hA
  obtain ⟨v1, vs1, d1, ds1, p1, q1, rfl, rfl, rfl, h1, r1⟩ := trodAll_cons r0
  obtain ⟨rfl, rfl, rfl⟩ := trodAll_nil r1
  obtain rfl : args = #[v0, v1] := by cases args; simp_all
  obtain ⟨rfl, rfl⟩ := trodVars_none hV
  have lt0 : ∀ x ∈ p0, x.block < W.heap.size := by obtain ⟨m, hm⟩ := h0; exact DataW.trod_lt m _ _ _ hm
  obtain ⟨a0, len0, cap0, rfl⟩ := okWide_slice desc23 (hval 0 23 v0 rfl rfl)
  obtain ⟨x0, A0, R0⟩ := rd_d rd_poly rfl h0
  have lt1 : ∀ x ∈ p1, x.block < W.heap.size := by obtain ⟨m, hm⟩ := h1; exact DataW.trod_lt m _ _ _ hm
  obtain ⟨fs1, hfs1⟩ := struct_ty (t := 78) (by kernel_rfl)
  obtain ⟨cs1, rfl, _⟩ := okWide_struct hfs1 (hval 1 78 v1 rfl rfl)
  obtain ⟨x1, A1, R1⟩ := rd_agg (bt := fun _ => none) rd_rat h1
  simp only [RepV] at R1
  refine (fn_law (evals_fn x0 x1 A0 A1) rfl ?_).mono fun e W' ⟨he, bel⟩ => ?_
  · simp only [RepVs, RepV]
    exact ⟨⟨_, rfl, R0⟩, ⟨_, rfl, R1⟩, trivial⟩
  subst he
  exact ⟨_, rfl, _, _, _, [], _, [], hW', trodAll_mk1 (shut_bool desc4 _), (trodAll_cons_mk (Below.trod laid_out (by kernel_rfl) (of_decide_eq_true (by kernel_rfl)) h0 bel lt0) (trodAll_cons_mk (Below.trod laid_out (by kernel_rfl) (of_decide_eq_true (by kernel_rfl)) h1 bel lt1) trodAll_mk0)), rfl, bel.frame _, fun h => by cases h⟩
theorem joined : joinedFacts Try.prog 11 Try.f11 Rows.unipolyEvalsSpec Rows.unipolyEvalsRow = true :=
  joined_of (by kernel_rfl) (by kernel_rfl) (by kernel_rfl) (by kernel_rfl) (by kernel_rfl) (by kernel_rfl) (by kernel_rfl) (by kernel_rfl) (by kernel_rfl) (by kernel_rfl) (by kernel_rfl) plain_keys (by kernel_rfl) (by kernel_rfl) laid_out maps_rowed stops_none knobs_none stops_heard
theorem over : Rows.unipolyEvalsRow.holds Try.pinned (OpenSpec.ofChange Rows.unipolyEvalsSpec) :=
  OpenClaim.holds_of_wide 11 Try.f11 rfl rfl rfl rfl rfl rfl rfl ⟨rfl, rfl, rfl, rfl, rfl⟩ rfl rfl rfl rfl rfl (by kernel_rfl) Try.func11 joined
    (of_decide_eq_true (by kernel_rfl)) (by unfold Func.isWrapper; first | (rw [if_pos (by decide +kernel)]; kernel_rfl) | (rw [if_neg (by decide +kernel)]; exact ⟨rfl, rfl⟩))
    (fun os started H enc _ => lifted os started H enc)
theorem proved : Rows.UnipolyEvalsSaid := over
end Go.Proofs.Ytmlaakadkjmmfaa.unipolyEvals
namespace Go.Proofs.Ytmlaakadkjmmfaa
/-- The row, under a short name, for the claim. -/
theorem unipolyEvals_holds : Rows.UnipolyEvalsSaid := unipolyEvals.proved
#print axioms unipolyEvals_holds
end Go.Proofs.Ytmlaakadkjmmfaa

