import Derived.WalkKit
import Derived.Orders
import Derived.Below
import Derived.Laws.AppendOwn
import Derived.Calls
import Derived.OpenShut
import Derived.ChangeArms
import Derived.ChangeShapes
import Derived.WideShapes
import Derived.KernelRfl
import Derived.JoinedOf
import Derived.Scope
import Derived.ProofKit
import Derived.ShutString
import Derived.ChangeOld
import Derived.SizedLaws
import Derived.Test.YtmlaakadkjmmfaaProg
import Derived.Test.YtmlaakadkjmmfaaRows
import Derived.Test.YtmlaakadkjmmfaaInversex0
import Derived.Test.YtmlaakadkjmmfaaInversex1
import Derived.Test.YtmlaakadkjmmfaaInversex2
import Derived.Test.YtmlaakadkjmmfaaInversex3
import Derived.Test.YtmlaakadkjmmfaaInversex4
/- Shift by c and by -c is the identity, Reverse twice is the identity, and the value of a shifted polynomial is the value at the sum. -/
namespace Go.Proofs.Ytmlaakadkjmmfaa.unipolyInverse
open Go.ChangeShapes Go.WideShapes Go.ChangeAt Go.RowKit Go.Abs
set_option linter.unusedVariables false
theorem own : ownKnob Try.prog.godebug = none := by kernel_rfl
set_option maxRecDepth 100000 in
theorem lifted (os : Os) (started : os.Started) (H : Type) (enc : TypeId × Value → H) :
    ReturnsInHanded {} Try.checked os 13 .any (Rows.unipolyInverseSpec.pre6 enc Try.prog Try.f13 Rows.unipolyInverseRow.domain false) (Rows.unipolyInverseSpec.post enc Try.prog Try.f13 false true false false) := by
  refine returnsInHanded_of_change_sized (C := Try.checked) own started (by kernel_rfl) Try.func13
    (ChangeSpec.witness6 (enc := enc) (C := Try.checked) false ⟨#[], #[.slice none 0 0, .agg #[.bool false, .slice none 0 0], .agg #[.bool false, .slice none 0 0, .slice none 0 0]], []⟩ 8 (by kernel_rfl) (by kernel_rfl) (by kernel_rfl) (by kernel_rfl)) ?_
  intro W base args ds gs before hval0 hW hcnd hsz0 _
  have hval : ∀ (j : Nat) t v, Try.f13.params[j]? = some t → args[j]? = some v → Value.okWide Try.prog W .any base t v := hval0
  have hW' := hW
  obtain ⟨p, q, hA0, hV, rfl, hfz, hnd⟩ := hW
  have hA : DataW.TrodAll enc Try.prog W 0 (fun _ => true) true Try.f13.params.toList args.toList ds p := hA0
  have hpar : Try.f13.params = #[23, 46, 78] := by kernel_rfl
  rw [hpar] at hA hval
  obtain ⟨v0, vs0, d0, ds0, p0, q0, hargs, rfl, rfl, h0, r0⟩ := trodAll_cons hA
  obtain ⟨v1, vs1, d1, ds1, p1, q1, rfl, rfl, rfl, h1, r1⟩ := trodAll_cons r0
  obtain ⟨v2, vs2, d2, ds2, p2, q2, rfl, rfl, rfl, h2, r2⟩ := trodAll_cons r1
  obtain ⟨rfl, rfl, rfl⟩ := trodAll_nil r2
  obtain rfl : args = #[v0, v1, v2] := by cases args; simp_all
  obtain ⟨rfl, rfl⟩ := trodVars_none hV
  have lt0 : ∀ x ∈ p0, x.block < W.heap.size := by obtain ⟨m, hm⟩ := h0; exact DataW.trod_lt m _ _ _ hm
  obtain ⟨a0, len0, cap0, rfl⟩ := okWide_slice desc23 (hval 0 23 v0 rfl rfl)
  obtain ⟨x0, A0, R0⟩ := rd_d rd_poly rfl h0
  have lt1 : ∀ x ∈ p1, x.block < W.heap.size := by obtain ⟨m, hm⟩ := h1; exact DataW.trod_lt m _ _ _ hm
  obtain ⟨fs1, hfs1⟩ := struct_ty (t := 46) (by kernel_rfl)
  obtain ⟨cs1, rfl, _⟩ := okWide_struct hfs1 (hval 1 46 v1 rfl rfl)
  obtain ⟨x1, A1, R1⟩ := rd_agg (bt := fun _ => none) rd_int h1
  have lt2 : ∀ x ∈ p2, x.block < W.heap.size := by obtain ⟨m, hm⟩ := h2; exact DataW.trod_lt m _ _ _ hm
  obtain ⟨fs2, hfs2⟩ := struct_ty (t := 78) (by kernel_rfl)
  obtain ⟨cs2, rfl, _⟩ := okWide_struct hfs2 (hval 2 78 v2 rfl rfl)
  obtain ⟨x2, A2, R2⟩ := rd_agg (bt := fun _ => none) rd_rat h2
  simp only [RepV] at R1
  simp only [RepV] at R2
  refine (fn_law (inverse_fn x0 x1 x2 A0 A1 A2) rfl ?_).mono fun e W' ⟨he, bel⟩ => ?_
  · simp only [RepVs, RepV]
    exact ⟨⟨_, rfl, R0⟩, ⟨_, rfl, R1⟩, ⟨_, rfl, R2⟩, trivial⟩
  subst he
  exact ⟨_, rfl, _, _, _, [], _, [], hW', trodAll_mk1 (shut_bool desc4 _), (trodAll_cons_mk (Below.trod laid_out (by kernel_rfl) (of_decide_eq_true (by kernel_rfl)) h0 bel lt0) (trodAll_cons_mk (Below.trod laid_out (by kernel_rfl) (of_decide_eq_true (by kernel_rfl)) h1 bel lt1) (trodAll_cons_mk (Below.trod laid_out (by kernel_rfl) (of_decide_eq_true (by kernel_rfl)) h2 bel lt2) trodAll_mk0))), rfl, bel.frame _, fun h => by cases h⟩
theorem joined : joinedFacts Try.prog 13 Try.f13 Rows.unipolyInverseSpec Rows.unipolyInverseRow = true :=
  joined_of (by kernel_rfl) (by kernel_rfl) (by kernel_rfl) (by kernel_rfl) (by kernel_rfl) (by kernel_rfl) (by kernel_rfl) (by kernel_rfl) (by kernel_rfl) (by kernel_rfl) (by kernel_rfl) plain_keys (by kernel_rfl) (by kernel_rfl) laid_out maps_rowed stops_none knobs_none stops_heard
theorem over : Rows.unipolyInverseRow.holds Try.pinned (OpenSpec.ofChange Rows.unipolyInverseSpec) :=
  OpenClaim.holds_of_wide 13 Try.f13 rfl rfl rfl rfl rfl rfl rfl ⟨rfl, rfl, rfl, rfl, rfl⟩ rfl rfl rfl rfl rfl (by kernel_rfl) Try.func13 joined
    (of_decide_eq_true (by kernel_rfl)) (by unfold Func.isWrapper; first | (rw [if_pos (by decide +kernel)]; kernel_rfl) | (rw [if_neg (by decide +kernel)]; exact ⟨rfl, rfl⟩))
    (fun os started H enc _ => lifted os started H enc)
theorem proved : Rows.UnipolyInverseSaid := over
end Go.Proofs.Ytmlaakadkjmmfaa.unipolyInverse
namespace Go.Proofs.Ytmlaakadkjmmfaa
/-- The row, under a short name, for the claim. -/
theorem unipolyInverse_holds : Rows.UnipolyInverseSaid := unipolyInverse.proved
#print axioms unipolyInverse_holds
end Go.Proofs.Ytmlaakadkjmmfaa

