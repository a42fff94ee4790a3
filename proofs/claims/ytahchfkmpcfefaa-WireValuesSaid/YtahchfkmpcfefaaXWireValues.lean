/-
  WireValues: for every input the law returns true and leaves its arguments as they were. No condition.
-/
import Derived.Test.YtahchfkmpcfefaaGK12
import Derived.Test.YtahchfkmpcfefaaGK14
import Derived.Test.YtahchfkmpcfefaaRows
import Derived.WalkKit
import Derived.ProofKit
import Derived.OpenShut
namespace Go.Proofs.Ytahchfkmpcfefaa
open Go.Am Go.ChangeShapes Go.WideShapes Go.ChangeAt Go.RowKit
set_option linter.unusedVariables false

theorem wireValuesOwn : ownKnob Try.prog.godebug = none := by kernel_rfl
theorem wireValuesTypes : ∀ t ∈ Try.f4.params.toList, t < Try.prog.types.size := by decide +kernel
set_option maxRecDepth 100000 in
theorem wireValuesLifted (os : Os) (started : os.Started) (H : Type) (enc : TypeId × Value → H) :
    ReturnsInHanded {} Try.checked os 4 .any (Rows.wireValuesSpec.pre6 enc Try.prog Try.f4 Rows.wireValuesRow.domain false) (Rows.wireValuesSpec.post enc Try.prog Try.f4 false true false false) := by
  refine returnsInHanded_of_change (C := Try.checked) wireValuesOwn started (by kernel_rfl) Try.func4
    (ChangeSpec.witness6 (enc := enc) (C := Try.checked) false ⟨#[], #[.slice none 0 0, .int .i64 0], []⟩ 8 (by kernel_rfl) (by kernel_rfl) (by kernel_rfl) (by kernel_rfl)) ?_
  intro W base args ds gs before hval0 hW hcnd _
  have hval0 : ∀ (j : Nat) t v, Try.f4.params[j]? = some t → args[j]? = some v → Value.okWide Try.prog W .any base t v := hval0
  have hW' := hW
  obtain ⟨p, q, hA0, hV, rfl, hfz, hnd⟩ := hW
  have hA : DataW.TrodAll enc Try.prog W 0 (fun _ => true) true Try.f4.params.toList args.toList ds p := hA0
  rw [Try.params4] at hA hval0
  obtain ⟨v0, vs0, d0, ds0, p0, q0, hargs, rfl, rfl, h0, r0⟩ := trodAll_cons hA
  obtain ⟨v1, vs1, d1, ds1, p1, q1, rfl, rfl, rfl, h1, r1⟩ := trodAll_cons r0
  obtain ⟨rfl, rfl, rfl⟩ := trodAll_nil r1
  obtain rfl : args = #[v0, v1] := by cases args; simp_all
  obtain ⟨rfl, rfl⟩ := trodVars_none hV
  obtain ⟨a0, o0, R0⟩ := rdv_Is W enc 0 v0 d0 p0 (hval0 0 22 v0 rfl rfl) h0
  obtain ⟨a1, o1, R1⟩ := rdv_int W enc 0 v1 d1 p1 (hval0 1 3 v1 rfl rfl) h1
  clear hA0 hval0
  simp only [List.append_nil] at hW'
  refine ((sp_wvl a0 a1 o0.1).toCalls (RL.more R0 (RL.more R1 (RL.none _))) : Calls Try.prog 4 #[v0, v1] W fun e w' => e = .returned (.bool true) ∧ Below W.heap.size W w').mono fun e W' ⟨he, hg⟩ => ?_
  subst he
  exact ⟨_, rfl, post_of_keep prog_laid prog_mapsRowed prog_full wireValuesTypes rfl hW' rfl rfl (fun _ _ _ => (trodAll_cons_mk (shut_bool Try.underlying4 _) trodAll_mk0)) hg (ok_one (by kernel_rfl) rfl (okWide_bool_mk Try.underlying4 _))⟩

theorem wireValuesOver : Rows.wireValuesRow.holds Try.pinned (OpenSpec.ofChange Rows.wireValuesSpec) :=
  OpenClaim.holds_of_wide 4 Try.f4 rfl rfl rfl rfl rfl rfl rfl ⟨rfl, rfl, rfl, rfl, rfl⟩ rfl rfl rfl rfl rfl (by kernel_rfl) Try.func4 (by kernel_rfl)
    (of_decide_eq_true (by kernel_rfl)) (by unfold Func.isWrapper; first | (rw [if_pos (by decide +kernel)]; kernel_rfl) | (rw [if_neg (by decide +kernel)]; exact ⟨rfl, rfl⟩))
    (fun os started H enc _ => wireValuesLifted os started H enc)

theorem wireValuesProved : Rows.WireValuesSaid :=
  wireValuesOver
#print axioms wireValuesProved
end Go.Proofs.Ytahchfkmpcfefaa
