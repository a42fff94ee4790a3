/-
  WireLost: for every input the law returns true and leaves its arguments as they were. No condition.
-/
import Derived.Test.YtahchfkmpcfefaaGK12
import Derived.Test.YtahchfkmpcfefaaGK14
import Derived.Test.YtahchfkmpcfefaaRows
import Derived.WalkKit
import Derived.ProofKit
import Derived.OpenShut
namespace Go.Proofs.Ytahchfkmpcfefaa
open Go.Am Go.ChangeShapes Go.WideShapes Go.ChangeAt Go.RowKit
set_option linter.unusedVariables false

theorem wireLostOwn : ownKnob Try.prog.godebug = none := by kernel_rfl
theorem wireLostTypes : ∀ t ∈ Try.f6.params.toList, t < Try.prog.types.size := by decide +kernel
set_option maxRecDepth 100000 in
theorem wireLostLifted (os : Os) (started : os.Started) (H : Type) (enc : TypeId × Value → H) :
    ReturnsInHanded {} Try.checked os 6 .any (Rows.wireLostSpec.pre6 enc Try.prog Try.f6 Rows.wireLostRow.domain false) (Rows.wireLostSpec.post enc Try.prog Try.f6 false true false false) := by
  refine returnsInHanded_of_change (C := Try.checked) wireLostOwn started (by kernel_rfl) Try.func6
    (ChangeSpec.witness6 (enc := enc) (C := Try.checked) false ⟨#[], #[.int .i64 0, .int .i64 0, .int .i64 0], []⟩ 8 (by kernel_rfl) (by kernel_rfl) (by kernel_rfl) (by kernel_rfl)) ?_
  intro W base args ds gs before hval0 hW hcnd _
  have hval0 : ∀ (j : Nat) t v, Try.f6.params[j]? = some t → args[j]? = some v → Value.okWide Try.prog W .any base t v := hval0
  have hW' := hW
  obtain ⟨p, q, hA0, hV, rfl, hfz, hnd⟩ := hW
  have hA : DataW.TrodAll enc Try.prog W 0 (fun _ => true) true Try.f6.params.toList args.toList ds p := hA0
  rw [Try.params6] at hA hval0
  obtain ⟨v0, vs0, d0, ds0, p0, q0, hargs, rfl, rfl, h0, r0⟩ := trodAll_cons hA
  obtain ⟨v1, vs1, d1, ds1, p1, q1, rfl, rfl, rfl, h1, r1⟩ := trodAll_cons r0
  obtain ⟨v2, vs2, d2, ds2, p2, q2, rfl, rfl, rfl, h2, r2⟩ := trodAll_cons r1
  obtain ⟨rfl, rfl, rfl⟩ := trodAll_nil r2
  obtain rfl : args = #[v0, v1, v2] := by cases args; simp_all
  obtain ⟨rfl, rfl⟩ := trodVars_none hV
  obtain ⟨a0, o0, R0⟩ := rdv_int W enc 0 v0 d0 p0 (hval0 0 3 v0 rfl rfl) h0
  obtain ⟨a1, o1, R1⟩ := rdv_int W enc 0 v1 d1 p1 (hval0 1 3 v1 rfl rfl) h1
  obtain ⟨a2, o2, R2⟩ := rdv_int W enc 0 v2 d2 p2 (hval0 2 3 v2 rfl rfl) h2
  clear hA0 hval0
  simp only [List.append_nil] at hW'
  refine ((sp_los a0 a1 a2 ).toCalls (RL.more R0 (RL.more R1 (RL.more R2 (RL.none _)))) : Calls Try.prog 6 #[v0, v1, v2] W fun e w' => e = .returned (.bool true) ∧ Below W.heap.size W w').mono fun e W' ⟨he, hg⟩ => ?_
  subst he
  exact ⟨_, rfl, post_of_keep prog_laid prog_mapsRowed prog_full wireLostTypes rfl hW' rfl rfl (fun _ _ _ => (trodAll_cons_mk (shut_bool Try.underlying4 _) trodAll_mk0)) hg (ok_one (by kernel_rfl) rfl (okWide_bool_mk Try.underlying4 _))⟩

theorem wireLostOver : Rows.wireLostRow.holds Try.pinned (OpenSpec.ofChange Rows.wireLostSpec) :=
  OpenClaim.holds_of_wide 6 Try.f6 rfl rfl rfl rfl rfl rfl rfl ⟨rfl, rfl, rfl, rfl, rfl⟩ rfl rfl rfl rfl rfl (by kernel_rfl) Try.func6 (by kernel_rfl)
    (of_decide_eq_true (by kernel_rfl)) (by unfold Func.isWrapper; first | (rw [if_pos (by decide +kernel)]; kernel_rfl) | (rw [if_neg (by decide +kernel)]; exact ⟨rfl, rfl⟩))
    (fun os started H enc _ => wireLostLifted os started H enc)

theorem wireLostProved : Rows.WireLostSaid :=
  wireLostOver
#print axioms wireLostProved
end Go.Proofs.Ytahchfkmpcfefaa
