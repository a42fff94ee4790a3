/-
  RunStacks: for every input the law returns true and leaves its arguments as they were. No condition.
-/
import Derived.Test.YtnngddgaobhkiaaGreatGI29
import Derived.Test.YtnngddgaobhkiaaGreatGR27
import Derived.Test.YtnngddgaobhkiaaGreatRows
import Derived.WalkKit
import Derived.ProofKit
import Derived.OpenShut
namespace Go.Proofs.YtnngddgaobhkiaaGreat
open Go.Am Go.ChangeShapes Go.WideShapes Go.ChangeAt Go.RowKit
set_option linter.unusedVariables false

theorem runStacksOwn : ownKnob Tryz.prog.godebug = none := by kernel_rfl
theorem runStacksTypes : ∀ t ∈ Tryz.f5.params.toList, t < Tryz.prog.types.size := by decide +kernel
set_option maxRecDepth 100000 in
theorem runStacksLifted (os : Os) (started : os.Started) (H : Type) (enc : TypeId × Value → H) :
    ReturnsInHanded {} Tryz.checked os 5 .any (Rows.runStacksSpec.pre6 enc Tryz.prog Tryz.f5 Rows.runStacksRow.domain false) (Rows.runStacksSpec.post enc Tryz.prog Tryz.f5 false true false false) := by
  refine returnsInHanded_of_change (C := Tryz.checked) runStacksOwn started (by kernel_rfl) Tryz.func5
    (ChangeSpec.witness6 (enc := enc) (C := Tryz.checked) false ⟨#[], #[.agg #[.int .i64 0, .int .i64 0, .slice none 0 0], .slice none 0 0], []⟩ 8 (by kernel_rfl) (by kernel_rfl) (by kernel_rfl) (by kernel_rfl)) ?_
  intro W base args ds gs before hval0 hW hcnd _
  have hval0 : ∀ (j : Nat) t v, Tryz.f5.params[j]? = some t → args[j]? = some v → Value.okWide Tryz.prog W .any base t v := hval0
  have hW' := hW
  obtain ⟨p, q, hA0, hV, rfl, hfz, hnd⟩ := hW
  have hA : DataW.TrodAll enc Tryz.prog W 0 (fun _ => true) true Tryz.f5.params.toList args.toList ds p := hA0
  rw [Tryz.params5] at hA hval0
  obtain ⟨v0, vs0, d0, ds0, p0, q0, hargs, rfl, rfl, h0, r0⟩ := trodAll_cons hA
  obtain ⟨v1, vs1, d1, ds1, p1, q1, rfl, rfl, rfl, h1, r1⟩ := trodAll_cons r0
  obtain ⟨rfl, rfl, rfl⟩ := trodAll_nil r1
  obtain rfl : args = #[v0, v1] := by cases args; simp_all
  obtain ⟨rfl, rfl⟩ := trodVars_none hV
  obtain ⟨a0, o0, R0⟩ := rdv_Sh W enc 0 v0 d0 p0 (hval0 0 24 v0 rfl rfl) h0
  obtain ⟨a1, o1, R1⟩ := rdv_Is W enc 0 v1 d1 p1 (hval0 1 25 v1 rfl rfl) h1
  clear hA0 hval0
  simp only [List.append_nil] at hW'
  refine ((sp_rst a0 a1 o0 o1).toCalls (RL.more R0 (RL.more R1 (RL.none _))) : Calls Tryz.prog 5 #[v0, v1] W fun e w' => e = .returned (.bool true) ∧ Below W.heap.size W w').mono fun e W' ⟨he, hg⟩ => ?_
  subst he
  exact ⟨_, rfl, post_of_keep prog_laid prog_mapsRowed prog_full runStacksTypes rfl hW' rfl rfl (fun _ _ _ => (trodAll_cons_mk (shut_bool Tryz.underlying4 _) trodAll_mk0)) hg (ok_one (by kernel_rfl) rfl (okWide_bool_mk Tryz.underlying4 _))⟩

theorem runStacksOver : Rows.runStacksRow.holds Tryz.pinned (OpenSpec.ofChange Rows.runStacksSpec) :=
  OpenClaim.holds_of_wide 5 Tryz.f5 rfl rfl rfl rfl rfl rfl rfl ⟨rfl, rfl, rfl, rfl, rfl⟩ rfl rfl rfl rfl rfl (by kernel_rfl) Tryz.func5 (by kernel_rfl)
    (of_decide_eq_true (by kernel_rfl)) (by unfold Func.isWrapper; first | (rw [if_pos (by decide +kernel)]; kernel_rfl) | (rw [if_neg (by decide +kernel)]; exact ⟨rfl, rfl⟩))
    (fun os started H enc _ => runStacksLifted os started H enc)

theorem runStacksProved : Rows.RunStacksSaid :=
  runStacksOver
#print axioms runStacksProved
end Go.Proofs.YtnngddgaobhkiaaGreat
