/-
  RunChecks: for every input the law returns true and leaves its arguments as they were. No condition.
-/
import Derived.Test.YtnngddgaobhkiaaGreatGI28
import Derived.Test.YtnngddgaobhkiaaGreatGR22
import Derived.Test.YtnngddgaobhkiaaGreatRows
import Derived.WalkKit
import Derived.ProofKit
import Derived.OpenShut
namespace Go.Proofs.YtnngddgaobhkiaaGreat
open Go.Am Go.ChangeShapes Go.WideShapes Go.ChangeAt Go.RowKit
set_option linter.unusedVariables false

theorem runChecksOwn : ownKnob Tryz.prog.godebug = none := by kernel_rfl
theorem runChecksTypes : ∀ t ∈ Tryz.f4.params.toList, t < Tryz.prog.types.size := by decide +kernel
set_option maxRecDepth 100000 in
theorem runChecksLifted (os : Os) (started : os.Started) (H : Type) (enc : TypeId × Value → H) :
    ReturnsInHanded {} Tryz.checked os 4 .any (Rows.runChecksSpec.pre6 enc Tryz.prog Tryz.f4 Rows.runChecksRow.domain false) (Rows.runChecksSpec.post enc Tryz.prog Tryz.f4 false true false false) := by
  refine returnsInHanded_of_change (C := Tryz.checked) runChecksOwn started (by kernel_rfl) Tryz.func4
    (ChangeSpec.witness6 (enc := enc) (C := Tryz.checked) false ⟨#[], #[.agg #[.int .i64 0, .int .i64 0, .slice none 0 0], .agg #[.slice none 0 0, .int .i64 0, .slice none 0 0, .int .i64 0], .int .i64 0, .int .i64 0, .int .i64 0], []⟩ 8 (by kernel_rfl) (by kernel_rfl) (by kernel_rfl) (by kernel_rfl)) ?_
  intro W base args ds gs before hval0 hW hcnd _
  have hval0 : ∀ (j : Nat) t v, Tryz.f4.params[j]? = some t → args[j]? = some v → Value.okWide Tryz.prog W .any base t v := hval0
  have hW' := hW
  obtain ⟨p, q, hA0, hV, rfl, hfz, hnd⟩ := hW
  have hA : DataW.TrodAll enc Tryz.prog W 0 (fun _ => true) true Tryz.f4.params.toList args.toList ds p := hA0
  rw [Tryz.params4] at hA hval0
  obtain ⟨v0, vs0, d0, ds0, p0, q0, hargs, rfl, rfl, h0, r0⟩ := trodAll_cons hA
  obtain ⟨v1, vs1, d1, ds1, p1, q1, rfl, rfl, rfl, h1, r1⟩ := trodAll_cons r0
  obtain ⟨v2, vs2, d2, ds2, p2, q2, rfl, rfl, rfl, h2, r2⟩ := trodAll_cons r1
  obtain ⟨v3, vs3, d3, ds3, p3, q3, rfl, rfl, rfl, h3, r3⟩ := trodAll_cons r2
  obtain ⟨v4, vs4, d4, ds4, p4, q4, rfl, rfl, rfl, h4, r4⟩ := trodAll_cons r3
  obtain ⟨rfl, rfl, rfl⟩ := trodAll_nil r4
  obtain rfl : args = #[v0, v1, v2, v3, v4] := by cases args; simp_all
  obtain ⟨rfl, rfl⟩ := trodVars_none hV
  obtain ⟨a0, o0, R0⟩ := rdv_Sh W enc 0 v0 d0 p0 (hval0 0 24 v0 rfl rfl) h0
  obtain ⟨a1, o1, R1⟩ := rdv_Co W enc 0 v1 d1 p1 (hval0 1 29 v1 rfl rfl) h1
  obtain ⟨a2, o2, R2⟩ := rdv_int W enc 0 v2 d2 p2 (hval0 2 3 v2 rfl rfl) h2
  obtain ⟨a3, o3, R3⟩ := rdv_int W enc 0 v3 d3 p3 (hval0 3 3 v3 rfl rfl) h3
  obtain ⟨a4, o4, R4⟩ := rdv_int W enc 0 v4 d4 p4 (hval0 4 3 v4 rfl rfl) h4
  clear hA0 hval0
  simp only [List.append_nil] at hW'
  refine ((sp_cks a0 a1 a2 a3 a4 o0 o1).toCalls (RL.more R0 (RL.more R1 (RL.more R2 (RL.more R3 (RL.more R4 (RL.none _)))))) : Calls Tryz.prog 4 #[v0, v1, v2, v3, v4] W fun e w' => e = .returned (.bool true) ∧ Below W.heap.size W w').mono fun e W' ⟨he, hg⟩ => ?_
  subst he
  exact ⟨_, rfl, post_of_keep prog_laid prog_mapsRowed prog_full runChecksTypes rfl hW' rfl rfl (fun _ _ _ => (trodAll_cons_mk (shut_bool Tryz.underlying4 _) trodAll_mk0)) hg (ok_one (by kernel_rfl) rfl (okWide_bool_mk Tryz.underlying4 _))⟩

theorem runChecksOver : Rows.runChecksRow.holds Tryz.pinned (OpenSpec.ofChange Rows.runChecksSpec) :=
  OpenClaim.holds_of_wide 4 Tryz.f4 rfl rfl rfl rfl rfl rfl rfl ⟨rfl, rfl, rfl, rfl, rfl⟩ rfl rfl rfl rfl rfl (by kernel_rfl) Tryz.func4 (by kernel_rfl)
    (of_decide_eq_true (by kernel_rfl)) (by unfold Func.isWrapper; first | (rw [if_pos (by decide +kernel)]; kernel_rfl) | (rw [if_neg (by decide +kernel)]; exact ⟨rfl, rfl⟩))
    (fun os started H enc _ => runChecksLifted os started H enc)

theorem runChecksProved : Rows.RunChecksSaid :=
  runChecksOver
#print axioms runChecksProved
end Go.Proofs.YtnngddgaobhkiaaGreat
