import Derived.Test.YtkagfenchknjjaaCc
set_option linter.unusedVariables false
set_option linter.unusedSimpArgs false
namespace Go.Proofs.Ytkagfenchknjjaa
open Go Go.Am Go.RowKit

theorem sp_nsk (x : Tm) : Am.Spec Try.prog 60 [.agg (encT x)] (.bool (decide (x.kind = 0))) := by
  refine Am.Spec.of_W (W := W60) Try.func60 (by kernel_rfl) (by kernel_rfl) (by kernel_rfl) Try.ntmps60 W60_eq (rs := [.tmp 2]) (by kernel_rfl) (by simp) ?_
  intro vs
  simp [W60, W60_rs, retW_eq]
theorem sp_nrm (t : Tm) (hw : t.wt ≤ 137438953472) : Am.Spec Try.prog 40 [.agg (encT t)] (.agg (encT t.norm)) := by
  have hwt := t.wt_eq
  refine Am.Spec.of_W (W := W40) Try.func40 (by kernel_rfl) (by kernel_rfl) (by kernel_rfl) Try.ntmps40 W40_eq (rs := [.cell 2 34]) (by kernel_rfl) (by simp) ?_
  intro vs
  simp [W40, W40_rs, W40_c1, W40_c3, W40_c5, W40_c6, W40_c10, W40_c11, W40_c12, W40_c13, W40_c14, W40_c15, W40_c19, W40_c20, W40_c22, W40_c24, W40_c25, W40_c26, W40_c27, W40_c29, W40_c30, W40_c31, W40_c32, W40_c34, W40_c35, W40_c36, W40_c37, W40_b2, W40_b4, W40_b7, W40_b8, W40_b9, W40_b16, W40_b17, W40_b18, W40_b21, W40_b23, W40_b28, W40_b33]
  by_cases h2 : t.l.length = 2
  · obtain ⟨x, y, hl⟩ : ∃ x y, t.l = [x, y] := by
      rcases hl : t.l with _ | ⟨x, _ | ⟨y, _ | ⟨z, r⟩⟩⟩ <;> simp [hl] at h2
      exact ⟨x, y, rfl⟩
    have wx : x.wt < t.wt := by rw [hwt, hl]; simp only [Tm.wts]; omega
    have wy : y.wt < t.wt := by rw [hwt, hl]; simp only [Tm.wts]; omega
    have mx : x ∈ t.l := by rw [hl]; simp
    have my : y ∈ t.l := by rw [hl]; simp
    rw [Tm.norm_two hl]
    by_cases k12 : t.kind = 12
    · rw [if_pos k12]
      simp [W40, W40_rs, W40_c1, W40_c3, W40_c5, W40_c6, W40_c10, W40_c11, W40_c12, W40_c13, W40_c14, W40_c15, W40_c19, W40_c20, W40_c22, W40_c24, W40_c25, W40_c26, W40_c27, W40_c29, W40_c30, W40_c31, W40_c32, W40_c34, W40_c35, W40_c36, W40_c37, W40_b2, W40_b4, W40_b7, W40_b8, W40_b9, W40_b16, W40_b17, W40_b18, W40_b21, W40_b23, W40_b28, W40_b33, k12, hl]
      refine scall_pure (sp_nrm x (by omega)) (by simp) (by simp) ?_
      simp [W40, W40_rs, W40_c1, W40_c3, W40_c5, W40_c6, W40_c10, W40_c11, W40_c12, W40_c13, W40_c14, W40_c15, W40_c19, W40_c20, W40_c22, W40_c24, W40_c25, W40_c26, W40_c27, W40_c29, W40_c30, W40_c31, W40_c32, W40_c34, W40_c35, W40_c36, W40_c37, W40_b2, W40_b4, W40_b7, W40_b8, W40_b9, W40_b16, W40_b17, W40_b18, W40_b21, W40_b23, W40_b28, W40_b33]
      refine scall_flat (sp_nsk x.norm) (by simp) (by simp) rfl ?_
      simp [W40, W40_rs, W40_c1, W40_c3, W40_c5, W40_c6, W40_c10, W40_c11, W40_c12, W40_c13, W40_c14, W40_c15, W40_c19, W40_c20, W40_c22, W40_c24, W40_c25, W40_c26, W40_c27, W40_c29, W40_c30, W40_c31, W40_c32, W40_c34, W40_c35, W40_c36, W40_c37, W40_b2, W40_b4, W40_b7, W40_b8, W40_b9, W40_b16, W40_b17, W40_b18, W40_b21, W40_b23, W40_b28, W40_b33]
      by_cases hx : x.norm.kind = 0
      · simp [W40, W40_rs, W40_c1, W40_c3, W40_c5, W40_c6, W40_c10, W40_c11, W40_c12, W40_c13, W40_c14, W40_c15, W40_c19, W40_c20, W40_c22, W40_c24, W40_c25, W40_c26, W40_c27, W40_c29, W40_c30, W40_c31, W40_c32, W40_c34, W40_c35, W40_c36, W40_c37, W40_b2, W40_b4, W40_b7, W40_b8, W40_b9, W40_b16, W40_b17, W40_b18, W40_b21, W40_b23, W40_b28, W40_b33, hx, hl]
        refine scall_pure (sp_nrm y (by omega)) (by simp) (by simp) ?_
        simp [W40, W40_rs, W40_c1, W40_c3, W40_c5, W40_c6, W40_c10, W40_c11, W40_c12, W40_c13, W40_c14, W40_c15, W40_c19, W40_c20, W40_c22, W40_c24, W40_c25, W40_c26, W40_c27, W40_c29, W40_c30, W40_c31, W40_c32, W40_c34, W40_c35, W40_c36, W40_c37, W40_b2, W40_b4, W40_b7, W40_b8, W40_b9, W40_b16, W40_b17, W40_b18, W40_b21, W40_b23, W40_b28, W40_b33, retW_eq, hx]
      · simp [W40, W40_rs, W40_c1, W40_c3, W40_c5, W40_c6, W40_c10, W40_c11, W40_c12, W40_c13, W40_c14, W40_c15, W40_c19, W40_c20, W40_c22, W40_c24, W40_c25, W40_c26, W40_c27, W40_c29, W40_c30, W40_c31, W40_c32, W40_c34, W40_c35, W40_c36, W40_c37, W40_b2, W40_b4, W40_b7, W40_b8, W40_b9, W40_b16, W40_b17, W40_b18, W40_b21, W40_b23, W40_b28, W40_b33, hx, hl]
        refine scall0_pure (sp_own y (by omega)) (by simp) (by simp) ?_
        simp [W40, W40_rs, W40_c1, W40_c3, W40_c5, W40_c6, W40_c10, W40_c11, W40_c12, W40_c13, W40_c14, W40_c15, W40_c19, W40_c20, W40_c22, W40_c24, W40_c25, W40_c26, W40_c27, W40_c29, W40_c30, W40_c31, W40_c32, W40_c34, W40_c35, W40_c36, W40_c37, W40_b2, W40_b4, W40_b7, W40_b8, W40_b9, W40_b16, W40_b17, W40_b18, W40_b21, W40_b23, W40_b28, W40_b33, retW_eq, encT_of, hx]
    · rw [if_neg k12]
      by_cases k11 : t.kind = 11
      · rw [if_pos k11]
        simp [W40, W40_rs, W40_c1, W40_c3, W40_c5, W40_c6, W40_c10, W40_c11, W40_c12, W40_c13, W40_c14, W40_c15, W40_c19, W40_c20, W40_c22, W40_c24, W40_c25, W40_c26, W40_c27, W40_c29, W40_c30, W40_c31, W40_c32, W40_c34, W40_c35, W40_c36, W40_c37, W40_b2, W40_b4, W40_b7, W40_b8, W40_b9, W40_b16, W40_b17, W40_b18, W40_b21, W40_b23, W40_b28, W40_b33, k12, k11, hl]
        refine scall0_pure (sp_nrm x (by omega)) (by simp) (by simp) ?_
        simp [W40, W40_rs, W40_c1, W40_c3, W40_c5, W40_c6, W40_c10, W40_c11, W40_c12, W40_c13, W40_c14, W40_c15, W40_c19, W40_c20, W40_c22, W40_c24, W40_c25, W40_c26, W40_c27, W40_c29, W40_c30, W40_c31, W40_c32, W40_c34, W40_c35, W40_c36, W40_c37, W40_b2, W40_b4, W40_b7, W40_b8, W40_b9, W40_b16, W40_b17, W40_b18, W40_b21, W40_b23, W40_b28, W40_b33, k12, k11, hl]
        refine scall0_pure (sp_nrm y (by omega)) (by simp) (by simp) ?_
        simp [W40, W40_rs, W40_c1, W40_c3, W40_c5, W40_c6, W40_c10, W40_c11, W40_c12, W40_c13, W40_c14, W40_c15, W40_c19, W40_c20, W40_c22, W40_c24, W40_c25, W40_c26, W40_c27, W40_c29, W40_c30, W40_c31, W40_c32, W40_c34, W40_c35, W40_c36, W40_c37, W40_b2, W40_b4, W40_b7, W40_b8, W40_b9, W40_b16, W40_b17, W40_b18, W40_b21, W40_b23, W40_b28, W40_b33]
        refine scall_flat (sp_nsk x.norm) (by simp) (by simp) rfl ?_
        simp [W40, W40_rs, W40_c1, W40_c3, W40_c5, W40_c6, W40_c10, W40_c11, W40_c12, W40_c13, W40_c14, W40_c15, W40_c19, W40_c20, W40_c22, W40_c24, W40_c25, W40_c26, W40_c27, W40_c29, W40_c30, W40_c31, W40_c32, W40_c34, W40_c35, W40_c36, W40_c37, W40_b2, W40_b4, W40_b7, W40_b8, W40_b9, W40_b16, W40_b17, W40_b18, W40_b21, W40_b23, W40_b28, W40_b33]
        by_cases hx : x.norm.kind = 0
        · simp [W40, W40_rs, W40_c1, W40_c3, W40_c5, W40_c6, W40_c10, W40_c11, W40_c12, W40_c13, W40_c14, W40_c15, W40_c19, W40_c20, W40_c22, W40_c24, W40_c25, W40_c26, W40_c27, W40_c29, W40_c30, W40_c31, W40_c32, W40_c34, W40_c35, W40_c36, W40_c37, W40_b2, W40_b4, W40_b7, W40_b8, W40_b9, W40_b16, W40_b17, W40_b18, W40_b21, W40_b23, W40_b28, W40_b33, hx]
          refine scall_flat (sp_nsk y.norm) (by simp) (by simp) rfl ?_
          simp [W40, W40_rs, W40_c1, W40_c3, W40_c5, W40_c6, W40_c10, W40_c11, W40_c12, W40_c13, W40_c14, W40_c15, W40_c19, W40_c20, W40_c22, W40_c24, W40_c25, W40_c26, W40_c27, W40_c29, W40_c30, W40_c31, W40_c32, W40_c34, W40_c35, W40_c36, W40_c37, W40_b2, W40_b4, W40_b7, W40_b8, W40_b9, W40_b16, W40_b17, W40_b18, W40_b21, W40_b23, W40_b28, W40_b33]
          by_cases hy : y.norm.kind = 0
          · simp [W40, W40_rs, W40_c1, W40_c3, W40_c5, W40_c6, W40_c10, W40_c11, W40_c12, W40_c13, W40_c14, W40_c15, W40_c19, W40_c20, W40_c22, W40_c24, W40_c25, W40_c26, W40_c27, W40_c29, W40_c30, W40_c31, W40_c32, W40_c34, W40_c35, W40_c36, W40_c37, W40_b2, W40_b4, W40_b7, W40_b8, W40_b9, W40_b16, W40_b17, W40_b18, W40_b21, W40_b23, W40_b28, W40_b33, hx, hy, retW_eq, encT_skip]
          · simp [W40, W40_rs, W40_c1, W40_c3, W40_c5, W40_c6, W40_c10, W40_c11, W40_c12, W40_c13, W40_c14, W40_c15, W40_c19, W40_c20, W40_c22, W40_c24, W40_c25, W40_c26, W40_c27, W40_c29, W40_c30, W40_c31, W40_c32, W40_c34, W40_c35, W40_c36, W40_c37, W40_b2, W40_b4, W40_b7, W40_b8, W40_b9, W40_b16, W40_b17, W40_b18, W40_b21, W40_b23, W40_b28, W40_b33, hx, hy, retW_eq, encT_of]
        · simp [W40, W40_rs, W40_c1, W40_c3, W40_c5, W40_c6, W40_c10, W40_c11, W40_c12, W40_c13, W40_c14, W40_c15, W40_c19, W40_c20, W40_c22, W40_c24, W40_c25, W40_c26, W40_c27, W40_c29, W40_c30, W40_c31, W40_c32, W40_c34, W40_c35, W40_c36, W40_c37, W40_b2, W40_b4, W40_b7, W40_b8, W40_b9, W40_b16, W40_b17, W40_b18, W40_b21, W40_b23, W40_b28, W40_b33, hx, retW_eq, encT_of]
      · rw [if_neg k11]
        simp [W40, W40_rs, W40_c1, W40_c3, W40_c5, W40_c6, W40_c10, W40_c11, W40_c12, W40_c13, W40_c14, W40_c15, W40_c19, W40_c20, W40_c22, W40_c24, W40_c25, W40_c26, W40_c27, W40_c29, W40_c30, W40_c31, W40_c32, W40_c34, W40_c35, W40_c36, W40_c37, W40_b2, W40_b4, W40_b7, W40_b8, W40_b9, W40_b16, W40_b17, W40_b18, W40_b21, W40_b23, W40_b28, W40_b33, k12, k11, hl]
        by_cases k7 : t.kind = 7
        · simp [W40, W40_rs, W40_c1, W40_c3, W40_c5, W40_c6, W40_c10, W40_c11, W40_c12, W40_c13, W40_c14, W40_c15, W40_c19, W40_c20, W40_c22, W40_c24, W40_c25, W40_c26, W40_c27, W40_c29, W40_c30, W40_c31, W40_c32, W40_c34, W40_c35, W40_c36, W40_c37, W40_b2, W40_b4, W40_b7, W40_b8, W40_b9, W40_b16, W40_b17, W40_b18, W40_b21, W40_b23, W40_b28, W40_b33, k7, hl]
          refine scall_pure (sp_own t (by omega)) (by simp) (by simp) ?_
          simp [W40, W40_rs, W40_c1, W40_c3, W40_c5, W40_c6, W40_c10, W40_c11, W40_c12, W40_c13, W40_c14, W40_c15, W40_c19, W40_c20, W40_c22, W40_c24, W40_c25, W40_c26, W40_c27, W40_c29, W40_c30, W40_c31, W40_c32, W40_c34, W40_c35, W40_c36, W40_c37, W40_b2, W40_b4, W40_b7, W40_b8, W40_b9, W40_b16, W40_b17, W40_b18, W40_b21, W40_b23, W40_b28, W40_b33, retW_eq]
        · simp [W40, W40_rs, W40_c1, W40_c3, W40_c5, W40_c6, W40_c10, W40_c11, W40_c12, W40_c13, W40_c14, W40_c15, W40_c19, W40_c20, W40_c22, W40_c24, W40_c25, W40_c26, W40_c27, W40_c29, W40_c30, W40_c31, W40_c32, W40_c34, W40_c35, W40_c36, W40_c37, W40_b2, W40_b4, W40_b7, W40_b8, W40_b9, W40_b16, W40_b17, W40_b18, W40_b21, W40_b23, W40_b28, W40_b33, k7]
          refine scall_pure (sp_own t (by omega)) (by simp) (by simp) ?_
          simp [W40, W40_rs, W40_c1, W40_c3, W40_c5, W40_c6, W40_c10, W40_c11, W40_c12, W40_c13, W40_c14, W40_c15, W40_c19, W40_c20, W40_c22, W40_c24, W40_c25, W40_c26, W40_c27, W40_c29, W40_c30, W40_c31, W40_c32, W40_c34, W40_c35, W40_c36, W40_c37, W40_b2, W40_b4, W40_b7, W40_b8, W40_b9, W40_b16, W40_b17, W40_b18, W40_b21, W40_b23, W40_b28, W40_b33, retW_eq]
  · by_cases h1 : t.l.length = 1
    · obtain ⟨x, hl⟩ : ∃ x, t.l = [x] := by
        rcases hl : t.l with _ | ⟨x, _ | ⟨y, r⟩⟩ <;> simp [hl] at h1
        exact ⟨x, rfl⟩
      have wx : x.wt < t.wt := by rw [hwt, hl]; simp only [Tm.wts]; omega
      have mx : x ∈ t.l := by rw [hl]; simp
      rw [Tm.norm_one hl]
      by_cases k7 : t.kind = 7
      · rw [if_pos k7]
        simp [W40, W40_rs, W40_c1, W40_c3, W40_c5, W40_c6, W40_c10, W40_c11, W40_c12, W40_c13, W40_c14, W40_c15, W40_c19, W40_c20, W40_c22, W40_c24, W40_c25, W40_c26, W40_c27, W40_c29, W40_c30, W40_c31, W40_c32, W40_c34, W40_c35, W40_c36, W40_c37, W40_b2, W40_b4, W40_b7, W40_b8, W40_b9, W40_b16, W40_b17, W40_b18, W40_b21, W40_b23, W40_b28, W40_b33, k7, hl]
        refine scall_pure (sp_nrm x (by omega)) (by simp) (by simp) ?_
        simp [W40, W40_rs, W40_c1, W40_c3, W40_c5, W40_c6, W40_c10, W40_c11, W40_c12, W40_c13, W40_c14, W40_c15, W40_c19, W40_c20, W40_c22, W40_c24, W40_c25, W40_c26, W40_c27, W40_c29, W40_c30, W40_c31, W40_c32, W40_c34, W40_c35, W40_c36, W40_c37, W40_b2, W40_b4, W40_b7, W40_b8, W40_b9, W40_b16, W40_b17, W40_b18, W40_b21, W40_b23, W40_b28, W40_b33]
        refine scall_flat (sp_nsk x.norm) (by simp) (by simp) rfl ?_
        simp [W40, W40_rs, W40_c1, W40_c3, W40_c5, W40_c6, W40_c10, W40_c11, W40_c12, W40_c13, W40_c14, W40_c15, W40_c19, W40_c20, W40_c22, W40_c24, W40_c25, W40_c26, W40_c27, W40_c29, W40_c30, W40_c31, W40_c32, W40_c34, W40_c35, W40_c36, W40_c37, W40_b2, W40_b4, W40_b7, W40_b8, W40_b9, W40_b16, W40_b17, W40_b18, W40_b21, W40_b23, W40_b28, W40_b33]
        by_cases hx : x.norm.kind = 0
        · simp [W40, W40_rs, W40_c1, W40_c3, W40_c5, W40_c6, W40_c10, W40_c11, W40_c12, W40_c13, W40_c14, W40_c15, W40_c19, W40_c20, W40_c22, W40_c24, W40_c25, W40_c26, W40_c27, W40_c29, W40_c30, W40_c31, W40_c32, W40_c34, W40_c35, W40_c36, W40_c37, W40_b2, W40_b4, W40_b7, W40_b8, W40_b9, W40_b16, W40_b17, W40_b18, W40_b21, W40_b23, W40_b28, W40_b33, hx, retW_eq, encT_skip]
        · simp [W40, W40_rs, W40_c1, W40_c3, W40_c5, W40_c6, W40_c10, W40_c11, W40_c12, W40_c13, W40_c14, W40_c15, W40_c19, W40_c20, W40_c22, W40_c24, W40_c25, W40_c26, W40_c27, W40_c29, W40_c30, W40_c31, W40_c32, W40_c34, W40_c35, W40_c36, W40_c37, W40_b2, W40_b4, W40_b7, W40_b8, W40_b9, W40_b16, W40_b17, W40_b18, W40_b21, W40_b23, W40_b28, W40_b33, hx, retW_eq, encT_of]
      · rw [if_neg k7]
        by_cases k12 : t.kind = 12
        · simp [W40, W40_rs, W40_c1, W40_c3, W40_c5, W40_c6, W40_c10, W40_c11, W40_c12, W40_c13, W40_c14, W40_c15, W40_c19, W40_c20, W40_c22, W40_c24, W40_c25, W40_c26, W40_c27, W40_c29, W40_c30, W40_c31, W40_c32, W40_c34, W40_c35, W40_c36, W40_c37, W40_b2, W40_b4, W40_b7, W40_b8, W40_b9, W40_b16, W40_b17, W40_b18, W40_b21, W40_b23, W40_b28, W40_b33, k12, hl]
          refine scall_pure (sp_own t (by omega)) (by simp) (by simp) ?_
          simp [W40, W40_rs, W40_c1, W40_c3, W40_c5, W40_c6, W40_c10, W40_c11, W40_c12, W40_c13, W40_c14, W40_c15, W40_c19, W40_c20, W40_c22, W40_c24, W40_c25, W40_c26, W40_c27, W40_c29, W40_c30, W40_c31, W40_c32, W40_c34, W40_c35, W40_c36, W40_c37, W40_b2, W40_b4, W40_b7, W40_b8, W40_b9, W40_b16, W40_b17, W40_b18, W40_b21, W40_b23, W40_b28, W40_b33, retW_eq]
        · by_cases k11 : t.kind = 11
          · simp [W40, W40_rs, W40_c1, W40_c3, W40_c5, W40_c6, W40_c10, W40_c11, W40_c12, W40_c13, W40_c14, W40_c15, W40_c19, W40_c20, W40_c22, W40_c24, W40_c25, W40_c26, W40_c27, W40_c29, W40_c30, W40_c31, W40_c32, W40_c34, W40_c35, W40_c36, W40_c37, W40_b2, W40_b4, W40_b7, W40_b8, W40_b9, W40_b16, W40_b17, W40_b18, W40_b21, W40_b23, W40_b28, W40_b33, k12, k11, hl]
            refine scall_pure (sp_own t (by omega)) (by simp) (by simp) ?_
            simp [W40, W40_rs, W40_c1, W40_c3, W40_c5, W40_c6, W40_c10, W40_c11, W40_c12, W40_c13, W40_c14, W40_c15, W40_c19, W40_c20, W40_c22, W40_c24, W40_c25, W40_c26, W40_c27, W40_c29, W40_c30, W40_c31, W40_c32, W40_c34, W40_c35, W40_c36, W40_c37, W40_b2, W40_b4, W40_b7, W40_b8, W40_b9, W40_b16, W40_b17, W40_b18, W40_b21, W40_b23, W40_b28, W40_b33, retW_eq]
          · simp [W40, W40_rs, W40_c1, W40_c3, W40_c5, W40_c6, W40_c10, W40_c11, W40_c12, W40_c13, W40_c14, W40_c15, W40_c19, W40_c20, W40_c22, W40_c24, W40_c25, W40_c26, W40_c27, W40_c29, W40_c30, W40_c31, W40_c32, W40_c34, W40_c35, W40_c36, W40_c37, W40_b2, W40_b4, W40_b7, W40_b8, W40_b9, W40_b16, W40_b17, W40_b18, W40_b21, W40_b23, W40_b28, W40_b33, k12, k11, k7, hl]
            refine scall_pure (sp_own t (by omega)) (by simp) (by simp) ?_
            simp [W40, W40_rs, W40_c1, W40_c3, W40_c5, W40_c6, W40_c10, W40_c11, W40_c12, W40_c13, W40_c14, W40_c15, W40_c19, W40_c20, W40_c22, W40_c24, W40_c25, W40_c26, W40_c27, W40_c29, W40_c30, W40_c31, W40_c32, W40_c34, W40_c35, W40_c36, W40_c37, W40_b2, W40_b4, W40_b7, W40_b8, W40_b9, W40_b16, W40_b17, W40_b18, W40_b21, W40_b23, W40_b28, W40_b33, retW_eq]
    · rw [Tm.norm_else h1 h2]
      have g1 : ¬ (t.l.length : Int) = 1 := by omega
      have g2 : ¬ (t.l.length : Int) = 2 := by omega
      by_cases k12 : t.kind = 12
      · simp [W40, W40_rs, W40_c1, W40_c3, W40_c5, W40_c6, W40_c10, W40_c11, W40_c12, W40_c13, W40_c14, W40_c15, W40_c19, W40_c20, W40_c22, W40_c24, W40_c25, W40_c26, W40_c27, W40_c29, W40_c30, W40_c31, W40_c32, W40_c34, W40_c35, W40_c36, W40_c37, W40_b2, W40_b4, W40_b7, W40_b8, W40_b9, W40_b16, W40_b17, W40_b18, W40_b21, W40_b23, W40_b28, W40_b33, k12, g2, g1]
        refine scall_pure (sp_own t (by omega)) (by simp) (by simp) ?_
        simp [W40, W40_rs, W40_c1, W40_c3, W40_c5, W40_c6, W40_c10, W40_c11, W40_c12, W40_c13, W40_c14, W40_c15, W40_c19, W40_c20, W40_c22, W40_c24, W40_c25, W40_c26, W40_c27, W40_c29, W40_c30, W40_c31, W40_c32, W40_c34, W40_c35, W40_c36, W40_c37, W40_b2, W40_b4, W40_b7, W40_b8, W40_b9, W40_b16, W40_b17, W40_b18, W40_b21, W40_b23, W40_b28, W40_b33, retW_eq]
      · by_cases k11 : t.kind = 11
        · simp [W40, W40_rs, W40_c1, W40_c3, W40_c5, W40_c6, W40_c10, W40_c11, W40_c12, W40_c13, W40_c14, W40_c15, W40_c19, W40_c20, W40_c22, W40_c24, W40_c25, W40_c26, W40_c27, W40_c29, W40_c30, W40_c31, W40_c32, W40_c34, W40_c35, W40_c36, W40_c37, W40_b2, W40_b4, W40_b7, W40_b8, W40_b9, W40_b16, W40_b17, W40_b18, W40_b21, W40_b23, W40_b28, W40_b33, k12, k11, g2, g1]
          refine scall_pure (sp_own t (by omega)) (by simp) (by simp) ?_
          simp [W40, W40_rs, W40_c1, W40_c3, W40_c5, W40_c6, W40_c10, W40_c11, W40_c12, W40_c13, W40_c14, W40_c15, W40_c19, W40_c20, W40_c22, W40_c24, W40_c25, W40_c26, W40_c27, W40_c29, W40_c30, W40_c31, W40_c32, W40_c34, W40_c35, W40_c36, W40_c37, W40_b2, W40_b4, W40_b7, W40_b8, W40_b9, W40_b16, W40_b17, W40_b18, W40_b21, W40_b23, W40_b28, W40_b33, retW_eq]
        · by_cases k7 : t.kind = 7
          · simp [W40, W40_rs, W40_c1, W40_c3, W40_c5, W40_c6, W40_c10, W40_c11, W40_c12, W40_c13, W40_c14, W40_c15, W40_c19, W40_c20, W40_c22, W40_c24, W40_c25, W40_c26, W40_c27, W40_c29, W40_c30, W40_c31, W40_c32, W40_c34, W40_c35, W40_c36, W40_c37, W40_b2, W40_b4, W40_b7, W40_b8, W40_b9, W40_b16, W40_b17, W40_b18, W40_b21, W40_b23, W40_b28, W40_b33, k12, k11, k7, g1, g2]
            refine scall_pure (sp_own t (by omega)) (by simp) (by simp) ?_
            simp [W40, W40_rs, W40_c1, W40_c3, W40_c5, W40_c6, W40_c10, W40_c11, W40_c12, W40_c13, W40_c14, W40_c15, W40_c19, W40_c20, W40_c22, W40_c24, W40_c25, W40_c26, W40_c27, W40_c29, W40_c30, W40_c31, W40_c32, W40_c34, W40_c35, W40_c36, W40_c37, W40_b2, W40_b4, W40_b7, W40_b8, W40_b9, W40_b16, W40_b17, W40_b18, W40_b21, W40_b23, W40_b28, W40_b33, retW_eq]
          · simp [W40, W40_rs, W40_c1, W40_c3, W40_c5, W40_c6, W40_c10, W40_c11, W40_c12, W40_c13, W40_c14, W40_c15, W40_c19, W40_c20, W40_c22, W40_c24, W40_c25, W40_c26, W40_c27, W40_c29, W40_c30, W40_c31, W40_c32, W40_c34, W40_c35, W40_c36, W40_c37, W40_b2, W40_b4, W40_b7, W40_b8, W40_b9, W40_b16, W40_b17, W40_b18, W40_b21, W40_b23, W40_b28, W40_b33, k12, k11, k7, g1, g2]
            refine scall_pure (sp_own t (by omega)) (by simp) (by simp) ?_
            simp [W40, W40_rs, W40_c1, W40_c3, W40_c5, W40_c6, W40_c10, W40_c11, W40_c12, W40_c13, W40_c14, W40_c15, W40_c19, W40_c20, W40_c22, W40_c24, W40_c25, W40_c26, W40_c27, W40_c29, W40_c30, W40_c31, W40_c32, W40_c34, W40_c35, W40_c36, W40_c37, W40_b2, W40_b4, W40_b7, W40_b8, W40_b9, W40_b16, W40_b17, W40_b18, W40_b21, W40_b23, W40_b28, W40_b33, retW_eq]
termination_by SizeOf.sizeOf t
decreasing_by all_goals exact Tm.lt_of_mem (by assumption)
end Go.Proofs.Ytkagfenchknjjaa
